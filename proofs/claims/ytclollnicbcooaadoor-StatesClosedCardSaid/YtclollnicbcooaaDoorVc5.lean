/- Texts of this claim put together: Glob. -/
import Derived.Test.YtclollnicbcooaaDoorVc4
import Derived.Test.YtclollnicbcooaaDoorRows
import Derived.Test.YtclollnicbcooaaDoorVc2
import Derived.Lib.LaidTab
import Derived.Lib.LaidU8
import Derived.OpenShut
import Derived.ProofKit
import Derived.LaidLaws
import Derived.Handed
section
set_option linter.unusedVariables false
namespace Go.Proofs.YtclollnicbcooaaDoor.Glob
open Go.ChangeShapes Go.WideShapes Go.ChangeAt Go.RowKit

def laidL : List (String × DataW Unit) := [("math/bits.deBruijn32tab", Rows.laid_math_bits_deBruijn32tab), ("math/bits.deBruijn64tab", Rows.laid_math_bits_deBruijn64tab), ("internal/strconv.uint64pow10", Rows.laid_internal_strconv_uint64pow10)]
theorem named : Tryd.prog.globalNamed "internal/strconv.uint64pow10" = some 0 := by kernel_rfl
theorem typed : (Tryd.prog.globals[0]?).map (·.type) = some 172 := by kernel_rfl
theorem und172 : Tryd.prog.underlying 172 = some (.array 20 75) := by kernel_rfl
theorem und75 : Tryd.prog.underlying 75 = some (.int .u64) := by kernel_rfl
theorem cells172 : Tryd.prog.cellsOf 172 = 20 := by kernel_rfl
theorem cells75 : Tryd.prog.cellsOf 75 = 1 := by kernel_rfl
theorem table_is : (Rows.laid_internal_strconv_uint64pow10 : DataW Unit) = Lib.tabData .u64 Lib.pow10Tab := by rfl
theorem of_laid {W : World} (h : laidMet Tryd.prog laidL W) : P.GTab W := by
 obtain ⟨g', t', cs, fuel, p, hg', ht', hvar, hd⟩ := Lib.laidMet.reads h (n := "internal/strconv.uint64pow10") (d := Rows.laid_internal_strconv_uint64pow10) (List.mem_cons_of_mem _ (List.mem_cons_of_mem _ List.mem_cons_self))
 obtain rfl := Option.some.inj (named.symm.trans hg')
 obtain rfl := Option.some.inj (typed.symm.trans ht')
 rw [table_is] at hd
 unfold P.GTab Lib.TabIs
 rw [hvar, ← Lib.cells_of_tab und172 und75 cells75 cells172 hd]

/-- A row of literals as cells. -/
def litCells : DataW Unit → Array Value
 | .agg l => (l.map fun | .lit (.int k z) => Value.int k z | _ => Value.int .i64 0).toArray
 | _ => #[]
noncomputable def laidWorld (os : Os) : World :=
 let w := World.holding Tryd.prog os ⟨#[], #[], []⟩
 let put (b : Nat) (cs : Array Value) (h : Array Obj) : Array Obj := h.modify b fun
   | .cells _ t frozen => .cells cs t frozen
   | o => o
 { w with heap := put 0 (litCells Rows.laid_internal_strconv_uint64pow10) (put 1 (litCells Rows.laid_math_bits_deBruijn32tab) (put 2 (litCells Rows.laid_math_bits_deBruijn64tab) w.heap)) }
theorem laid_met (os : Os) (args : Array Value) : laidMet Tryd.prog laidL ((laidWorld os).forCall (fun _ _ => 0) ⟨#[], args, []⟩).memory :=
 laidMet_of_run' 8 (by kernel_rfl) (by kernel_rfl)
end Go.Proofs.YtclollnicbcooaaDoor.Glob
end
