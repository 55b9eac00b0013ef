/- From the statement's premise on math/bits.deBruijn64tab to the fact that the walks take: its 64 cells. And a world that meets the premise. -/
import Derived.Test.YtknkgponjjghcaaDoorRows
import Derived.Test.YtknkgponjjghcaaDoorBTz
import Derived.OpenShut
import Derived.ProofKit
import Derived.LaidLaws
import Derived.Handed
set_option linter.unusedVariables false
set_option linter.unusedSimpArgs false
namespace Go.Proofs.YtknkgponjjghcaaDoor.Glob
open Go.ChangeShapes Go.WideShapes Go.ChangeAt Go.RowKit

theorem named : Tryd.prog.globalNamed "math/bits.deBruijn64tab" = some 0 := by kernel_rfl
theorem typed : (Tryd.prog.globals[0]?).map (·.type) = some 44 := by kernel_rfl
theorem cells44 : Tryd.prog.cellsOf 44 = 64 := by kernel_rfl
theorem cells5 : Tryd.prog.cellsOf 5 = 1 := by kernel_rfl

theorem table_is {H : Type} : (Rows.laid_math_bits_deBruijn64tab (H := H)) = .agg ((List.range 64).map fun j => .lit (.int .u8 (Lib.deBruijn64tab.getD j 0 : Nat))) := by rfl

def tabCells : Array Value := (Lib.deBruijn64tab.map fun n : Nat => Value.int .u8 (n : Int)).toArray

theorem of_laid {W : World} (h : laidMet Tryd.prog [("math/bits.deBruijn64tab", Rows.laid_math_bits_deBruijn64tab)] W) : P.GTab W := by
  obtain ⟨ps, ⟨g, t, cs, fuel, p, q, hg, ht, hvar, hd, _, _⟩, _⟩ := h
  obtain rfl := Option.some.inj (named.symm.trans hg)
  obtain rfl := Option.some.inj (typed.symm.trans ht)
  rw [table_is] at hd
  obtain ⟨xs, m, rfl, hx, hl, hn, hel⟩ := DataW.trod_array Tryd.underlying44 hd
  obtain ⟨hx, _⟩ := Prod.mk.inj hx
  injection hx with hx
  rw [cells44] at hl
  have hc : ∀ j, j < 64 → cs[j]? = some (.int .u8 (Lib.deBruijn64tab.getD j 0 : Nat)) := fun j hj => by
    have h1 := hel j hj
    rw [cells5, Nat.mul_one, List.getElem?_eq_getElem (by omega)] at h1
    obtain ⟨n, e1, e2, _⟩ := DataW.trod_int Tryd.underlying5 h1
    have e3 : ((List.range 64).map fun j => (DataW.lit (.int .u8 (Lib.deBruijn64tab.getD j 0 : Nat)) : DataW Unit))[j]? = some (DataW.lit (.int .u8 n)) := by
      rw [hx, List.getElem?_map, List.getElem?_eq_getElem (by omega), e2]
      rfl
    rw [List.getElem?_map, List.getElem?_range hj] at e3
    simp only [Option.map_some, Option.some.injEq, DataW.lit.injEq, Lit.int.injEq, true_and] at e3
    have e4 : cs.toList[j]? = some (.int .u8 n) := by
      have : (cs.toList.drop j)[0]? = some (.int .u8 n) := by
        have := congrArg (fun l => l[0]?) e1
        simpa [List.getElem?_take] using this
      simpa using this
    rw [e3]
    simpa using e4
  refine ⟨?_, fun j hj => ?_⟩
  · have h0 := World.var?_cell hg hvar 0
    rw [hc 0 (by omega)] at h0
    exact World.block_lt_of_cell? W ⟨0, 0, none⟩ h0
  · have h0 := World.var?_cell hg hvar j
    rw [hc j hj] at h0
    exact h0

/-- The settled world, but the table lies in its variable. -/
noncomputable def laidWorld (os : Os) : World :=
  { World.holding Tryd.prog os ⟨#[], #[], []⟩ with heap := (World.holding Tryd.prog os ⟨#[], #[], []⟩).heap.modify 0 fun
      | .cells _ t frozen => .cells tabCells t frozen
      | o => o }
theorem laid_met (os : Os) (args : Array Value) : laidMet Tryd.prog [("math/bits.deBruijn64tab", Rows.laid_math_bits_deBruijn64tab)] ((laidWorld os).forCall (fun _ _ => 0) ⟨#[], args, []⟩).memory :=
  laidMet_of_run (ps := (List.range 64).map fun j => .cell 0 j) 8 (by kernel_rfl) (by kernel_rfl) (by kernel_rfl)

end Go.Proofs.YtknkgponjjghcaaDoor.Glob
