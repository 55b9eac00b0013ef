/- Four stores into one box, as one step. Conditions: each theorem's own. -/
import Derived.Test.YtageaahlkiaigaaDoorPx0
set_option linter.unusedVariables false
namespace Go.Proofs.YtageaahlkiaigaaDoor.P
open Go Go.RowKit Go.Proofs.YtageaahlkiaigaaDoorW.PrintWords
section
variable {W w : World} {B g : Nat} {a b c d a' b' c' d' : Value}
theorem put4_blk (a b c d : Value) (h : W.heap[g]? = some (.cells #[a', b', c', d'] 32 (0, 0))) :
    ((((W.setCell ⟨g, 0, none⟩ a).setCell ⟨g, 1, none⟩ b).setCell ⟨g, 2, none⟩ c).setCell ⟨g, 3, none⟩ d).heap[g]? = some (.cells #[a, b, c, d] 32 (0, 0)) :=
  heap_setCell_same _ g 3 _ 32 _ (heap_setCell_same _ g 2 _ 32 _ (heap_setCell_same _ g 1 _ 32 _ (heap_setCell_same W g 0 _ 32 _ h)))
theorem put4_R {ok : Nat → Prop} {v : Value} {xs : List S32} (a b c d : Value) (h : k32.R 32 W B ok v xs) (hok : ∀ k, ok k → k ≠ g) :
    k32.R 32 ((((W.setCell ⟨g, 0, none⟩ a).setCell ⟨g, 1, none⟩ b).setCell ⟨g, 2, none⟩ c).setCell ⟨g, 3, none⟩ d) B ok v xs :=
  Kd.R_far (p := ⟨g, 3, none⟩) (Kd.R_far (p := ⟨g, 2, none⟩) (Kd.R_far (p := ⟨g, 1, none⟩) (Kd.R_far (p := ⟨g, 0, none⟩) h hok _) hok _) hok _) hok _
theorem put4_below (a b c d : Value) (h : Below B w W) (hg : B ≤ g) : Below B w ((((W.setCell ⟨g, 0, none⟩ a).setCell ⟨g, 1, none⟩ b).setCell ⟨g, 2, none⟩ c).setCell ⟨g, 3, none⟩ d) :=
  (((h.setCell (p := ⟨g, 0, none⟩) hg _).setCell (p := ⟨g, 1, none⟩) hg _).setCell (p := ⟨g, 2, none⟩) hg _).setCell (p := ⟨g, 3, none⟩) hg _
end
end Go.Proofs.YtageaahlkiaigaaDoor.P
