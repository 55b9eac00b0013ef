/- A walk of a region that draws its order, whose operations read what lies below a bound and whose callees leave that as it is. -/
import Derived.Deep.Quiet
import Derived.Deep.QuietTactic
import Derived.Tactics
import Derived.Tactics2
import Derived.KernelRfl
import Derived.Below
namespace Go.Proofs.Ytggfiopajogiiaa.Base
open Go Go.RowKit

theorem wp_region_below {P : Program} {id : Nat} {Q : Exit → Act → World → Prop} {a : Act} {w : World} {l : List Oper} (hm : P.follows .mixedOrders = true) (hB : Region.lexB .any l.toArray = true)
    (h : wpQuiet P l.toArray (fun w' => Below w.heap.size w w') (fun a' => ∀ w', Below w.heap.size w w' → Q .normal a' w') l a) : (Code.region id l.toArray true).wp P Q a w :=
  wp_region_quiet (C := fun w' => Below w.heap.size w w') hm hB ⟨rfl, rfl, rfl, Nat.le_refl _, fun _ _ => rfl⟩ (by simpa using h)

/-- What a cell holds, in each world that is as w below w's size. -/
theorem cell_below {w : World} {p : Addr} {v : Value} (h : w.cell? p = some v) : ∀ w', Below w.heap.size w w' → w'.cell? p = some v := fun _ hb => (hb.cell (World.block_lt_of_cell? w _ h)).trans h

/-- A callee's contract 'only new blocks', in the class. -/
theorem calls_below {P : Program} {f : FuncId} {args : Array Value} {B : Nat} {u w : World} {v : Value} (hb : Below B u w) (hs : B ≤ w.heap.size)
    (h : Calls P f args w fun e w' => e = .returned v ∧ Below w.heap.size w w') : Calls P f args w fun e w' => e = .returned v ∧ Below B u w' :=
  h.mono fun _ _ ⟨he, k⟩ => ⟨he, hb.trans (k.mono hs)⟩

end Go.Proofs.Ytggfiopajogiiaa.Base
