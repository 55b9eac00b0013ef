/- inst.Valid as a printed function: what it answers, and its contract. -/
import Derived.Test.YtggfiopajogiiaaSValid
namespace Go.Proofs.Ytggfiopajogiiaa.P
open Go.RowKit Go.Proofs.YtggfiopajogiiaaW.PrintWords

def inst_Valid.f (l0 : List S51) (l1 : List S63) (l2 : List ByteArray) (l3 : List S45) (st : Int) : Option Bool := some (validB l0 l1 l2 l3 st)
theorem inst_Valid.calls (A0 : Option Addr) (c0 : Nat) (l0 : List S51) (A1 : Option Addr) (c1 : Nat) (l1 : List S63) (A2 : Option Addr) (c2 : Nat) (l2 : List ByteArray) (A3 : Option Addr) (c3 : Nat) (l3 : List S45) (st : Int) (r : Bool) (w : World)
    (hr0 : Kd.C k51 w A0 l0.length l0) (_ : l0.length ≤ c0) (hr1 : Kd.C k63 w A1 l1.length l1) (_ : l1.length ≤ c1) (hr2 : Kd.C Kd.string w A2 l2.length l2) (_ : l2.length ≤ c2) (hr3 : Kd.C k45 w A3 l3.length l3) (_ : l3.length ≤ c3) (h : inst_Valid.f l0 l1 l2 l3 st = some r) :
    Calls Try.prog 23 #[.agg #[.slice A0 l0.length c0, .slice A1 l1.length c1, .slice A2 l2.length c2, .slice A3 l3.length c3, .int .i64 st]] w fun e w' => e = .returned (.bool r) ∧ Below w.heap.size w w' := by
  have e : validB l0 l1 l2 l3 st = r := by unfold inst_Valid.f at h; exact Option.some.inj h
  rw [← e]
  exact valid_calls A0 c0 l0 A1 c1 l1 A2 c2 l2 A3 c3 l3 st w hr0 hr1 hr2 hr3
end Go.Proofs.Ytggfiopajogiiaa.P
