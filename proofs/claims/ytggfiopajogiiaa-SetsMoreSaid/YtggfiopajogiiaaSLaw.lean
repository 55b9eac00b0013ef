/- What the laws over package sets have in common: the document's example holds; a grammar is looked at, or not. Conditions: enough rounds; the grammar's numbers are within what numbers there are. -/
import Derived.Test.YtggfiopajogiiaaPx3
import Derived.Test.YtggfiopajogiiaaSVal
import Derived.Test.YtggfiopajogiiaaSFew
import Derived.Test.YtggfiopajogiiaaSKn
import Derived.Test.YtggfiopajogiiaaTypes
import Derived.OpenShut
set_option linter.unusedVariables false
set_option linter.unusedSimpArgs false
namespace Go.Proofs.Ytggfiopajogiiaa.P
open Go.RowKit Go.Proofs.YtggfiopajogiiaaW.PrintWords Go.Proofs.YtggfiopajogiiaaW.PrintLast Go.Proofs.YtggfiopajogiiaaW.PrintMore Bitty

theorem works_is (k : Nat) (hk : 61 ≤ k) : syntagmlaw13_works.f k = some true :=
  at_rounds (fun k => syntagmlaw13_works.mono k) hk (by kernel_rfl)
theorem valid_f (l0 : List S51) (l1 : List S63) (l2 : List ByteArray) (l3 : List S45) (st : Int) : inst_Valid.f l0 l1 l2 l3 st = some (validB l0 l1 l2 l3 st) := rfl

theorem i64_range {x : Int} (h : (Lit.int .i64 x).wf = true) : -9223372036854775808 ≤ x ∧ x ≤ 9223372036854775807 := by
  have := bounds_i64 h
  omega
theorem u64_ok {x : Int} (h : (Lit.int .u64 x).wf = true) : ok x := by
  have := bounds_u64 h
  exact ⟨by omega, by omega⟩
theorem prods_range {x : S27} (h : wf27 x) : ∀ p ∈ x.f3, ∀ s ∈ p.f2, -9223372036854775808 ≤ s ∧ s ≤ 9223372036854775807 :=
  fun p hp s hs => i64_range ((h.2.2.2.1.2 p hp).2.2.1.2 s hs)
end Go.Proofs.Ytggfiopajogiiaa.P
