/- How the parameters' types of this seat's laws read. No conditions. -/
import Derived.Test.YtggfiopajogiiaaPx0
import Derived.Test.YtggfiopajogiiaaOpen
set_option linter.unusedVariables false
namespace Go.Proofs.Ytggfiopajogiiaa.P
open Go.RowKit Go.Proofs.Ytggfiopajogiiaa.Open Go.Proofs.YtggfiopajogiiaaW.PrintWords
def wf51 (x : S51) : Prop := (x.f0.size ≤ maxLen) ∧ ((x.f1.size ≤ maxLen) ∧ ((True) ∧ (((Lit.int .i64 x.f3).wf = true))))
theorem opens51 : Opens Try.prog 51 k51 wf51 := opens_struct (fun a => ⟨a.1, a.2.1, a.2.2.1, a.2.2.2⟩) (fun _ => rfl) (by kernel_rfl) Try.underlying51 (fields_cons rfl (opens_string (by kernel_rfl) Try.underlying9) (fields_cons rfl (opens_string (by kernel_rfl) Try.underlying9) (fields_cons rfl (opens_bool (by kernel_rfl) Try.underlying4) (fields_one rfl (opens_int (by kernel_rfl) Try.underlying3)))))
def wf63 (x : S63) : Prop := ((Lit.int .i64 x.f0).wf = true) ∧ (((Lit.int .i64 x.f1).wf = true))
theorem opens63 : Opens Try.prog 63 k63 wf63 := opens_two (fun a => ⟨a.1, a.2⟩) (fun _ => rfl) (by kernel_rfl) Try.underlying63 (opens_int (by kernel_rfl) Try.underlying3)
def wf45 (x : S45) : Prop := (x.f0.size ≤ maxLen) ∧ (((Lit.int .i64 x.f1).wf = true) ∧ ((x.f2.length ≤ 9223372036854775807 ∧ ∀ y ∈ x.f2, (Lit.int .i64 y).wf = true) ∧ (((Lit.int .i64 x.f3).wf = true))))
theorem opens45 : Opens Try.prog 45 k45 wf45 := opens_struct (fun a => ⟨a.1, a.2.1, a.2.2.1, a.2.2.2⟩) (fun _ => rfl) (by kernel_rfl) Try.underlying45 (fields_cons rfl (opens_string (by kernel_rfl) Try.underlying9) (fields_cons rfl (opens_int (by kernel_rfl) Try.underlying3) (fields_cons rfl (opens_slice (by kernel_rfl) Try.underlying28 (opens_int (by kernel_rfl) Try.underlying41)) (fields_one rfl (opens_int (by kernel_rfl) Try.underlying3)))))
def wf27 (x : S27) : Prop := (x.f0.length ≤ 9223372036854775807 ∧ ∀ y ∈ x.f0, wf51 y) ∧ ((x.f1.length ≤ 9223372036854775807 ∧ ∀ y ∈ x.f1, wf63 y) ∧ ((x.f2.length ≤ 9223372036854775807 ∧ ∀ y ∈ x.f2, y.size ≤ maxLen) ∧ ((x.f3.length ≤ 9223372036854775807 ∧ ∀ y ∈ x.f3, wf45 y) ∧ (((Lit.int .i64 x.f4).wf = true)))))
theorem opens27 : Opens Try.prog 27 k27 wf27 := opens_struct (fun a => ⟨a.1, a.2.1, a.2.2.1, a.2.2.2.1, a.2.2.2.2⟩) (fun _ => rfl) (by kernel_rfl) Try.underlying27 (fields_cons rfl (opens_slice (by kernel_rfl) Try.underlying22 opens51) (fields_cons rfl (opens_slice (by kernel_rfl) Try.underlying23 opens63) (fields_cons rfl (opens_slice (by kernel_rfl) Try.underlying24 (opens_string (by kernel_rfl) Try.underlying9)) (fields_cons rfl (opens_slice (by kernel_rfl) Try.underlying25 opens45) (fields_one rfl (opens_int (by kernel_rfl) Try.underlying3))))))
end Go.Proofs.Ytggfiopajogiiaa.P
