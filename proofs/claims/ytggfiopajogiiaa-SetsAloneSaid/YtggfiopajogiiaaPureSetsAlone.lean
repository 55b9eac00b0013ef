/- A terminal begins with itself alone, whatever stands behind it. Conditions: the statement's own. -/
import Derived.Test.YtggfiopajogiiaaSLaw
import Derived.Test.YtggfiopajogiiaaPx18
set_option linter.unusedVariables false
set_option linter.unusedSimpArgs false
namespace Go.Proofs.Ytggfiopajogiiaa.Pure
open Go.RowKit Go.Proofs.Ytggfiopajogiiaa.P Go.Proofs.YtggfiopajogiiaaW.PrintWords Go.Proofs.YtggfiopajogiiaaW.PrintLast Go.Proofs.YtggfiopajogiiaaW.PrintMore Go.Proofs.Ytggfiopajogiiaa.P.Bitty

theorem SetsAlone (x0 : S27) (a1 : Int) (l2 : List Int) (a3 : Int) (w0 : wf27 x0) (w1 : (Lit.int .i64 a1).wf = true) (w2 : l2.length ≤ 9223372036854775807 ∧ ∀ x ∈ l2, (Lit.int .i64 x).wf = true) (w3 : (Lit.int .u64 a3).wf = true) :
    ∃ k, syntagmlaw13_SetsAlone.f k x0.f0 x0.f1 x0.f2 x0.f3 x0.f4 a1 l2 a3 = some true := by
  obtain ⟨K, hK⟩ : ∃ K : Nat, K = 69 := ⟨_, rfl⟩
  refine ⟨K + 1, ?_⟩
  have hb := u64_ok w3
  obtain ⟨b, hf, -⟩ := few_is x0.f0 x0.f1 x0.f2 x0.f3 x0.f4 (K + 1) (by omega)
  have out : syntagmlaw13_SetsAlone.j0 (K + 1) a1 l2 a3 true true x0.f0 x0.f1 x0.f2 x0.f3 x0.f4 = some true := rfl
  unfold syntagmlaw13_SetsAlone.f
  rw [works_is (K + 1) (by omega), Option.bind_some, if_pos rfl, hf, Option.bind_some]
  cases b
  · rw [if_neg (by decide)]; exact out
  · rw [if_pos rfl]
    split
    · exact out
    · rw [valid_f, Option.bind_some]
      cases hv : validB x0.f0 x0.f1 x0.f2 x0.f3 x0.f4
      · exact out
      · rw [if_pos rfl]
        split
        · exact out
        · have h := order_of hv (prods_range w0)
          by_cases ht : a1 ≥ (x0.f0.length : Int)
          · rw [decide_eq_true ht]; exact out
          · have hT := h.gram.hT
            rw [decide_eq_false ht]
            rw [syntagmlaw13_SetsAlone.j0]
            rw [if_neg (by decide), if_pos (by simp), Option.bind_some, if_pos (by simp; omega), if_pos rfl, Of_is h _ a3 hb K (by omega), Option.bind_some, of_one K (by omega) a1 (by omega) (by omega), Option.bind_some,
              show ([] ++ [a1] ++ l2 : List Int) = a1 :: l2 from rfl, oR_term h a1 (by omega) (by omega) l2 a3 hb]
            simp
end Go.Proofs.Ytggfiopajogiiaa.Pure
