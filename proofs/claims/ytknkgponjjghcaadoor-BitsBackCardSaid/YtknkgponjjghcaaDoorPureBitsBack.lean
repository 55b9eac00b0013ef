/- What is put in and taken out again is not there; what is there is not put in twice: of every set and every number. Conditions: the set is a uint64. -/
import Derived.Test.YtknkgponjjghcaaDoorBLaw
import Derived.Test.YtknkgponjjghcaaDoorPx9
import Derived.OpenShut
set_option linter.unusedVariables false
set_option linter.unusedSimpArgs false
namespace Go.Proofs.YtknkgponjjghcaaDoor.Pure
open Go.RowKit Go.Proofs.YtknkgponjjghcaaDoor.P Go.Proofs.YtknkgponjjghcaaDoorW.PrintWords Go.Proofs.YtknkgponjjghcaaDoorW.PrintLast Go.Proofs.YtknkgponjjghcaaDoorW.PrintMore

theorem BitsBack (a0 a1 : Int) (w0 : (Lit.int .u64 a0).wf = true) (w1 : (Lit.int .i64 a1).wf = true) : ∃ k, syntagmlaw01_BitsBack.f k a0 a1 = some true := by
  obtain ⟨a, rfl, ha⟩ := u64_nat w0
  refine ⟨21, ?_⟩
  have hb := bitN_lt a1
  have hin := or_lt a _ ha hb
  have hout := lessN_lt a (bitN a1) ha
  unfold syntagmlaw01_BitsBack.f
  rw [works_at 21 (by omega), Option.bind_some, if_pos rfl, with_eq a a1 ha, Option.bind_some, without_eq a a1 ha, Option.bind_some]
  by_cases hr : 0 ≤ a1 ∧ a1 < 64
  · -- a number that there is
    have hbn : bitN a1 = 2 ^ a1.toNat := by unfold bitN; rw [if_pos hr]
    rw [if_neg (by omega), decide_eq_false (by omega)]
    simp only [syntagmlaw01_BitsBack.j0]
    rw [if_neg (by decide), has_eq a a1 ha, Option.bind_some, count_eq _ hin, Option.bind_some, count_eq _ hout, Option.bind_some, if_pos trivial, without_eq _ a1 hin, Option.bind_some,
      or_less ha hb, if_pos rfl, with_eq _ a1 hout, Option.bind_some, less_or ha hb, if_pos rfl]
    have hcnt : (bitsOf (a ||| bitN a1)).length = (bitsOf (lessN a (bitN a1))).length + 1 := by
      have h1 := count_or (lessN a (bitN a1)) (bitN a1)
      rw [less_or ha hb, less_and ha hb, bitsOf_zero, hbn, count_bit _ (by omega), ← hbn] at h1
      simpa using h1
    have hl := bitsOf_length (lessN a (bitN a1))
    rw [hcnt, if_pos (by unfold wrap64; omega)]
    by_cases ht : hasN a a1 = true
    · rw [if_pos ht]
      have e : a ||| bitN a1 = a := set_ext _ _ hin ha fun i _ => by
        rw [Nat.testBit_or, bitN_test]
        unfold hasN at ht
        simp only [Bool.and_eq_true, decide_eq_true_eq] at ht
        by_cases hi : a1.toNat = i
        · subst hi; rw [ht.2]; rfl
        · rw [decide_eq_false (by omega), Bool.or_false]
      rw [if_pos (by rw [e]), with_eq _ a1 hin, Option.bind_some, or_or_same]
      simp
    · rw [if_neg ht]
      have e : lessN a (bitN a1) = a := set_ext _ _ hout ha fun i _ => by
        rw [lessN_test a _ i ha hb, bitN_test]
        unfold hasN at ht
        simp only [Bool.and_eq_true, decide_eq_true_eq, not_and] at ht
        by_cases hi : a1.toNat = i
        · subst hi
          have := ht hr
          simp at this
          rw [this]; rfl
        · rw [decide_eq_false (by omega)]; simp
      rw [if_pos (by rw [e]), with_eq _ a1 hin, Option.bind_some, or_or_same]
      simp
  · have hbn : bitN a1 = 0 := by unfold bitN; rw [if_neg hr]
    have e1 : a ||| bitN a1 = a := by rw [hbn, Nat.or_zero]
    have e2 : lessN a (bitN a1) = a := set_ext _ _ hout ha fun i _ => by rw [lessN_test a _ i ha hb, hbn, Nat.zero_testBit]; simp
    rw [e1, e2]
    have fin : syntagmlaw01_BitsBack.j0 21 a a1 true a a true = some true := by
      simp only [syntagmlaw01_BitsBack.j0]
      simp
    by_cases h0 : a1 < 0
    · rw [if_pos h0]; exact fin
    · rw [if_neg h0, decide_eq_true (by omega)]; exact fin

end Go.Proofs.YtknkgponjjghcaaDoor.Pure
