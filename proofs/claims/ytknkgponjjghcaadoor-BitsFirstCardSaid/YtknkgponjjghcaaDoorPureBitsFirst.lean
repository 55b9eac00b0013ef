/- The first number is the least; without it the rest is the rest. Conditions: the set is a uint64. -/
import Derived.Test.YtknkgponjjghcaaDoorBRef
import Derived.Test.YtknkgponjjghcaaDoorBFirstW
set_option linter.unusedVariables false
set_option linter.unusedSimpArgs false
namespace Go.Proofs.YtknkgponjjghcaaDoor.Pure
open Go.RowKit Go.Proofs.YtknkgponjjghcaaDoor.P Go.Proofs.YtknkgponjjghcaaDoorW.PrintWords Go.Proofs.YtknkgponjjghcaaDoorW.PrintLast Go.Proofs.YtknkgponjjghcaaDoorW.PrintMore

theorem BitsFirst (a0 : Int) (w0 : (Lit.int .u64 a0).wf = true) : ∃ k, syntagmlaw01_BitsFirst.f k a0 = some true := by
  obtain ⟨a, rfl, ha⟩ := u64_nat w0
  refine ⟨3001, ?_⟩
  unfold syntagmlaw01_BitsFirst.f
  rw [works_at 3001 (by omega), Option.bind_some, if_pos rfl, list_eq a ha, Option.bind_some]
  by_cases h0 : a = 0
  · subst h0
    rw [bitsOf_zero, if_pos (by rfl), if_pos (by rfl), first_eq 0 ha, Option.bind_some, if_pos rfl]
    rfl
  · obtain ⟨hk, h1, h2, h3⟩ := ctz_bits a h0 ha
    have hs := bitsOf_step a h0 ha
    have hl := bitsOf_length a
    have hal := and_pred_lt a ha
    have hc : bitN ((Lib.ctz 64 a : Nat) : Int) = 2 ^ Lib.ctz 64 a := bitN_at _ hk
    have he : lessN a (bitN ((Lib.ctz 64 a : Nat) : Int)) = a &&& (a - 1) := set_ext _ _ (lessN_lt _ _ ha) hal fun i _ => by
      rw [lessN_test a _ i ha (bitN_lt _), h3, hc, Nat.testBit_two_pow]
      by_cases e : Lib.ctz 64 a = i
      · rw [decide_eq_true e, decide_eq_false (by omega)]; rfl
      · rw [decide_eq_false e, decide_eq_true (by omega)]; rfl
    have hf : bits_First.f (a : Int) = some ((Lib.ctz 64 a : Nat) : Int) := by
      have := first_eq a ha
      rwa [if_neg h0] at this
    rw [hs] at hl ⊢
    clear h1 h2 h3 hs
    generalize Lib.ctz 64 a = c at *
    generalize hm : a &&& (a - 1) = m at *
    have hil : (ints (c :: bitsOf m)).length = (bitsOf m).length + 1 := by simp [ints]
    have hlm : (bitsOf m).length < 64 := by rw [List.length_cons] at hl; omega
    rw [if_neg (by rw [hil]; omega), hf, Option.bind_some, without_eq a _ ha, Option.bind_some, he, list_eq m hal, Option.bind_some, if_pos (by rw [hil]; omega), Option.bind_some]
    rw [if_pos (by simp [rd, ints]), if_pos (by rw [hil]; omega), ref_row _ _ (by rw [ints_len]; omega) 3001 (by omega) (by simp [ints])]
    rfl

end Go.Proofs.YtknkgponjjghcaaDoor.Pure
