/- Laws of sets as numbers: how many there are in what is put together, taken out and put back. No conditions. -/
import Derived.Test.YtknkgponjjghcaaDoorBCount
import Derived.OpenShut
set_option linter.unusedVariables false
set_option linter.unusedSimpArgs false
namespace Go.Proofs.YtknkgponjjghcaaDoor.P
open Go.RowKit Go.Proofs.YtknkgponjjghcaaDoorW.PrintWords Go.Proofs.YtknkgponjjghcaaDoorW.PrintLast Go.Proofs.YtknkgponjjghcaaDoorW.PrintMore

theorem works_at (k : Nat) (hk : 20 ≤ k) : syntagmlaw01_works.f k = some true :=
  at_rounds (fun k => syntagmlaw01_works.mono k) hk (by kernel_rfl)

theorem filter_or (l : List Nat) (p q : Nat → Bool) : (l.filter fun i => p i || q i).length + (l.filter fun i => p i && q i).length = (l.filter p).length + (l.filter q).length := by
  induction l with
  | nil => rfl
  | cons x l ih =>
    simp only [List.filter_cons]
    cases p x <;> cases q x <;> simp <;> omega
theorem count_or (a b : Nat) : (bitsOf (a ||| b)).length + (bitsOf (a &&& b)).length = (bitsOf a).length + (bitsOf b).length := by
  have e1 : bitsOf (a ||| b) = (List.range 64).filter (fun i => a.testBit i || b.testBit i) := List.filter_congr fun i _ => by simp
  have e2 : bitsOf (a &&& b) = (List.range 64).filter (fun i => a.testBit i && b.testBit i) := List.filter_congr fun i _ => by simp
  rw [e1, e2]
  exact filter_or _ _ _
theorem count_bit : ∀ n, n < 64 → (bitsOf (2 ^ n)).length = 1 := by decide +kernel

section
variable {a b c : Nat} (ha : a < 18446744073709551616) (hb : b < 18446744073709551616) (hc : c < 18446744073709551616)
include ha hb
theorem less_or : lessN a b ||| b = a ||| b := set_ext _ _ (or_lt _ _ (lessN_lt a b ha) hb) (or_lt _ _ ha hb) fun i _ => by
  rw [Nat.testBit_or, lessN_test a b i ha hb, Nat.testBit_or]
  cases a.testBit i <;> cases b.testBit i <;> rfl
theorem less_and : lessN a b &&& b = 0 := Nat.eq_of_testBit_eq fun i => by
  rw [Nat.testBit_and, lessN_test a b i ha hb, Nat.zero_testBit]
  cases a.testBit i <;> cases b.testBit i <;> rfl
theorem or_less : lessN (a ||| b) b = lessN a b := set_ext _ _ (lessN_lt _ _ (or_lt _ _ ha hb)) (lessN_lt a b ha) fun i _ => by
  rw [lessN_test _ b i (or_lt _ _ ha hb) hb, lessN_test a b i ha hb, Nat.testBit_or]
  cases a.testBit i <;> cases b.testBit i <;> rfl
theorem less_meet : lessN a b ||| (a &&& b) = a := set_ext _ _ (or_lt _ _ (lessN_lt a b ha) (and_lt _ _ ha)) ha fun i _ => by
  rw [Nat.testBit_or, lessN_test a b i ha hb, Nat.testBit_and]
  cases a.testBit i <;> cases b.testBit i <;> rfl
theorem less_zero_iff : lessN a b = 0 ↔ ∀ i, i < 64 → a.testBit i = true → b.testBit i = true := by
  constructor
  · intro h i _ hi
    have := lessN_test a b i ha hb
    rw [h, Nat.zero_testBit, hi] at this
    simpa using this.symm
  · intro h
    refine set_ext _ _ (lessN_lt a b ha) (by omega) fun i hi => ?_
    rw [lessN_test a b i ha hb, Nat.zero_testBit]
    cases ht : a.testBit i
    · rfl
    · rw [h i hi ht]; rfl
end
theorem or_or_same (a b : Nat) : a ||| b ||| b = a ||| b := by rw [Nat.or_assoc, Nat.or_self]

theorem u64_nat {a : Int} (h : (Lit.int .u64 a).wf = true) : ∃ n : Nat, a = n ∧ n < 18446744073709551616 := by
  have := bounds_u64 h
  exact ⟨a.toNat, by omega, by omega⟩

end Go.Proofs.YtknkgponjjghcaaDoor.P
