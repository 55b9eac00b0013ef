/- Is a set within another one, and has it a number? Plain. Conditions: the sets are of numbers below 64. -/
import Derived.Test.YtggfiopajogiiaaSLaw
import Derived.Test.YtggfiopajogiiaaPx17
set_option linter.unusedVariables false
set_option linter.unusedSimpArgs false
namespace Go.Proofs.Ytggfiopajogiiaa.P
open Go.RowKit Go.Proofs.YtggfiopajogiiaaW.PrintWords Go.Proofs.YtggfiopajogiiaaW.PrintLast Go.Proofs.YtggfiopajogiiaaW.PrintMore Bitty

def lessN (a b : Nat) : Nat := a &&& (2 ^ 64 - (b + 1))
theorem high (a i : Nat) (ha : a < 18446744073709551616) (hi : 64 ≤ i) : a.testBit i = false := Nat.testBit_lt_two_pow (Nat.lt_of_lt_of_le ha (Nat.pow_le_pow_right (by decide) hi : 2 ^ 64 ≤ 2 ^ i))
theorem lessN_test (a b i : Nat) (ha : a < 18446744073709551616) (hb : b < 18446744073709551616) : (lessN a b).testBit i = (a.testBit i && !b.testBit i) := by
  unfold lessN
  rw [Nat.testBit_and, Nat.testBit_two_pow_sub_succ hb]
  by_cases hi : i < 64
  · simp [hi]
  · rw [high a i ha (by omega)]; simp
theorem andNot_nat (a b : Nat) (ha : a < 18446744073709551616) (hb : b < 18446744073709551616) : Go.bits .andNot .u64 (a : Int) (b : Int) = ((lessN a b : Nat) : Int) := by
  have hx : lessN a b < 18446744073709551616 := Nat.lt_of_le_of_lt Nat.and_le_left ha
  have h1 : (BitVec.ofInt 64 (a : Int)).toNat = a := by
    rw [BitVec.ofInt_natCast, BitVec.toNat_ofNat]; exact Nat.mod_eq_of_lt (by omega)
  have h2 : (BitVec.ofInt 64 (b : Int)).toNat = b := by
    rw [BitVec.ofInt_natCast, BitVec.toNat_ofNat]; exact Nat.mod_eq_of_lt (by omega)
  show IntKind.u64.wrap ((BitVec.ofInt 64 (a : Int) &&& ~~~ BitVec.ofInt 64 (b : Int)).toNat : Int) = _
  rw [BitVec.toNat_and, BitVec.toNat_not, h1, h2, IntKind.wrap_u64, show 2 ^ 64 - 1 - b = 2 ^ 64 - (b + 1) by omega]
  show ((lessN a b : Nat) : Int) % _ = _
  omega
theorem nat_of_ok {x : Int} (h : ok x) : ∃ a : Nat, x = a ∧ a < 18446744073709551616 := by
  have h1 := h.1
  have h2 := h.2
  exact ⟨x.toNat, by omega, by omega⟩
theorem in_true {x y : Int} (hx : ok x) (hy : ok y) (h : ∀ b, tb x b = true → tb y b = true) : bits_In.f x y = some true := by
  obtain ⟨a, rfl, ha⟩ := nat_of_ok hx
  obtain ⟨b, rfl, hb⟩ := nat_of_ok hy
  have e : lessN a b = 0 := Nat.eq_of_testBit_eq fun i => by
    rw [lessN_test a b i ha hb, Nat.zero_testBit]
    have h1 : a.testBit i = true → b.testBit i = true := h i
    cases q : a.testBit i
    · rfl
    · rw [h1 q]; rfl
  have e2 : bits_Less.f (a : Int) (b : Int) = some (Go.bits .andNot .u64 (a : Int) (b : Int)) := rfl
  unfold bits_In.f
  rw [e2, Option.bind_some, andNot_nat a b ha hb, e]
  rfl
theorem has_true {x : Int} (n : Int) (hx : ok x) (h0 : 0 ≤ n) (h1 : n < 64) (h : tb x n.toNat = true) : bits_Has.f x n = some true := by
  obtain ⟨a, rfl, ha⟩ := nat_of_ok hx
  have hp : 2 ^ n.toNat < 18446744073709551616 := Nat.pow_lt_pow_right (by decide) (by omega : n.toNat < 64)
  unfold bits_Has.f
  rw [bit_some n h0 h1, Option.bind_some, bits_and_u64_nat a _ ha hp]
  have h2 : a.testBit n.toNat = true := h
  have hne : a &&& 2 ^ n.toNat ≠ 0 := fun e => by
    have h3 : (a &&& 2 ^ n.toNat).testBit n.toNat = true := by rw [Nat.testBit_and, Nat.testBit_two_pow, h2]; simp
    rw [e, Nat.zero_testBit] at h3
    cases h3
  exact congrArg some (bne_iff_ne.2 (by omega))
end Go.Proofs.Ytggfiopajogiiaa.P
