/- Of no program: the numbers of a set of 64 bits, rising, and what its lowest one's going does to them. No conditions. -/
import Derived.Lib.TrailingZeros
set_option linter.unusedVariables false
set_option linter.unusedSimpArgs false
namespace Go.Proofs.YtknkgponjjghcaaDoor
open Go

/-- A set's numbers, rising. -/
def bitsOf (s : Nat) : List Nat := (List.range 64).filter (fun i => s.testBit i)

theorem bitsOf_zero : bitsOf 0 = [] := by simp [bitsOf]

/-- The lowest bit's place, by the bits. -/
theorem ctz_bits (s : Nat) (h0 : s ≠ 0) (h : s < 18446744073709551616) :
    Lib.ctz 64 s < 64 ∧ s.testBit (Lib.ctz 64 s) = true ∧ (∀ i, i < Lib.ctz 64 s → s.testBit i = false) ∧
      ∀ i, (s &&& (s - 1)).testBit i = (s.testBit i && decide (i ≠ Lib.ctz 64 s)) := by
  obtain ⟨m, hm, hk⟩ := Lib.ctzFrom_spec 64 s (by omega) h
  have e : Lib.ctz 64 s = Lib.ctzFrom 64 s := by simp [Lib.ctz, h0]
  rw [e]
  generalize Lib.ctzFrom 64 s = k at hm hk
  have hp : 0 < 2 ^ k := Nat.pow_pos (by decide)
  have b1 : ∀ i, s.testBit i = if i < k then false else (2 * m + 1).testBit (i - k) := fun i => by
    have := Nat.testBit_two_pow_mul_add (2 * m + 1) (b := 0) (i := k) hp i
    rw [Nat.add_zero, ← hm] at this
    rw [this]
    simp
  have b2 : ∀ i, (s - 1).testBit i = if i < k then (2 ^ k - 1).testBit i else (2 * m).testBit (i - k) := fun i => by
    have e2 : s - 1 = 2 ^ k * (2 * m) + (2 ^ k - 1) := by rw [hm, Nat.mul_add]; omega
    rw [e2]
    exact Nat.testBit_two_pow_mul_add (2 * m) (by omega) i
  refine ⟨hk, ?_, fun i hi => by rw [b1, if_pos hi], fun i => ?_⟩
  · rw [b1, if_neg (by omega), Nat.sub_self, Nat.testBit_zero]
    simp
  · rw [Nat.testBit_and, b1, b2]
    by_cases hi : i < k
    · simp [hi]
    · rw [if_neg hi, if_neg hi]
      by_cases he : i = k
      · subst he
        simp [Nat.testBit_zero]
      · obtain ⟨j, hj⟩ : ∃ j, i - k = j + 1 := ⟨i - k - 1, by omega⟩
        rw [hj, Nat.testBit_succ, Nat.testBit_succ, show (2 * m + 1) / 2 = m by omega, show 2 * m / 2 = m by omega]
        simp [he]

theorem bitsOf_step (s : Nat) (h0 : s ≠ 0) (h : s < 18446744073709551616) : bitsOf s = Lib.ctz 64 s :: bitsOf (s &&& (s - 1)) := by
  obtain ⟨hk, h1, h2, h3⟩ := ctz_bits s h0 h
  generalize Lib.ctz 64 s = k at hk h1 h2 h3
  unfold bitsOf
  have e : List.range 64 = List.range k ++ k :: (List.range (63 - k)).map (fun i => k + 1 + i) := by
    have e1 : (64 : Nat) = (k + 1) + (63 - k) := by omega
    rw [e1, List.range_add, List.range_succ, List.append_assoc]
    simp
  rw [e, List.filter_append, List.filter_append, List.filter_cons, List.filter_cons]
  have f1 : (List.range k).filter (fun i => s.testBit i) = [] := List.filter_eq_nil_iff.2 (fun i hi => by rw [h2 i (List.mem_range.1 hi)]; simp)
  have f2 : (List.range k).filter (fun i => (s &&& (s - 1)).testBit i) = [] := List.filter_eq_nil_iff.2 (fun i hi => by rw [h3, h2 i (List.mem_range.1 hi)]; simp)
  rw [f1, f2, if_pos h1, h3, if_neg (by simp), List.nil_append, List.nil_append]
  congr 1
  refine List.filter_congr (fun i hi => ?_)
  obtain ⟨j, _, rfl⟩ := List.mem_map.1 hi
  rw [h3, decide_eq_true (show k + 1 + j ≠ k by omega), Bool.and_true]

theorem bitsOf_length (s : Nat) : (bitsOf s).length ≤ 64 := Nat.le_trans (List.length_filter_le _ _) (by simp)
theorem and_pred_lt (s : Nat) (h : s < 18446744073709551616) : s &&& (s - 1) < 18446744073709551616 := Nat.lt_of_le_of_lt Nat.and_le_left h

end Go.Proofs.YtknkgponjjghcaaDoor
