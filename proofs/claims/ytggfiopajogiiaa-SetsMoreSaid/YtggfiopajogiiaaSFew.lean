/- Is there so little of a grammar that it is looked at? Plain. Conditions: enough rounds. -/
import Derived.Test.YtggfiopajogiiaaPx4
set_option linter.unusedVariables false
set_option linter.unusedSimpArgs false
namespace Go.Proofs.Ytggfiopajogiiaa.P
open Go.RowKit Go.Proofs.YtggfiopajogiiaaW.PrintWords Go.Proofs.YtggfiopajogiiaaW.PrintLast Go.Proofs.YtggfiopajogiiaaW.PrintMore

theorem few_end (l0 : List S51) (l1 : List S63) (l2 : List ByteArray) (l3 : List S45) (st : Int) (k : Nat) (i : Int) :
    ∃ b, syntagmlaw13_Few.j1 (k + 1) i false l0 l1 l2 l3 st = some b ∧ (b = true → l0.length ≤ 10 ∧ l2.length ≤ 8 ∧ l3.length ≤ 14 ∧ l1.length ≤ 30) := by
  unfold syntagmlaw13_Few.j1
  rw [if_neg (by decide)]
  split
  · split
    · split
      · exact ⟨_, rfl, fun h => by have := of_decide_eq_true h; omega⟩
      · exact ⟨_, rfl, fun h => by cases h⟩
    · exact ⟨_, rfl, fun h => by cases h⟩
  · exact ⟨_, rfl, fun h => by cases h⟩

theorem few_l0 (l0 : List S51) (l1 : List S63) (l2 : List ByteArray) (l3 : List S45) (st : Int) : ∀ (m i : Nat), i + m = 15 → ∀ k, 2 * m + 2 ≤ k →
    ∃ b, syntagmlaw13_Few.l0 k i l0 l1 l2 l3 st = some b ∧ (b = true → l0.length ≤ 10 ∧ l2.length ≤ 8 ∧ l3.length ≤ 14 ∧ l1.length ≤ 30)
  | m, i, hi, 0, hk => by omega
  | m, i, hi, 1, hk => by omega
  | 0, i, hi, k + 2, hk => by
    unfold syntagmlaw13_Few.l0
    have e : decide ((i : Int) < 15) = false := decide_eq_false (by omega)
    rw [e]
    split
    · exact few_end l0 l1 l2 l3 st k i
    · exact few_end l0 l1 l2 l3 st k i
  | m + 1, i, hi, k + 2, hk => by
    unfold syntagmlaw13_Few.l0
    have e : decide ((i : Int) < 15) = true := decide_eq_true (by omega)
    rw [e]
    split
    · unfold syntagmlaw13_Few.j1
      rw [if_pos rfl, if_pos (by omega), if_pos (by assumption)]
      split
      · exact ⟨_, rfl, fun h => by cases h⟩
      · have w : wrap64 ((i : Int) + 1) = ((i + 1 : Nat) : Int) := by unfold wrap64; omega
        rw [w]
        exact few_l0 l0 l1 l2 l3 st m (i + 1) (by omega) k (by omega)
    · exact few_end l0 l1 l2 l3 st k i

theorem few_is (l0 : List S51) (l1 : List S63) (l2 : List ByteArray) (l3 : List S45) (st : Int) (k : Nat) (hk : 32 ≤ k) :
    ∃ b, syntagmlaw13_Few.f k l0 l1 l2 l3 st = some b ∧ (b = true → l0.length ≤ 10 ∧ l2.length ≤ 8 ∧ l3.length ≤ 14 ∧ l1.length ≤ 30) :=
  few_l0 l0 l1 l2 l3 st 15 0 rfl k (by omega)

end Go.Proofs.Ytggfiopajogiiaa.P
