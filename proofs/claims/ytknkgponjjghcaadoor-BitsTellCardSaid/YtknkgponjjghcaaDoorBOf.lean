/- bits.Of of a list of numbers, as printed: the set that has just those of them that there are. No conditions but the list's length. -/
import Derived.Test.YtknkgponjjghcaaDoorBLaw
set_option linter.unusedVariables false
set_option linter.unusedSimpArgs false
namespace Go.Proofs.YtknkgponjjghcaaDoor.P
open Go.RowKit Go.Proofs.YtknkgponjjghcaaDoorW.PrintWords Go.Proofs.YtknkgponjjghcaaDoorW.PrintLast Go.Proofs.YtknkgponjjghcaaDoorW.PrintMore

/-- The set of some numbers. -/
def ofZ : List Int → Nat
  | [] => 0
  | n :: l => bitN n ||| ofZ l
theorem ofZ_lt : ∀ l, ofZ l < 18446744073709551616
  | [] => by decide
  | n :: l => or_lt _ _ (bitN_lt n) (ofZ_lt l)
theorem ofZ_test : ∀ (l : List Int) (i : Nat), (ofZ l).testBit i = l.any (fun n => decide (0 ≤ n ∧ n < 64 ∧ n.toNat = i))
  | [], i => by simp [ofZ]
  | n :: l, i => by rw [ofZ, Nat.testBit_or, bitN_test, ofZ_test l i, List.any_cons]
theorem ofZ_app (l m : List Int) : ofZ (l ++ m) = ofZ l ||| ofZ m := by
  induction l with
  | nil => simp [ofZ]
  | cons n l ih => simp only [List.cons_append, ofZ, ih, Nat.or_assoc]

theorem of_loop (l : List Int) (hl : l.length ≤ 9223372036854775806) : ∀ d i k, i + d = l.length → d < k → bits_Of.l0 k ((ofZ (l.take i) : Nat) : Int) l (l.length : Int) (i : Nat) = some ((ofZ l : Nat) : Int) := by
  intro d
  induction d with
  | zero =>
    intro i k hi hk
    obtain ⟨k, rfl⟩ : ∃ m, k = m + 1 := ⟨k - 1, by omega⟩
    simp only [bits_Of.l0]
    rw [if_neg (by omega), List.take_of_length_le (by omega)]
  | succ d ih =>
    intro i k hi hk
    obtain ⟨k, rfl⟩ : ∃ m, k = m + 1 := ⟨k - 1, by omega⟩
    have hlt : i < l.length := by omega
    have hw : wrap64 ((i : Int) + 1) = ((i + 1 : Nat) : Int) := by unfold wrap64; omega
    have hr : rd l (i : Nat) = l[i] := by unfold rd; simp [List.getD, hlt]
    have ht : ofZ (l.take (i + 1)) = ofZ (l.take i) ||| bitN l[i] := by
      rw [List.take_succ_eq_append_getElem hlt, ofZ_app]
      simp [ofZ]
    simp only [bits_Of.l0]
    rw [if_pos (by omega), if_pos (by omega), if_pos (by omega), bit_eq, Option.bind_some, bits_or_u64_nat _ _ (ofZ_lt _) (bitN_lt _), hw, hr, ← ht]
    exact ih (i + 1) k (by omega) (by omega)
theorem ofZ_eq (k : Nat) (l : List Int) (hl : l.length ≤ 9223372036854775806) (hk : l.length < k) : bits_Of.f k l = some ((ofZ l : Nat) : Int) := by
  unfold bits_Of.f
  have := of_loop l hl l.length 0 k (by omega) hk
  simpa [ofZ] using this

theorem ofZ_ints (l : List Nat) (i : Nat) (h : ∀ x ∈ l, x < 64) : (ofZ (ints l)).testBit i = decide (i ∈ l) := by
  rw [ofZ_test]
  unfold ints
  rw [List.any_map]
  rw [Bool.eq_iff_iff, List.any_eq_true, decide_eq_true_iff]
  constructor
  · rintro ⟨x, hx, h1⟩
    simp only [Function.comp, decide_eq_true_eq] at h1
    have : x = i := by omega
    exact this ▸ hx
  · intro hi
    refine ⟨i, hi, ?_⟩
    have := h i hi
    simp only [Function.comp, decide_eq_true_eq]
    omega
theorem ofN_bits (a : Nat) (ha : a < 18446744073709551616) : ofZ (ints (bitsOf a)) = a := set_ext _ _ (ofZ_lt _) ha fun i hi => by
  rw [ofZ_ints _ _ (fun x hx => ((mem_bitsOf a x).1 hx).1)]
  by_cases h : i ∈ bitsOf a
  · rw [decide_eq_true h, ((mem_bitsOf a i).1 h).2]
  · rw [decide_eq_false h]
    cases ht : a.testBit i
    · rfl
    · exact absurd ((mem_bitsOf a i).2 ⟨hi, ht⟩) h
theorem of_eq (k : Nat) (l : List Nat) (hk : l.length < k) (h : ∀ x ∈ l, x < 64) (hl : l.length ≤ 9223372036854775806) : bits_Of.f k (ints l) = some ((ofZ (ints l) : Nat) : Int) := by
  have il : (ints l).length = l.length := by simp [ints]
  exact ofZ_eq k _ (by omega) (by omega)

/-- They rise. -/
theorem bitsOf_sorted (a : Nat) : (bitsOf a).Pairwise (· < ·) := List.Pairwise.filter _ List.pairwise_lt_range
theorem bitsOf_rise (a : Nat) {i j x y : Nat} (hy : (bitsOf a)[i]? = some y) (hx : (bitsOf a)[j]? = some x) (h : i < j) : y < x := by
  obtain ⟨hi, rfl⟩ := List.getElem?_eq_some_iff.1 hy
  obtain ⟨hj, rfl⟩ := List.getElem?_eq_some_iff.1 hx
  exact List.pairwise_iff_getElem.1 (bitsOf_sorted a) i j hi hj h

end Go.Proofs.YtknkgponjjghcaaDoor.P
