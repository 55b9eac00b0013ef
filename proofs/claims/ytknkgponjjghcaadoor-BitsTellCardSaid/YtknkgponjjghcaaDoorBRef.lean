/- What the printed functions of the document's answer on sets compute, in plain words. Conditions: enough rounds, lists of at most 2000 numbers. -/
import Derived.Test.YtknkgponjjghcaaDoorBOf
import Derived.Test.YtknkgponjjghcaaDoorPx3
import Derived.Test.YtknkgponjjghcaaDoorPx4
import Derived.Test.YtknkgponjjghcaaDoorPx5
set_option linter.unusedVariables false
set_option linter.unusedSimpArgs false
namespace Go.Proofs.YtknkgponjjghcaaDoor.P
open Go.RowKit Go.Proofs.YtknkgponjjghcaaDoorW.PrintWords Go.Proofs.YtknkgponjjghcaaDoorW.PrintLast Go.Proofs.YtknkgponjjghcaaDoorW.PrintMore

theorem u64_half (x : Nat) (h : x < 18446744073709551616) : IntKind.u64.wrap (Int.tdiv (x : Int) 2) = ((x / 2 : Nat) : Int) := by
  have e : Int.tdiv (x : Int) 2 = ((x / 2 : Nat) : Int) := rfl
  rw [e, IntKind.wrap_u64]
  omega
theorem ref_has_loop (a n : Nat) (ha : a < 18446744073709551616) (hn : n < 64) : ∀ d i k, i + d = n → d < k → syntagmref01_Has.l0 k ((a / 2 ^ i : Nat) : Int) (n : Nat) (i : Nat) = some (a.testBit n) := by
  intro d
  induction d with
  | zero =>
    intro i k hi hk
    obtain ⟨k, rfl⟩ : ∃ m, k = m + 1 := ⟨k - 1, by omega⟩
    have hin : i = n := by omega
    subst hin
    simp only [syntagmref01_Has.l0]
    rw [if_neg (by omega), Nat.testBit_eq_decide_div_mod_eq]
    have e : Int.tmod ((a / 2 ^ i : Nat) : Int) 2 = ((a / 2 ^ i % 2 : Nat) : Int) := rfl
    rw [e]
    congr 1
    by_cases h : a / 2 ^ i % 2 = 1
    · rw [decide_eq_true h, h]; rfl
    · rw [decide_eq_false h]
      exact beq_eq_false_iff_ne.2 (by omega)
  | succ d ih =>
    intro i k hi hk
    obtain ⟨k, rfl⟩ : ∃ m, k = m + 1 := ⟨k - 1, by omega⟩
    have hw : wrap64 ((i : Int) + 1) = ((i + 1 : Nat) : Int) := by unfold wrap64; omega
    have hlt : a / 2 ^ i < 18446744073709551616 := Nat.lt_of_le_of_lt (Nat.div_le_self _ _) ha
    simp only [syntagmref01_Has.l0]
    rw [if_pos (by omega), u64_half _ hlt, hw, Nat.div_div_eq_div_mul, ← Nat.pow_succ]
    exact ih (i + 1) k (by omega) (by omega)
theorem ref_has (a : Nat) (n : Int) (ha : a < 18446744073709551616) (k : Nat) (hk : 70 ≤ k) : syntagmref01_Has.f k a n = some (hasN a n) := by
  obtain ⟨k, rfl⟩ : ∃ m, k = m + 1 := ⟨k - 1, by omega⟩
  unfold syntagmref01_Has.f hasN
  by_cases h0 : n < 0
  · rw [if_pos h0]
    simp only [syntagmref01_Has.j0]
    rw [if_pos trivial, decide_eq_false (by omega)]
    rfl
  · rw [if_neg h0]
    simp only [syntagmref01_Has.j0]
    by_cases h1 : n > 63
    · rw [decide_eq_true h1, if_pos rfl, decide_eq_false (by omega)]
      rfl
    · rw [decide_eq_false h1, if_neg (by decide), decide_eq_true (by omega), Bool.true_and]
      obtain ⟨m, rfl⟩ : ∃ m : Nat, n = m := ⟨n.toNat, by omega⟩
      have := ref_has_loop a m ha (by omega) m 0 k (by omega) (by omega)
      rw [Nat.pow_zero, Nat.div_one] at this
      rw [Int.toNat_natCast]
      exact this

theorem ref_bit_loop (n : Nat) (hn : n < 64) : ∀ d i k, i + d = n → d < k → syntagmref01_Bit.l0 k (n : Nat) ((2 ^ i : Nat) : Int) (i : Nat) = some ((2 ^ n : Nat) : Int) := by
  intro d
  induction d with
  | zero =>
    intro i k hi hk
    obtain ⟨k, rfl⟩ : ∃ m, k = m + 1 := ⟨k - 1, by omega⟩
    simp only [syntagmref01_Bit.l0]
    rw [if_neg (by omega), show i = n by omega]
  | succ d ih =>
    intro i k hi hk
    obtain ⟨k, rfl⟩ : ∃ m, k = m + 1 := ⟨k - 1, by omega⟩
    have hw : wrap64 ((i : Int) + 1) = ((i + 1 : Nat) : Int) := by unfold wrap64; omega
    have hp : 2 ^ (i + 1) < 18446744073709551616 := Nat.pow_lt_pow_right (by decide) (show i + 1 < 64 by omega)
    have hb : IntKind.u64.wrap (((2 ^ i : Nat) : Int) * 2) = ((2 ^ (i + 1) : Nat) : Int) := by
      rw [IntKind.wrap_u64]
      rw [Nat.pow_succ] at hp ⊢
      generalize 2 ^ i = p at hp
      omega
    simp only [syntagmref01_Bit.l0]
    rw [if_pos (by omega), hb, hw]
    exact ih (i + 1) k (by omega) (by omega)
theorem ref_bit (n : Nat) (hn : n < 64) (k : Nat) (hk : 66 ≤ k) : syntagmref01_Bit.f k (n : Nat) = some ((2 ^ n : Nat) : Int) := by
  unfold syntagmref01_Bit.f
  have := ref_bit_loop n hn n 0 k (by omega) (by omega)
  simpa using this

theorem ints_app (l m : List Nat) : ints (l ++ m) = ints l ++ ints m := by simp [ints]
theorem ref_list_loop (a : Nat) (ha : a < 18446744073709551616) : ∀ d i k, i + d = 64 → d + 71 ≤ k → syntagmref01_List.l0 k a (ints ((List.range i).filter fun j => a.testBit j)) (i : Nat) = some (ints (bitsOf a)) := by
  intro d
  induction d with
  | zero =>
    intro i k hi hk
    obtain ⟨k, rfl⟩ : ∃ m, k = m + 1 := ⟨k - 1, by omega⟩
    simp only [syntagmref01_List.l0]
    rw [if_neg (by omega), show i = 64 by omega]
    rfl
  | succ d ih =>
    intro i k hi hk
    obtain ⟨k, rfl⟩ : ∃ m, k = m + 1 := ⟨k - 1, by omega⟩
    have hw : wrap64 ((i : Int) + 1) = ((i + 1 : Nat) : Int) := by unfold wrap64; omega
    have hh : hasN a (i : Int) = a.testBit i := by unfold hasN; rw [decide_eq_true (by omega), Int.toNat_natCast, Bool.true_and]
    have hlen : (ints ((List.range i).filter fun j => a.testBit j)).length ≤ 64 := by
      have : (ints ((List.range i).filter fun j => a.testBit j)).length = ((List.range i).filter fun j => a.testBit j).length := by simp [ints]
      have h2 := List.length_filter_le (fun j => a.testBit j) (List.range i)
      rw [List.length_range] at h2
      omega
    have := ih (i + 1) k (by omega) (by omega)
    rw [List.range_succ, List.filter_append] at this
    simp only [syntagmref01_List.l0]
    rw [if_pos (by omega), ref_has a _ ha k (by omega), Option.bind_some, hh, hw]
    cases ht : a.testBit i
    · rw [if_neg (by decide)]
      simpa [ht] using this
    · rw [if_pos rfl, if_pos (by omega)]
      simpa [ht, ints_app, ints] using this
theorem ref_list (a : Nat) (ha : a < 18446744073709551616) (k : Nat) (hk : 140 ≤ k) : syntagmref01_List.f k a = some (ints (bitsOf a)) := by
  unfold syntagmref01_List.f
  exact ref_list_loop a ha 64 0 k (by omega) (by omega)

/-- Is a number among the first i? -/
theorem ref_of_inner (l : List Int) (hl : l.length ≤ 2000) (s : Nat) (n : Nat) (hn : n < 64) (r : Option Int) (K : Nat)
    (hend : ∀ k, K ≤ k → syntagmref01_Of.l1 k l s (n : Nat) (l.any fun x => x == (n : Int)) (l.length : Int) = r) :
    ∀ d i k, i + d = l.length → d + K ≤ k → syntagmref01_Of.l1 k l s (n : Nat) ((l.take i).any fun x => x == (n : Int)) (i : Nat) = r := by
  intro d
  induction d with
  | zero =>
    intro i k hi hk
    have := hend k (by omega)
    rw [List.take_of_length_le (by omega), show i = l.length by omega]
    exact this
  | succ d ih =>
    intro i k hi hk
    obtain ⟨k, rfl⟩ : ∃ m, k = m + 1 := ⟨k - 1, by omega⟩
    have hlt : i < l.length := by omega
    have hw : wrap64 ((i : Int) + 1) = ((i + 1 : Nat) : Int) := by unfold wrap64; omega
    have hr : rd l (i : Nat) = l[i] := by unfold rd; simp [List.getD, hlt]
    have := ih (i + 1) k (by omega) (by omega)
    rw [List.take_succ_eq_append_getElem hlt, List.any_append] at this
    rw [syntagmref01_Of.l1]
    rw [if_pos (by omega), hw, hr]
    cases ht : (l.take i).any fun x => x == (n : Int)
    · rw [if_neg (by decide), if_pos (by omega)]
      simpa [ht] using this
    · rw [if_pos rfl]
      simpa [ht] using this
theorem any_bit (l : List Int) (n : Nat) (hn : n < 64) : (l.any fun x => x == (n : Int)) = (ofZ l).testBit n := by
  rw [ofZ_test]
  induction l with
  | nil => rfl
  | cons x l ih =>
    rw [List.any_cons, List.any_cons, ih]
    congr 1
    by_cases h : x = (n : Int)
    · subst h
      rw [decide_eq_true (by omega)]
      simp
    · rw [decide_eq_false (by omega)]
      exact beq_eq_false_iff_ne.2 h
theorem mod_pow_succ (x n : Nat) : x % 2 ^ (n + 1) = x % 2 ^ n + 2 ^ n * (x.testBit n).toNat := by
  rw [Nat.pow_succ, Nat.mod_mul, Nat.testBit_eq_decide_div_mod_eq]
  have := Nat.mod_two_eq_zero_or_one (x / 2 ^ n)
  rcases this with h | h <;> rw [h] <;> rfl
theorem ref_of_loop (l : List Int) (hl : l.length ≤ 2000) : ∀ d n k, n + d = 64 → d * (l.length + 2) + 80 ≤ k → syntagmref01_Of.l0 k l ((ofZ l % 2 ^ n : Nat) : Int) (n : Nat) = some ((ofZ l : Nat) : Int) := by
  intro d
  induction d with
  | zero =>
    intro n k hn hk
    obtain ⟨k, rfl⟩ : ∃ m, k = m + 1 := ⟨k - 1, by omega⟩
    rw [syntagmref01_Of.l0]
    rw [if_neg (by omega), show n = 64 by omega, Nat.mod_eq_of_lt (ofZ_lt l)]
  | succ d ih =>
    intro n k hn hk
    obtain ⟨k, rfl⟩ : ∃ m, k = m + 1 := ⟨k - 1, by omega⟩
    rw [Nat.succ_mul] at hk
    have hw : wrap64 ((n : Int) + 1) = ((n + 1 : Nat) : Int) := by unfold wrap64; omega
    rw [syntagmref01_Of.l0]
    rw [if_pos (by omega)]
    have key : ∀ k, d * (l.length + 2) + 81 ≤ k → syntagmref01_Of.l1 k l ((ofZ l % 2 ^ n : Nat) : Int) (n : Nat) (l.any fun x => x == (n : Int)) (l.length : Int) = some ((ofZ l : Nat) : Int) := by
      intro k hk
      obtain ⟨k, rfl⟩ : ∃ m, k = m + 1 := ⟨k - 1, by omega⟩
      have h2 := ih (n + 1) k (by omega) (by omega)
      have hm := mod_pow_succ (ofZ l) n
      rw [syntagmref01_Of.l1]
      rw [if_neg (by omega), any_bit l n (by omega), hw]
      cases ht : (ofZ l).testBit n
      · rw [if_neg (by decide)]
        rw [ht] at hm
        rw [hm] at h2
        simpa using h2
      · rw [if_pos rfl, ref_bit n (by omega) k (by omega), Option.bind_some]
        rw [ht] at hm
        have hlt : ofZ l % 2 ^ (n + 1) < 18446744073709551616 := Nat.lt_of_le_of_lt (Nat.mod_le _ _) (ofZ_lt l)
        simp only [Bool.toNat_true, Nat.mul_one] at hm
        rw [add_plain_u64 _ _ (by rw [← hm]; exact hlt), ← hm]
        exact h2
    have := ref_of_inner l hl (ofZ l % 2 ^ n) n (by omega) (some ((ofZ l : Nat) : Int)) (d * (l.length + 2) + 81) key l.length 0 k (by omega) (by omega)
    simpa using this
theorem ref_of (l : List Int) (hl : l.length ≤ 2000) (k : Nat) (hk : 150000 ≤ k) : syntagmref01_Of.f k l = some ((ofZ l : Nat) : Int) := by
  unfold syntagmref01_Of.f
  have := ref_of_loop l hl 64 0 k (by omega) (by omega)
  rw [Nat.pow_zero, Nat.mod_one] at this
  exact this

theorem ref_row (l m : List Int) (hl : l.length ≤ 2000) (k : Nat) (hk : 3000 ≤ k) (h : l = m) : syntagmref01_Row.f k l m = some true := by
  subst h
  unfold syntagmref01_Row.f
  rw [if_pos rfl]
  have : ∀ d i k, i + d = l.length → d < k → syntagmref01_Row.l0 k l l (i : Nat) = some true := by
    intro d
    induction d with
    | zero =>
      intro i k hi hk
      obtain ⟨k, rfl⟩ : ∃ m, k = m + 1 := ⟨k - 1, by omega⟩
      simp only [syntagmref01_Row.l0]
      rw [if_neg (by omega)]
    | succ d ih =>
      intro i k hi hk
      obtain ⟨k, rfl⟩ : ∃ m, k = m + 1 := ⟨k - 1, by omega⟩
      have hw : wrap64 ((i : Int) + 1) = ((i + 1 : Nat) : Int) := by unfold wrap64; omega
      simp only [syntagmref01_Row.l0]
      rw [if_pos (by omega), if_pos (by omega), if_pos (by omega), if_pos trivial, hw]
      exact ih (i + 1) k (by omega) (by omega)
  exact this l.length 0 k (by omega) (by omega)

theorem ints_len (l : List Nat) : (ints l).length = l.length := by simp [ints]
section
variable (a b : Nat) (ha : a < 18446744073709551616) (hb : b < 18446744073709551616) (k : Nat) (hk : 151000 ≤ k)
include ha hb hk
theorem ref_union : syntagmref01_Union.f k a b = some ((a ||| b : Nat) : Int) := by
  have l1 := bitsOf_length a
  have l2 := bitsOf_length b
  have i1 := ints_len (bitsOf a)
  have i2 := ints_len (bitsOf b)
  unfold syntagmref01_Union.f
  rw [ref_list a ha k (by omega), Option.bind_some, if_pos (by simp; omega), Option.bind_some, ref_list b hb k (by omega), Option.bind_some, if_pos (by simp; omega),
    ref_of _ (by simp; omega) k (by omega), Option.bind_some, List.nil_append, ofZ_app, ofN_bits a ha, ofN_bits b hb]
end

/-- The set of those numbers of which a test holds. -/
theorem ofZ_filter (p : Nat → Bool) (c : Nat) (hc : c < 18446744073709551616) (h : ∀ i, i < 64 → c.testBit i = p i) : ofZ (ints ((List.range 64).filter p)) = c := set_ext _ _ (ofZ_lt _) hc fun i hi => by
  rw [ofZ_ints _ _ (fun x hx => by have := (List.mem_filter.1 hx).1; simpa using this), h i hi]
  by_cases hp : p i = true
  · rw [hp, decide_eq_true (List.mem_filter.2 ⟨List.mem_range.2 hi, hp⟩)]
  · rw [decide_eq_false (fun hm => hp (List.mem_filter.1 hm).2)]
    simpa using hp

section
variable (a b : Nat) (ha : a < 18446744073709551616) (hb : b < 18446744073709551616)
theorem hasN_at (i : Nat) (hi : i < 64) : hasN a (i : Int) = a.testBit i := by unfold hasN; rw [decide_eq_true (by omega), Int.toNat_natCast, Bool.true_and]
include ha hb
theorem ref_meet_loop : ∀ d i k, i + d = 64 → d + 150001 ≤ k → syntagmref01_Meet.l0 k a b (ints ((List.range i).filter fun j => a.testBit j && b.testBit j)) (i : Nat) = some ((a &&& b : Nat) : Int) := by
  intro d
  induction d with
  | zero =>
    intro i k hi hk
    obtain ⟨k, rfl⟩ : ∃ m, k = m + 1 := ⟨k - 1, by omega⟩
    have hi64 : i = 64 := by omega
    subst hi64
    have h2 := List.length_filter_le (fun j => a.testBit j && b.testBit j) (List.range 64)
    rw [List.length_range] at h2
    simp only [syntagmref01_Meet.l0]
    rw [if_neg (by omega), ref_of _ (by rw [ints_len]; omega) k (by omega), Option.bind_some, ofZ_filter _ (a &&& b) (and_lt a b ha) (fun i _ => by simp)]
  | succ d ih =>
    intro i k hi hk
    obtain ⟨k, rfl⟩ : ∃ m, k = m + 1 := ⟨k - 1, by omega⟩
    have hw : wrap64 ((i : Int) + 1) = ((i + 1 : Nat) : Int) := by unfold wrap64; omega
    have h2 := List.length_filter_le (fun j => a.testBit j && b.testBit j) (List.range i)
    rw [List.length_range, ← ints_len] at h2
    have := ih (i + 1) k (by omega) (by omega)
    rw [List.range_succ, List.filter_append] at this
    simp only [syntagmref01_Meet.l0]
    rw [if_pos (by omega), ref_has a _ ha k (by omega), Option.bind_some, hasN_at a i (by omega), hw]
    cases ht : a.testBit i
    · rw [if_neg (by decide)]
      simpa [ht] using this
    · rw [if_pos rfl, ref_has b _ hb k (by omega), Option.bind_some, hasN_at b i (by omega)]
      cases hu : b.testBit i
      · rw [if_neg (by decide)]
        simpa [ht, hu] using this
      · rw [if_pos rfl, if_pos (by omega)]
        simpa [ht, hu, ints_app, ints] using this
theorem ref_meet (k : Nat) (hk : 151000 ≤ k) : syntagmref01_Meet.f k a b = some ((a &&& b : Nat) : Int) := by
  unfold syntagmref01_Meet.f
  exact ref_meet_loop a b ha hb 64 0 k (by omega) (by omega)
theorem ref_less_loop : ∀ d i k, i + d = 64 → d + 150001 ≤ k → syntagmref01_Less.l0 k a b (ints ((List.range i).filter fun j => a.testBit j && !b.testBit j)) (i : Nat) = some ((lessN a b : Nat) : Int) := by
  intro d
  induction d with
  | zero =>
    intro i k hi hk
    obtain ⟨k, rfl⟩ : ∃ m, k = m + 1 := ⟨k - 1, by omega⟩
    have hi64 : i = 64 := by omega
    subst hi64
    have h2 := List.length_filter_le (fun j => a.testBit j && !b.testBit j) (List.range 64)
    rw [List.length_range] at h2
    simp only [syntagmref01_Less.l0]
    rw [if_neg (by omega), ref_of _ (by rw [ints_len]; omega) k (by omega), Option.bind_some, ofZ_filter _ (lessN a b) (lessN_lt a b ha) (fun i _ => lessN_test a b i ha hb)]
  | succ d ih =>
    intro i k hi hk
    obtain ⟨k, rfl⟩ : ∃ m, k = m + 1 := ⟨k - 1, by omega⟩
    have hw : wrap64 ((i : Int) + 1) = ((i + 1 : Nat) : Int) := by unfold wrap64; omega
    have h2 := List.length_filter_le (fun j => a.testBit j && !b.testBit j) (List.range i)
    rw [List.length_range, ← ints_len] at h2
    have := ih (i + 1) k (by omega) (by omega)
    rw [List.range_succ, List.filter_append] at this
    simp only [syntagmref01_Less.l0]
    rw [if_pos (by omega), ref_has a _ ha k (by omega), Option.bind_some, hasN_at a i (by omega), hw]
    cases ht : a.testBit i
    · rw [if_neg (by decide)]
      simpa [ht] using this
    · rw [if_pos rfl, ref_has b _ hb k (by omega), Option.bind_some, hasN_at b i (by omega)]
      cases hu : b.testBit i
      · rw [if_neg (by decide), if_pos (by omega)]
        simpa [ht, hu, ints_app, ints] using this
      · rw [if_pos rfl]
        simpa [ht, hu] using this
theorem ref_less (k : Nat) (hk : 151000 ≤ k) : syntagmref01_Less.f k a b = some ((lessN a b : Nat) : Int) := by
  unfold syntagmref01_Less.f
  exact ref_less_loop a b ha hb 64 0 k (by omega) (by omega)
end

end Go.Proofs.YtknkgponjjghcaaDoor.P
