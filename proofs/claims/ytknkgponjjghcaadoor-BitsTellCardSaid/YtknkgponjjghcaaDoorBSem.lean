/- What the printed functions of package bits compute, in plain words: sets as natural numbers below 2^64, bit by bit. No conditions. -/
import Derived.Test.YtknkgponjjghcaaDoorPx1
import Derived.Test.YtknkgponjjghcaaDoorPx2
import Derived.Test.YtknkgponjjghcaaDoorBList
import Derived.Laws.Bits64b
set_option linter.unusedVariables false
set_option linter.unusedSimpArgs false
namespace Go.Proofs.YtknkgponjjghcaaDoor.P
open Go.RowKit Go.Proofs.YtknkgponjjghcaaDoorW.PrintWords Go.Proofs.YtknkgponjjghcaaDoorW.PrintLast Go.Proofs.YtknkgponjjghcaaDoorW.PrintMore

/-- A number's bit; 0 of one that there is not. -/
def bitN (n : Int) : Nat := if 0 ≤ n ∧ n < 64 then 2 ^ n.toNat else 0
def lessN (a b : Nat) : Nat := a &&& (2 ^ 64 - (b + 1))

theorem bitN_lt (n : Int) : bitN n < 18446744073709551616 := by
  unfold bitN
  split
  · rename_i h
    have : n.toNat < 64 := by omega
    exact Nat.pow_lt_pow_right (by decide) this
  · omega
theorem bitN_test (n : Int) (i : Nat) : (bitN n).testBit i = decide (0 ≤ n ∧ n < 64 ∧ n.toNat = i) := by
  unfold bitN
  split
  · rw [Nat.testBit_two_pow]
    simp only [decide_eq_decide]
    omega
  · rw [Nat.zero_testBit]
    symm
    rw [decide_eq_false_iff_not]
    omega
theorem bitN_at (n : Nat) (h : n < 64) : bitN (n : Int) = 2 ^ n := by
  unfold bitN
  rw [if_pos (by omega), Int.toNat_natCast]
theorem high (a i : Nat) (ha : a < 18446744073709551616) (hi : 64 ≤ i) : a.testBit i = false := Nat.testBit_lt_two_pow (Nat.lt_of_lt_of_le ha (Nat.pow_le_pow_right (by decide) hi : 2 ^ 64 ≤ 2 ^ i))
theorem lessN_test (a b i : Nat) (ha : a < 18446744073709551616) (hb : b < 18446744073709551616) : (lessN a b).testBit i = (a.testBit i && !b.testBit i) := by
  unfold lessN
  rw [Nat.testBit_and, Nat.testBit_two_pow_sub_succ hb]
  by_cases hi : i < 64
  · simp [hi]
  · rw [high a i ha (by omega)]; simp
theorem lessN_lt (a b : Nat) (ha : a < 18446744073709551616) : lessN a b < 18446744073709551616 := Nat.lt_of_le_of_lt Nat.and_le_left ha
theorem or_lt (a b : Nat) (ha : a < 18446744073709551616) (hb : b < 18446744073709551616) : a ||| b < 18446744073709551616 := Nat.or_lt_two_pow (n := 64) ha hb
theorem and_lt (a b : Nat) (ha : a < 18446744073709551616) : a &&& b < 18446744073709551616 := Nat.lt_of_le_of_lt Nat.and_le_left ha

theorem bits_andNot_u64_nat (a b : Nat) (ha : a < 18446744073709551616) (hb : b < 18446744073709551616) : Go.bits .andNot .u64 (a : Int) (b : Int) = ((lessN a b : Nat) : Int) := by
  have hx : lessN a b < 18446744073709551616 := lessN_lt a b ha
  have h1 : (BitVec.ofInt 64 (a : Int)).toNat = a := by
    rw [BitVec.ofInt_natCast, BitVec.toNat_ofNat]; exact Nat.mod_eq_of_lt (by omega)
  have h2 : (BitVec.ofInt 64 (b : Int)).toNat = b := by
    rw [BitVec.ofInt_natCast, BitVec.toNat_ofNat]; exact Nat.mod_eq_of_lt (by omega)
  show IntKind.u64.wrap ((BitVec.ofInt 64 (a : Int) &&& ~~~ BitVec.ofInt 64 (b : Int)).toNat : Int) = _
  rw [BitVec.toNat_and, BitVec.toNat_not, h1, h2, IntKind.wrap_u64, show 2 ^ 64 - 1 - b = 2 ^ 64 - (b + 1) by omega]
  show ((lessN a b : Nat) : Int) % _ = _
  omega

theorem bit_eq (n : Int) : bits_bit.f n = some ((bitN n : Nat) : Int) := by
  unfold bits_bit.f bitN
  by_cases h0 : n < 0
  · rw [if_pos h0, if_neg (by omega)]; rfl
  · by_cases h1 : n ≥ 64
    · rw [if_neg h0, if_pos h1, if_neg (by omega)]; rfl
    · rw [if_neg h0, if_neg h1, if_pos (by omega), if_pos (by omega)]
      have hn : n.toNat < 64 := by omega
      have hp : 2 ^ n.toNat < 18446744073709551616 := Nat.pow_lt_pow_right (by decide) hn
      unfold shl
      rw [show min n.toNat (IntKind.bits .u64) = n.toNat from Nat.min_eq_left (Nat.le_of_lt hn), IntKind.wrap_u64, Int.one_mul]
      have e : ((2 : Int) ^ n.toNat) = ((2 ^ n.toNat : Nat) : Int) := by simp
      rw [e]
      generalize 2 ^ n.toNat = p at hp
      congr 1
      omega

section
variable (a b : Nat) (n : Int) (ha : a < 18446744073709551616) (hb : b < 18446744073709551616)
include ha
theorem union_eq (hb : b < 18446744073709551616) : bits_Union.f a b = some ((a ||| b : Nat) : Int) := by unfold bits_Union.f; rw [bits_or_u64_nat a b ha hb]
theorem meet_eq (hb : b < 18446744073709551616) : bits_Meet.f a b = some ((a &&& b : Nat) : Int) := by unfold bits_Meet.f; rw [bits_and_u64_nat a b ha hb]
theorem less_eq (hb : b < 18446744073709551616) : bits_Less.f a b = some ((lessN a b : Nat) : Int) := by unfold bits_Less.f; rw [bits_andNot_u64_nat a b ha hb]
theorem in_eq (hb : b < 18446744073709551616) : bits_In.f a b = some (decide (lessN a b = 0)) := by
  unfold bits_In.f
  rw [less_eq a b ha hb]
  simp only [Option.bind_some, Option.some.injEq]
  by_cases h : lessN a b = 0
  · rw [h]; rfl
  · rw [decide_eq_false h]
    exact beq_eq_false_iff_ne.2 (by omega)
theorem with_eq : bits_With.f a n = some ((a ||| bitN n : Nat) : Int) := by unfold bits_With.f; rw [bit_eq, Option.bind_some, bits_or_u64_nat a _ ha (bitN_lt n)]
theorem without_eq : bits_Without.f a n = some ((lessN a (bitN n) : Nat) : Int) := by unfold bits_Without.f; rw [bit_eq, Option.bind_some, bits_andNot_u64_nat a _ ha (bitN_lt n)]
/-- Has it a number? -/
def hasN (a : Nat) (n : Int) : Bool := decide (0 ≤ n ∧ n < 64) && a.testBit n.toNat
theorem has_eq : bits_Has.f a n = some (hasN a n) := by
  unfold bits_Has.f hasN
  rw [bit_eq, Option.bind_some, bits_and_u64_nat a _ ha (bitN_lt n)]
  congr 1
  unfold bitN
  by_cases h : 0 ≤ n ∧ n < 64
  · rw [if_pos h, decide_eq_true h, Bool.true_and]
    have hb : ∀ i, (a &&& 2 ^ n.toNat).testBit i = (a.testBit n.toNat && decide (n.toNat = i)) := fun i => by
      rw [Nat.testBit_and, Nat.testBit_two_pow]
      by_cases e : n.toNat = i
      · subst e; simp
      · simp [e]
    cases ht : a.testBit n.toNat
    · have : a &&& 2 ^ n.toNat = 0 := Nat.eq_of_testBit_eq fun i => by rw [hb, ht, Nat.zero_testBit]; rfl
      rw [this]; rfl
    · have : a &&& 2 ^ n.toNat ≠ 0 := fun e => by
        have := hb n.toNat
        rw [e, Nat.zero_testBit, ht] at this
        simp at this
      exact bne_iff_ne.2 (by omega)
  · rw [if_neg h, decide_eq_false h, Nat.and_zero]
    rfl
theorem list_eq : bits_List.f a = some (ints (bitsOf a)) := by
  unfold bits_List.f
  rw [if_pos (by omega), if_pos (by omega), Int.toNat_natCast]
/-- The least number; -1 of the empty set. -/
theorem first_eq : bits_First.f a = some (if a = 0 then -1 else ((Lib.ctz 64 a : Nat) : Int)) := by
  unfold bits_First.f bits_TrailingZeros64.f
  by_cases h : a = 0
  · rw [if_pos (by omega), if_pos h]
  · rw [if_neg (by omega), if_pos (by omega), if_pos (by omega), if_neg h, Int.toNat_natCast]
end

theorem mem_bitsOf (a i : Nat) : i ∈ bitsOf a ↔ i < 64 ∧ a.testBit i = true := by simp [bitsOf]
theorem set_ext (a b : Nat) (ha : a < 18446744073709551616) (hb : b < 18446744073709551616) (h : ∀ i, i < 64 → a.testBit i = b.testBit i) : a = b :=
  Nat.eq_of_testBit_eq fun i => by
    by_cases hi : i < 64
    · exact h i hi
    · rw [high a i ha (by omega), high b i hb (by omega)]

/-! ### how many: math/bits.OnesCount64 -/
/-- Bytes, the least first, as one number. -/
def V : List Nat → Nat
  | [] => 0
  | b :: l => b + 256 * V l
theorem and_byte (q m r c : Nat) (hr : r < 256) (hc : c < 256) : (r + 256 * q) &&& (c + 256 * m) = (r &&& c) + 256 * (q &&& m) := by
  have h1 : (r &&& c) < 256 := Nat.lt_of_le_of_lt Nat.and_le_left hr
  have d : ((r + 256 * q) &&& (c + 256 * m)) / 2 ^ 8 = q &&& m := by
    rw [Nat.and_div_two_pow, show (r + 256 * q) / 2 ^ 8 = q by omega, show (c + 256 * m) / 2 ^ 8 = m by omega]
  have e : ((r + 256 * q) &&& (c + 256 * m)) % 2 ^ 8 = r &&& c := by
    rw [Nat.and_mod_two_pow, show (r + 256 * q) % 2 ^ 8 = r by omega, show (c + 256 * m) % 2 ^ 8 = c by omega]
  omega
def f1 (b : Nat) : Nat := (b / 2 &&& 85) + (b &&& 85)
def f2 (b : Nat) : Nat := (b / 4 &&& 51) + (b &&& 51)
def f3 (b : Nat) : Nat := (b / 16 + b) &&& 15
theorem f1_lt : ∀ b, b < 256 → f1 b < 171 := by decide +kernel
theorem c1 : ∀ b, b < 256 → ∀ c, c < 2 → (b / 2 + 128 * c) &&& 85 = b / 2 &&& 85 := by decide +kernel
theorem c2 : ∀ b, b < 256 → ∀ c, c < 4 → (b / 4 + 64 * c) &&& 51 = b / 4 &&& 51 := by decide +kernel
theorem step1 : ∀ (l : List Nat), (∀ b ∈ l, b < 256) → (V l / 2 &&& V (l.map fun _ => 85)) + (V l &&& V (l.map fun _ => 85)) = V (l.map f1)
  | [], _ => by simp [V]
  | b :: l, h => by
    have hb : b < 256 := h b List.mem_cons_self
    have ih := step1 l (fun x hx => h x (List.mem_cons_of_mem _ hx))
    simp only [V, List.map_cons]
    have e1 : (b + 256 * V l) / 2 = (b / 2 + 128 * (V l % 2)) + 256 * (V l / 2) := by omega
    rw [e1, and_byte _ _ _ _ (by omega) (by omega), and_byte _ _ _ _ hb (by omega), c1 b hb _ (by omega)]
    unfold f1
    unfold f1 at ih
    omega
theorem step2 : ∀ (l : List Nat), (∀ b ∈ l, b < 256) → (V l / 4 &&& V (l.map fun _ => 51)) + (V l &&& V (l.map fun _ => 51)) = V (l.map f2)
  | [], _ => by simp [V]
  | b :: l, h => by
    have hb : b < 256 := h b List.mem_cons_self
    have ih := step2 l (fun x hx => h x (List.mem_cons_of_mem _ hx))
    simp only [V, List.map_cons]
    have e1 : (b + 256 * V l) / 4 = (b / 4 + 64 * (V l % 4)) + 256 * (V l / 4) := by omega
    rw [e1, and_byte _ _ _ _ (by omega) (by omega), and_byte _ _ _ _ hb (by omega), c2 b hb _ (by omega)]
    unfold f2
    unfold f2 at ih
    omega
/-- Nibbles of four at the most. -/
def nib (b : Nat) : Bool := decide (b < 256) && decide (b % 16 ≤ 4) && decide (b / 16 ≤ 4)
theorem c3 : ∀ b, b < 256 → nib b = true → ∀ c, c < 5 → b / 16 + b + 16 * c < 256 ∧ (b / 16 + b + 16 * c) &&& 15 = f3 b := by decide +kernel
theorem head_nib : ∀ (l : List Nat), (∀ b ∈ l, nib b = true) → V l % 16 < 5
  | [], _ => by simp [V]
  | b :: l, h => by
    have hb := h b List.mem_cons_self
    simp [nib] at hb
    simp only [V]
    omega
theorem step3 : ∀ (l : List Nat), (∀ b ∈ l, nib b = true) → (V l / 16 + V l) &&& V (l.map fun _ => 15) = V (l.map f3)
  | [], _ => by simp [V]
  | b :: l, h => by
    have hb := h b List.mem_cons_self
    have ih := step3 l (fun x hx => h x (List.mem_cons_of_mem _ hx))
    have hn := head_nib l (fun x hx => h x (List.mem_cons_of_mem _ hx))
    have hlt : b < 256 := by simp [nib] at hb; omega
    obtain ⟨h1, h2⟩ := c3 b hlt hb _ hn
    simp only [V, List.map_cons]
    have e1 : (b + 256 * V l) / 16 + (b + 256 * V l) = (b / 16 + b + 16 * (V l % 16)) + 256 * (V l / 16 + V l) := by omega
    rw [e1, and_byte _ _ _ _ h1 (by omega), h2, ih]
def cnt (n a : Nat) : Nat := ((List.range n).filter (fun i => a.testBit i)).length
theorem pc_byte : ∀ b, b < 256 → nib (f2 (f1 b)) = true ∧ f3 (f2 (f1 b)) = cnt 8 b ∧ f2 (f1 b) < 256 ∧ cnt 8 b ≤ 8 := by decide +kernel
theorem cnt_byte (n b q : Nat) (hb : b < 256) : cnt (8 + n) (b + 256 * q) = cnt 8 b + cnt n q := by
  unfold cnt
  rw [List.range_add, List.filter_append, List.length_append]
  have t : ∀ i, (b + 256 * q).testBit i = if i < 8 then b.testBit i else q.testBit (i - 8) := fun i => by
    have := Nat.testBit_two_pow_mul_add q (b := b) (i := 8) hb i
    rw [show 2 ^ 8 * q + b = b + 256 * q by omega] at this
    exact this
  congr 1
  · congr 1
    refine List.filter_congr fun i hi => ?_
    rw [t, if_pos (List.mem_range.1 hi)]
  · rw [List.filter_map, List.length_map]
    congr 1
    refine List.filter_congr fun i hi => ?_
    simp only [Function.comp]
    rw [t, if_neg (by omega), show 8 + i - 8 = i by omega]
theorem bytes_of (a : Nat) (h : a < 18446744073709551616) : ∃ b0 b1 b2 b3 b4 b5 b6 b7, b0 < 256 ∧ b1 < 256 ∧ b2 < 256 ∧ b3 < 256 ∧ b4 < 256 ∧ b5 < 256 ∧ b6 < 256 ∧ b7 < 256 ∧ a = V [b0, b1, b2, b3, b4, b5, b6, b7] := by
  refine ⟨a % 256, a / 256 % 256, a / 256 / 256 % 256, a / 256 / 256 / 256 % 256, a / 256 / 256 / 256 / 256 % 256, a / 256 / 256 / 256 / 256 / 256 % 256, a / 256 / 256 / 256 / 256 / 256 / 256 % 256, a / 256 / 256 / 256 / 256 / 256 / 256 / 256 % 256, ?_, ?_, ?_, ?_, ?_, ?_, ?_, ?_, ?_⟩ <;> (try simp only [V]) <;> omega

end Go.Proofs.YtknkgponjjghcaaDoor.P
