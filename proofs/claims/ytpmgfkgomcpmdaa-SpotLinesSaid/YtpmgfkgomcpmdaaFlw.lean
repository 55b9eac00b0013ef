/- Which floats are whole numbers up to 2147483647, as the program asks it. No program. No conditions. -/
import Derived.Test.YtpmgfkgomcpmdaaFl
namespace Go.Proofs.Ytpmgfkgomcpmdaa.Fl
open Ieee

theorem read_place (x : Nat) : ∀ s m i, double.read x = .number s m i → -1074 ≤ i := by
  intro s m i h
  unfold Format.read at h
  rw [least] at h
  dsimp only at h
  split at h
  · cases h; omega
  · split at h
    · cases h; omega
    · split at h <;> cases h

/-- The whole part of a number. -/
def whl (s : Bool) (m : Nat) (i : Int) : Nat := Toward.zero.cut s (m <<< i.toNat) (-i).toNat

theorem whl_bd (s : Bool) (m : Nat) (i : Int) (hi : -1074 ≤ i) : whl s m i * U ≤ m * 2 ^ (i + 1074).toNat ∧ m * 2 ^ (i + 1074).toNat < (whl s m i + 1) * U := by
  unfold whl Toward.cut
  dsimp only
  simp only [Bool.toNat_false, Nat.add_zero, Nat.shiftLeft_eq, Nat.one_mul]
  by_cases h0 : 0 ≤ i
  · rw [show (-i).toNat = 0 by omega, Nat.zero_min, Nat.pow_zero, Nat.div_one]
    have e : m * 2 ^ (i + 1074).toNat = m * 2 ^ i.toNat * U := by rw [U, Nat.mul_assoc, psp (c := (i + 1074).toNat) (by rw [E_eq]; omega)]
    rw [e, Nat.add_mul]
    have := U_pos
    omega
  · have e0 : i.toNat = 0 := by omega
    rw [e0, Nat.pow_zero, Nat.mul_one]
    obtain ⟨d, hd⟩ : ∃ d : Nat, d = (-i).toNat := ⟨_, rfl⟩
    have hU : U = 2 ^ d * 2 ^ (i + 1074).toNat := by rw [U, psp]; rw [E_eq]; omega
    rw [← hd, hU]
    have hp : 0 < 2 ^ (i + 1074).toNat := Nat.two_pow_pos _
    have hq : 0 < 2 ^ d := Nat.two_pow_pos _
    by_cases hc : d ≤ m.log2 + 2
    · rw [Nat.min_eq_left hc]
      constructor
      · rw [← Nat.mul_assoc]; exact Nat.mul_le_mul_right _ (Nat.div_mul_le_self m _)
      · rw [← Nat.mul_assoc]
        refine Nat.mul_lt_mul_of_pos_right ?_ hp
        rw [Nat.add_mul, Nat.one_mul, Nat.mul_comm]
        exact Nat.lt_mul_div_succ m hq |> fun h => by rw [Nat.mul_add, Nat.mul_one] at h; exact h
    · rw [Nat.min_eq_right (by omega)]
      have hm : m < 2 ^ (m.log2 + 1) := by
        by_cases hz : m = 0
        · subst hz; exact Nat.two_pow_pos _
        · exact ((Nat.log2_eq_iff hz).1 rfl).2
      have hm2 : 2 ^ (m.log2 + 1) ≤ 2 ^ (m.log2 + 2) := Nat.pow_le_pow_right (by omega) (by omega)
      have hm3 : 2 ^ (m.log2 + 1) ≤ 2 ^ d := Nat.pow_le_pow_right (by omega) (by omega)
      rw [Nat.div_eq_of_lt (by omega), Nat.zero_mul, Nat.zero_add, Nat.one_mul]
      exact ⟨Nat.zero_le _, Nat.mul_lt_mul_of_pos_right (by omega) hp⟩

/-- A float that is a whole number. -/
def IsN (x n : Nat) : Prop := ∃ s m i, double.read x = .number s m i ∧ sv s m i = (n : Int) * U

theorem feq_iff (x n : Nat) (hn : n < 2 ^ 53) : feq x (F n) = true ↔ IsN x n := by
  obtain ⟨m', i', h1, h2, h3⟩ := read_G false n hn
  have hsv : sv false m' i' = (n : Int) * U := by unfold sv; simp only [Bool.false_eq_true, if_false]; rw [h3, Int.natCast_mul]
  unfold feq Format.order IsN
  rw [← G_false, h1]
  cases hx : double.read x with
  | number s m i =>
    rw [order_num _ _ _ _ _ _ (read_place x _ _ _ hx) h2, hsv]
    constructor
    · intro h
      have h : compare (sv s m i) ((n : Int) * U) = .eq := by simpa using h
      exact ⟨s, m, i, rfl, (cmp_eq _ _).1 h⟩
    · rintro ⟨s', m'', i'', he, h⟩
      cases he
      rw [(cmp_eq _ _).2 h]; rfl
  | infinity s =>
    constructor
    · intro h; unfold Datum.order at h; cases s <;> simp at h
    · rintro ⟨_, _, _, he, _⟩; cases he
  | nan s t =>
    constructor
    · intro h; unfold Datum.order at h; simp at h
    · rintro ⟨_, _, _, he, _⟩; cases he

theorem feq_iff' (x n : Nat) (hn : n < 2 ^ 53) : feq (F n) x = true ↔ IsN x n := by
  obtain ⟨m', i', h1, h2, h3⟩ := read_G false n hn
  have hsv : sv false m' i' = (n : Int) * U := by unfold sv; simp only [Bool.false_eq_true, if_false]; rw [h3, Int.natCast_mul]
  unfold feq Format.order IsN
  rw [← G_false, h1]
  cases hx : double.read x with
  | number s m i =>
    rw [order_num _ _ _ _ _ _ h2 (read_place x _ _ _ hx), hsv]
    constructor
    · intro h
      have h : compare ((n : Int) * U) (sv s m i) = .eq := by simpa using h
      exact ⟨s, m, i, rfl, ((cmp_eq _ _).1 h).symm⟩
    · rintro ⟨s', m'', i'', he, h⟩
      cases he
      rw [(cmp_eq _ _).2 h.symm]; rfl
  | infinity s =>
    constructor
    · intro h; unfold Datum.order at h; cases s <;> simp at h
    · rintro ⟨_, _, _, he, _⟩; cases he
  | nan s t =>
    constructor
    · intro h; unfold Datum.order at h; simp at h
    · rintro ⟨_, _, _, he, _⟩; cases he

theorem feq_symm (x n : Nat) (hn : n < 2 ^ 53) : feq (F n) x = feq x (F n) := by
  rw [Bool.eq_iff_iff, feq_iff x n hn, feq_iff' x n hn]

theorem IsN_one {x a b : Nat} (ha : IsN x a) (hb : IsN x b) : a = b := by
  obtain ⟨s, m, i, h1, h2⟩ := ha
  obtain ⟨s', m', i', h3, h4⟩ := hb
  rw [h1] at h3; cases h3
  have hp := U_pos
  rw [h2] at h4
  have := Int.eq_of_mul_eq_mul_right (a := (U : Int)) (by omega) h4
  omega

theorem IsN_F (n : Nat) (hn : n < 2 ^ 53) : IsN (F n) n := (feq_iff _ n hn).1 (by rw [feq_F n n hn hn]; simp)

/-- The whole part as a float, of what is no NaN. -/
def tw (x : Nat) : Nat := double.write ((double.read x).integral .zero)
def big : Nat := 4746794007244308480
theorem big_eq : big = F 2147483647 := by decide +kernel
theorem zero_eq : 0 = F 0 := by decide +kernel

def wholeB (x : Nat) : Bool := feq x (tw x) && !(double.order x 0 == some .lt) && !(double.order x big == some .gt)

theorem order_iff (x n : Nat) (hn : n < 2 ^ 53) (s : Bool) (m : Nat) (i : Int) (hx : double.read x = .number s m i) : double.order x (F n) = some (compare (sv s m i) ((n : Int) * U)) := by
  obtain ⟨m', i', h1, h2, h3⟩ := read_G false n hn
  have hsv : sv false m' i' = (n : Int) * U := by unfold sv; simp only [Bool.false_eq_true, if_false]; rw [h3, Int.natCast_mul]
  unfold Format.order
  rw [← G_false, h1, hx, order_num _ _ _ _ _ _ (read_place x _ _ _ hx) h2, hsv]

theorem tw_num (x : Nat) (s : Bool) (m : Nat) (i : Int) (hx : double.read x = .number s m i) : tw x = G s (whl s m i) := by
  unfold tw; rw [hx]; rfl

theorem feq_G (x n : Nat) (hn : n < 2 ^ 53) (s : Bool) (m : Nat) (i : Int) (hx : double.read x = .number s m i) : feq x (G s n) = true ↔ sv s m i = if s then -((n : Int) * U) else (n : Int) * U := by
  obtain ⟨m', i', h1, h2, h3⟩ := read_G s n hn
  have hsv : sv s m' i' = if s then -((n : Int) * U) else (n : Int) * U := by unfold sv; rw [h3, Int.natCast_mul]
  unfold feq Format.order
  rw [h1, hx, order_num _ _ _ _ _ _ (read_place x _ _ _ hx) h2, hsv]
  constructor
  · intro h
    exact (cmp_eq _ _).1 (by simpa using h)
  · intro h; rw [(cmp_eq _ _).2 h]; rfl

theorem mulU_le {a b : Nat} (h : (a : Int) * U ≤ (b : Int) * U) : a ≤ b := by
  have := Int.le_of_mul_le_mul_right h (by have := U_pos; omega)
  omega

theorem whole_yes (x : Nat) (h : wholeB x = true) : ∃ n : Nat, n ≤ 2147483647 ∧ (double.read x).toInt .zero = some (n : Int) ∧ IsN x n := by
  unfold wholeB at h
  rw [Bool.and_eq_true, Bool.and_eq_true] at h
  obtain ⟨⟨h1, h2⟩, h3⟩ := h
  have hU := U_pos
  cases hx : double.read x with
  | number s m i =>
    have hp := read_place x _ _ _ hx
    have hb := whl_bd s m i hp
    rw [zero_eq, order_iff x 0 (by omega) s m i hx] at h2
    rw [big_eq, order_iff x 2147483647 (by omega) s m i hx] at h3
    have h2' : ¬ sv s m i < ((0 : Nat) : Int) * U := fun hl => by rw [(cmp_lt _ _).2 hl] at h2; simp at h2
    have h3' : ¬ ((2147483647 : Nat) : Int) * U < sv s m i := fun hl => by rw [(cmp_gt _ _).2 hl] at h3; simp at h3
    cases s
    · have e : sv false m i = ((m * 2 ^ (i + 1074).toNat : Nat) : Int) := by unfold sv; simp
      rw [e] at h3'
      have hq : whl false m i ≤ 2147483647 := mulU_le (by rw [← Int.natCast_mul]; omega)
      rw [tw_num x _ _ _ hx, feq_G x _ (by omega) _ _ _ hx] at h1
      exact ⟨whl false m i, hq, by
        show some (signed false (whl false m i) 0) = _
        unfold signed; simp, false, m, i, hx, by simpa using h1⟩
    · have e : sv true m i = -((m * 2 ^ (i + 1074).toNat : Nat) : Int) := by unfold sv; simp
      have hz : m * 2 ^ (i + 1074).toNat = 0 := by
        rw [e] at h2'
        have : ((0 : Nat) : Int) * (U : Int) = 0 := by simp
        rw [this] at h2'
        omega
      have hq : whl true m i = 0 := by
        have := hb.1; rw [hz] at this
        rcases Nat.eq_zero_or_pos (whl true m i) with h | h
        · exact h
        · have := Nat.mul_pos h hU; omega
      exact ⟨0, by omega, by
        show some (signed true (whl true m i) 0) = _
        rw [hq]; rfl, true, m, i, hx, by rw [e, hz]; simp⟩
  | infinity s =>
    cases s
    · exfalso
      have : double.order x big = some .gt := by
        obtain ⟨m', i', e1, _, _⟩ := read_G false 2147483647 (by omega)
        unfold Format.order; rw [hx, big_eq, ← G_false, e1]; rfl
      rw [this] at h3; simp at h3
    · exfalso
      have : double.order x 0 = some .lt := by
        obtain ⟨m', i', e1, _, _⟩ := read_G false 0 (by omega)
        unfold Format.order; rw [hx, zero_eq, ← G_false, e1]; rfl
      rw [this] at h2; simp at h2
  | nan s t =>
    exfalso
    have : feq x (tw x) = false := by unfold feq Format.order; rw [hx]; rfl
    rw [this] at h1; cases h1

theorem some_ne {o r : Ordering} (h : ¬ o = r) : (some o == some r) = false := by
  cases o <;> cases r <;> first | rfl | exact absurd rfl h

theorem whole_of (x n : Nat) (hn : n ≤ 2147483647) (h : IsN x n) : wholeB x = true := by
  obtain ⟨s, m, i, hx, hv⟩ := h
  have hU := U_pos
  have hp := read_place x _ _ _ hx
  have hb := whl_bd s m i hp
  unfold wholeB
  have a2 : (double.order x 0 == some .lt) = false := by
    rw [zero_eq, order_iff x 0 (by omega) s m i hx, hv]
    have : ¬ compare ((n : Int) * U) (((0 : Nat) : Int) * U) = .lt := fun e => by
      have := (cmp_lt _ _).1 e
      have hz : ((0 : Nat) : Int) * (U : Int) = 0 := by simp
      rw [hz, ← Int.natCast_mul] at this
      omega
    exact some_ne this
  have a3 : (double.order x big == some .gt) = false := by
    rw [big_eq, order_iff x 2147483647 (by omega) s m i hx, hv]
    have : ¬ compare ((n : Int) * U) (((2147483647 : Nat) : Int) * U) = .gt := fun e => by
      have := (cmp_gt _ _).1 e
      have hlt := Int.lt_of_mul_lt_mul_right this (Int.natCast_nonneg U)
      exact absurd hlt (Int.not_lt.2 (Int.ofNat_le.2 hn))
    exact some_ne this
  have a1 : feq x (tw x) = true := by
    rw [tw_num x _ _ _ hx]
    cases s
    · have e : sv false m i = ((m * 2 ^ (i + 1074).toNat : Nat) : Int) := by unfold sv; simp
      rw [e, ← Int.natCast_mul] at hv
      have hv' : m * 2 ^ (i + 1074).toNat = n * U := by omega
      rw [hv'] at hb
      have q1 : whl false m i ≤ n := Nat.le_of_mul_le_mul_right hb.1 hU
      have q2 : n < whl false m i + 1 := Nat.lt_of_mul_lt_mul_right hb.2
      have hq : whl false m i = n := by omega
      rw [hq, feq_G x n (by omega) _ _ _ hx, e, hv']; simp
    · have e : sv true m i = -((m * 2 ^ (i + 1074).toNat : Nat) : Int) := by unfold sv; simp
      rw [e, ← Int.natCast_mul] at hv
      have hv' : m * 2 ^ (i + 1074).toNat = 0 := by omega
      have hn0 : n * U = 0 := by omega
      rw [hv'] at hb
      have hq : whl true m i = 0 := by
        rcases Nat.eq_zero_or_pos (whl true m i) with h | h
        · exact h
        · have := Nat.mul_pos h hU; omega
      rw [hq, feq_G x 0 (by omega) _ _ _ hx, e, hv']; simp
  rw [a1, a2, a3]; rfl

theorem whole_no (x : Nat) (h : wholeB x = false) (n : Nat) (hn : n ≤ 2147483647) : feq (F n) x = false := by
  cases hf : feq (F n) x
  · rfl
  · have := whole_of x n hn ((feq_iff' x n (by omega)).1 hf)
    rw [this] at h; cases h

theorem F_whole (n : Nat) (hn : n ≤ 2147483647) : wholeB (F n) = true := whole_of _ n hn (IsN_F n (by omega))
end Go.Proofs.Ytpmgfkgomcpmdaa.Fl
