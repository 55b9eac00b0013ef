/- Whole numbers below 2^53 as float64: they are had exactly; sums, comparisons, cutting to whole numbers. No program. No conditions. -/
import Derived.Laws.FloatArith
import Derived.Laws.ComplexArith
namespace Go.Proofs.Ytpmgfkgomcpmdaa.Fl
open Ieee

def F (n : Nat) : Nat := double.nearest false n 0
def G (s : Bool) (n : Nat) : Nat := double.nearest s n 0

theorem G_false (n : Nat) : G false n = F n := rfl
theorem least : double.leastPlace = -1074 := by decide
theorem binade_eq : double.binade = 2 ^ 52 := rfl
theorem inf_eq : double.infRung = 2047 * 2 ^ 52 := rfl
theorem sw_eq : double.signWeight = 2 ^ 63 := rfl

theorem log2_le (n : Nat) (h0 : n ≠ 0) (h : n < 2 ^ 53) : n.log2 ≤ 52 := by
  have := (Nat.log2_lt h0).2 h
  omega
theorem log2_scale (n k : Nat) (h0 : n ≠ 0) : (n * 2 ^ k).log2 = n.log2 + k := by
  have hp : 0 < 2 ^ k := Nat.two_pow_pos k
  have h1 : n * 2 ^ k ≠ 0 := Nat.mul_ne_zero h0 (by omega)
  refine (Nat.log2_eq_iff h1).2 ⟨?_, ?_⟩
  · rw [Nat.pow_add]; exact Nat.mul_le_mul_right _ ((Nat.log2_eq_iff h0).1 rfl).1
  · rw [show n.log2 + k + 1 = (n.log2 + 1) + k by omega, Nat.pow_add]
    exact Nat.mul_lt_mul_of_pos_right ((Nat.log2_eq_iff h0).1 rfl).2 hp

theorem psp {a b c : Nat} (h : a + b = c) : 2 ^ a * 2 ^ b = 2 ^ c := by rw [← Nat.pow_add, h]
theorem psp' {a b c d : Nat} (h : a + b = c + d) : 2 ^ a * 2 ^ b = 2 ^ c * 2 ^ d := by rw [← Nat.pow_add, ← Nat.pow_add, h]
def E : Nat := 1074
theorem E_eq : E = 1074 := rfl
def U : Nat := 2 ^ E
theorem pow_U {a : Nat} (h : a = 1074) : 2 ^ a = U := by rw [h, ← E_eq, U]
theorem U_pos : 0 < U := Nat.two_pow_pos E
/-- The rung of n. -/
def rung (n : Nat) : Nat := (n.log2 + 1022) * 2 ^ 52 + n * 2 ^ (52 - n.log2)

theorem kept_bd (n : Nat) (h0 : n ≠ 0) (h : n < 2 ^ 53) : 2 ^ 52 ≤ n * 2 ^ (52 - n.log2) ∧ n * 2 ^ (52 - n.log2) < 2 ^ 53 := by
  have hl := log2_le n h0 h
  have hb := (Nat.log2_eq_iff h0).1 rfl
  have hp : 0 < 2 ^ (52 - n.log2) := Nat.two_pow_pos _
  constructor
  · have : 2 ^ 52 = 2 ^ n.log2 * 2 ^ (52 - n.log2) := by rw [← Nat.pow_add]; congr 1; omega
    rw [this]; exact Nat.mul_le_mul_right _ hb.1
  · have : 2 ^ 53 = 2 ^ (n.log2 + 1) * 2 ^ (52 - n.log2) := by rw [← Nat.pow_add]; congr 1; omega
    rw [this]; exact Nat.mul_lt_mul_of_pos_right hb.2 hp

theorem rung_bd (n : Nat) (h0 : n ≠ 0) (h : n < 2 ^ 53) : 2 ^ 52 ≤ rung n ∧ rung n < 2047 * 2 ^ 52 := by
  have hl := log2_le n h0 h
  have hb := kept_bd n h0 h
  unfold rung
  constructor
  · omega
  · have : (n.log2 + 1022) * 2 ^ 52 ≤ 1074 * 2 ^ 52 := Nat.mul_le_mul_right _ (by omega)
    omega

theorem cut_none (s : Bool) (m : Nat) : Toward.even.cut s m 0 = m := by
  unfold Toward.cut
  rw [Nat.zero_min]
  simp [Nat.mod_one]

theorem nearest_scaled (s : Bool) (n k : Nat) (h0 : n ≠ 0) (h : n < 2 ^ 53) : double.nearest s (n * 2 ^ k) (-(k : Int)) = double.word s (rung n) := by
  have hl := log2_le n h0 h
  have hp : 0 < 2 ^ k := Nat.two_pow_pos k
  have h1 : n * 2 ^ k ≠ 0 := Nat.mul_ne_zero h0 (by omega)
  have hb := kept_bd n h0 h
  have hr := rung_bd n h0 h
  unfold Format.nearest
  rw [if_neg h1]
  dsimp only
  rw [log2_scale n k h0, least, show double.fractionBits = 52 from rfl]
  have hlast : max (-(k : Int) + ((n.log2 + k : Nat) : Int) - (52 : Nat)) (-1074) = (n.log2 : Int) - 52 := by omega
  rw [hlast]
  have hk : Toward.even.cut s ((n * 2 ^ k) <<< (-(k : Int) - ((n.log2 : Int) - 52)).toNat) ((n.log2 : Int) - 52 - -(k : Int)).toNat = n * 2 ^ (52 - n.log2) := by
    by_cases hc : k ≤ 52 - n.log2
    · rw [show ((n.log2 : Int) - 52 - -(k : Int)).toNat = 0 by omega, cut_none, show (-(k : Int) - ((n.log2 : Int) - 52)).toNat = 52 - n.log2 - k by omega, Nat.shiftLeft_eq, Nat.mul_assoc, psp (c := 52 - n.log2) (by omega)]
    · rw [show (-(k : Int) - ((n.log2 : Int) - 52)).toNat = 0 by omega, Nat.shiftLeft_zero]
      have hd : ((n.log2 : Int) - 52 - -(k : Int)).toNat = k - (52 - n.log2) := by omega
      rw [hd]
      unfold Toward.cut
      rw [log2_scale n k h0, show min (k - (52 - n.log2)) (n.log2 + k + 2) = k - (52 - n.log2) by omega, Nat.shiftLeft_eq, Nat.one_mul]
      have hd2 : n * 2 ^ k = (n * 2 ^ (52 - n.log2)) * 2 ^ (k - (52 - n.log2)) := by rw [Nat.mul_assoc, psp (c := k) (by omega)]
      have hpos : 0 < 2 ^ (k - (52 - n.log2)) := Nat.two_pow_pos _
      dsimp only
      rw [hd2, Nat.mul_div_cancel _ hpos, Nat.mul_mod_left]
      have e1 : decide (2 ^ (k - (52 - n.log2)) < 2 * 0) = false := decide_eq_false (by omega)
      have e2 : (2 ^ (k - (52 - n.log2)) == 2 * 0) = false := beq_eq_false_iff_ne.2 (by omega)
      simp only [e1, e2, Bool.false_and, Bool.or_false, Bool.toNat_false, Nat.add_zero]
  rw [hk, show ((n.log2 : Int) - 52 - -1074).toNat = n.log2 + 1022 by omega, binade_eq, inf_eq]
  congr 1
  unfold rung at hr ⊢
  omega

theorem G_pos (s : Bool) (n : Nat) (h0 : n ≠ 0) (h : n < 2 ^ 53) : G s n = double.word s (rung n) := by
  have := nearest_scaled s n 0 h0 h
  rw [Nat.pow_zero, Nat.mul_one] at this
  exact this
theorem G_zero (s : Bool) : G s 0 = double.word s 0 := rfl

theorem nearest_G (s : Bool) (n k : Nat) (h : n < 2 ^ 53) : double.nearest s (n * 2 ^ k) (-(k : Int)) = G s n := by
  by_cases h0 : n = 0
  · subst h0; rw [Nat.zero_mul]; unfold G Format.nearest; rw [if_pos rfl, if_pos rfl]
  · rw [nearest_scaled s n k h0 h, G_pos s n h0 h]

theorem read_word (s : Bool) (r : Nat) (h : r < 2 ^ 63) : double.read (double.word s r) =
    (if r < 2 ^ 52 then .number s r (-1074) else if r < 2047 * 2 ^ 52 then .number s (2 ^ 52 + r % 2 ^ 52) (-1074 + (r / 2 ^ 52 - 1 : Nat)) else if r = 2047 * 2 ^ 52 then .infinity s else .nan s (r - 2047 * 2 ^ 52)) := by
  unfold Format.read Format.word
  rw [sw_eq, binade_eq, inf_eq, least]
  cases s
  · have h1 : r / 2 ^ 63 = 0 := Nat.div_eq_of_lt h
    simp only [Bool.false_eq_true, if_false, h1, Nat.mod_eq_of_lt h]
    rfl
  · have h1 : (2 ^ 63 + r) / 2 ^ 63 = 1 := by omega
    have h2 : (2 ^ 63 + r) % 2 ^ 63 = r := by omega
    simp only [if_true, h1, h2]
    rfl

theorem read_G (s : Bool) (n : Nat) (h : n < 2 ^ 53) : ∃ m i, double.read (G s n) = .number s m i ∧ -1074 ≤ i ∧ m * 2 ^ (i + 1074).toNat = n * U := by
  by_cases h0 : n = 0
  · subst h0
    exact ⟨0, -1074, by rw [G_zero, read_word s 0 (by omega), if_pos (by omega)], by omega, by rw [Nat.zero_mul, Nat.zero_mul]⟩
  · have hb := kept_bd n h0 h
    have hr := rung_bd n h0 h
    have hl := log2_le n h0 h
    refine ⟨n * 2 ^ (52 - n.log2), (n.log2 : Int) - 52, ?_, by omega, ?_⟩
    · rw [G_pos s n h0 h, read_word s _ (by omega), if_neg (by omega), if_pos hr.2]
      have e1 : rung n % 2 ^ 52 = n * 2 ^ (52 - n.log2) - 2 ^ 52 := by unfold rung; omega
      have e2 : rung n / 2 ^ 52 = n.log2 + 1023 := by unfold rung; omega
      have e3 : 2 ^ 52 + (n * 2 ^ (52 - n.log2) - 2 ^ 52) = n * 2 ^ (52 - n.log2) := by omega
      have e4 : (-1074 : Int) + ((n.log2 + 1023 - 1 : Nat) : Int) = (n.log2 : Int) - 52 := by omega
      rw [e1, e2, e3, e4]
    · rw [Nat.mul_assoc, psp (c := E) (by rw [E_eq]; omega), U]

/-- What a number with a sign comes to, in units of the least place. -/
def sv (s : Bool) (m : Nat) (i : Int) : Int := if s then -((m * 2 ^ (i + 1074).toNat : Nat) : Int) else ((m * 2 ^ (i + 1074).toNat : Nat) : Int)

theorem cmp_scale (a b : Int) (c : Int) (h : 0 < c) : compare (a * c) (b * c) = compare a b := by
  show compareOfLessAndEq _ _ = compareOfLessAndEq _ _
  unfold compareOfLessAndEq
  rcases Int.lt_trichotomy a b with hl | he | hg
  · rw [if_pos hl, if_pos (Int.mul_lt_mul_of_pos_right hl h)]
  · subst he; simp
  · have hg' := Int.mul_lt_mul_of_pos_right hg h
    rw [if_neg (by omega), if_neg (by omega), if_neg (by omega), if_neg (by omega)]

theorem signed_scale (s : Bool) (m : Nat) (i b : Int) (hb : -1074 ≤ b) (hi : b ≤ i) : signed s m (i - b).toNat * ((2 ^ (b + 1074).toNat : Nat) : Int) = sv s m i := by
  have e : m <<< (i - b).toNat * 2 ^ (b + 1074).toNat = m * 2 ^ (i + 1074).toNat := by
    rw [Nat.shiftLeft_eq, Nat.mul_assoc, psp (c := (i + 1074).toNat) (by omega)]
  unfold signed sv
  cases s
  · simp only [Bool.false_eq_true, if_false]; rw [← e]; push_cast; rfl
  · simp only [if_true]; rw [← e]; push_cast; rw [Int.neg_mul]

theorem order_num (s t : Bool) (m n : Nat) (i j : Int) (hi : -1074 ≤ i) (hj : -1074 ≤ j) : Datum.order (.number s m i) (.number t n j) = some (compare (sv s m i) (sv t n j)) := by
  unfold Datum.order
  dsimp only
  congr 1
  rw [← signed_scale s m i (min i j) (by omega) (by omega), ← signed_scale t n j (min i j) (by omega) (by omega)]
  exact (cmp_scale _ _ _ (by have := Nat.two_pow_pos ((min i j) + 1074).toNat; omega)).symm

def feq (a b : Nat) : Bool := double.order a b == some .eq

theorem cmp_eq (a b : Int) : (compare a b = .eq) ↔ a = b := by
  show (compareOfLessAndEq _ _ = _) ↔ _
  unfold compareOfLessAndEq
  rcases Int.lt_trichotomy a b with hl | he | hg
  · rw [if_pos hl]; simp; omega
  · subst he; simp
  · rw [if_neg (by omega), if_neg (by omega)]; simp; omega
theorem cmp_lt (a b : Int) : (compare a b = .lt) ↔ a < b := by
  show (compareOfLessAndEq _ _ = _) ↔ _
  unfold compareOfLessAndEq
  rcases Int.lt_trichotomy a b with hl | he | hg
  · rw [if_pos hl]; simp [hl]
  · subst he; simp
  · rw [if_neg (by omega), if_neg (by omega)]; simp; omega
theorem cmp_gt (a b : Int) : (compare a b = .gt) ↔ b < a := by
  show (compareOfLessAndEq _ _ = _) ↔ _
  unfold compareOfLessAndEq
  rcases Int.lt_trichotomy a b with hl | he | hg
  · rw [if_pos hl]; simp; omega
  · subst he; simp
  · rw [if_neg (by omega), if_neg (by omega)]; simp [hg]

theorem order_G (s t : Bool) (a b : Nat) (ha : a < 2 ^ 53) (hb : b < 2 ^ 53) : double.order (G s a) (G t b) = some (compare (if s then -((a * U : Nat) : Int) else ((a * U : Nat) : Int)) (if t then -((b * U : Nat) : Int) else ((b * U : Nat) : Int))) := by
  obtain ⟨m, i, h1, h2, h3⟩ := read_G s a ha
  obtain ⟨n, j, h4, h5, h6⟩ := read_G t b hb
  unfold Format.order
  rw [h1, h4, order_num _ _ _ _ _ _ h2 h5]
  unfold sv
  rw [h3, h6]

theorem feq_F (a b : Nat) (ha : a < 2 ^ 53) (hb : b < 2 ^ 53) : feq (F a) (F b) = decide (a = b) := by
  unfold feq
  rw [← G_false, ← G_false, order_G _ _ a b ha hb]
  simp only [Bool.false_eq_true, if_false]
  have hp : (0 : Int) < (U : Int) := by have := U_pos; omega
  rw [Int.natCast_mul, Int.natCast_mul, cmp_scale _ _ _ hp]
  by_cases h : a = b
  · subst h; simp
  · have : ¬ compare (a : Int) b = .eq := fun e => h (by have := (cmp_eq _ _).1 e; omega)
    simp [h, this]

theorem sum_F (a b : Nat) (h : a + b < 2 ^ 53) : double.add (F a) (F b) = some (F (a + b)) := by
  obtain ⟨m, i, h1, h2, h3⟩ := read_G false a (by omega)
  obtain ⟨n, j, h4, h5, h6⟩ := read_G false b (by omega)
  unfold Format.add
  rw [← G_false, ← G_false, h1, h4]
  unfold Datum.sum
  dsimp only [Option.map_some]
  have hs : signed false m (i - min i j).toNat + signed false n (j - min i j).toNat = (((m <<< (i - min i j).toNat) + (n <<< (j - min i j).toNat) : Nat) : Int) := by
    unfold signed; simp
  rw [hs]
  have hneg : (if (((m <<< (i - min i j).toNat) + (n <<< (j - min i j).toNat) : Nat) : Int) = 0 then (false && false) else decide ((((m <<< (i - min i j).toNat) + (n <<< (j - min i j).toNat) : Nat) : Int) < 0)) = false := by
    split
    · rfl
    · exact decide_eq_false (Int.not_lt.2 (Int.natCast_nonneg _))
  rw [Int.natAbs_natCast]
  have key : (m <<< (i - min i j).toNat + n <<< (j - min i j).toNat) * 2 ^ (min i j + 1074).toNat = (a + b) * U := by
    rw [Nat.add_mul, Nat.add_mul, ← h3, ← h6, Nat.shiftLeft_eq, Nat.shiftLeft_eq, Nat.mul_assoc, Nat.mul_assoc, psp (c := (i + 1074).toNat) (by omega), psp (c := (j + 1074).toNat) (by omega)]
  have hfin : ∀ (t : Nat) (p : Int), -1074 ≤ p → t * 2 ^ (p + 1074).toNat = (a + b) * U → double.write (.number false t p) = F (a + b) := by
    intro t p hp hk
    show double.nearest false t p = F (a + b)
    by_cases hp0 : p ≤ 0
    · have e1 : t = (a + b) * 2 ^ (-p).toNat := by
        have e2 : (a + b) * U = (a + b) * 2 ^ (-p).toNat * 2 ^ (p + 1074).toNat := by
          rw [Nat.mul_assoc, psp (c := E) (by rw [E_eq]; omega), U]
        rw [e2] at hk
        exact Nat.eq_of_mul_eq_mul_right (Nat.two_pow_pos _) hk
      rw [e1]
      have := nearest_G false (a + b) (-p).toNat h
      rw [show (-((-p).toNat : Int)) = p by omega] at this
      exact this
    · obtain ⟨q, rfl⟩ : ∃ q : Nat, p = (q : Int) := ⟨p.toNat, by omega⟩
      have e1 : a + b = t * 2 ^ q := by
        have e2 : t * 2 ^ ((q : Int) + 1074).toNat = t * 2 ^ q * U := by rw [U, Nat.mul_assoc, psp (c := ((q : Int) + 1074).toNat) (by rw [E_eq]; omega)]
        rw [e2] at hk
        exact (Nat.eq_of_mul_eq_mul_right U_pos hk).symm
      by_cases ht : t = 0
      · subst ht
        rw [e1]; simp [F, Format.nearest]
      · have hl : (t * 2 ^ q).log2 = t.log2 + q := log2_scale t q ht
        have hab : a + b ≠ 0 := by rw [e1]; exact Nat.mul_ne_zero ht (by have := Nat.two_pow_pos q; omega)
        have h52 := log2_le (a + b) hab h
        unfold F Format.nearest
        rw [if_neg ht, if_neg hab]
        dsimp only
        rw [e1, hl, least]
        have hm : (q : Int) + (t.log2 : Nat) = (0 : Int) + ((t.log2 + q : Nat) : Int) := by omega
        rw [hm]
        rw [e1, hl] at h52
        have hmx : max ((0 : Int) + ((t.log2 + q : Nat) : Int) - (double.fractionBits : Nat)) (-1074) = ((t.log2 + q : Nat) : Int) - 52 := by
          have : double.fractionBits = 52 := rfl
          rw [this]; omega
        rw [hmx]
        have d1 : (((t.log2 + q : Nat) : Int) - 52 - (q : Int)).toNat = 0 := by omega
        have d2 : (((t.log2 + q : Nat) : Int) - 52 - 0).toNat = 0 := by omega
        rw [d1, d2, cut_none, cut_none, Nat.shiftLeft_eq, Nat.shiftLeft_eq]
        have d3 : t * 2 ^ ((q : Int) - (((t.log2 + q : Nat) : Int) - 52)).toNat = t * 2 ^ q * 2 ^ ((0 : Int) - (((t.log2 + q : Nat) : Int) - 52)).toNat := by
          rw [Nat.mul_assoc, psp (c := ((q : Int) - (((t.log2 + q : Nat) : Int) - 52)).toNat) (by omega)]
        rw [d3]
  have hfin2 := hfin _ (min i j) (by omega) key
  rw [hneg, hfin2]

end Go.Proofs.Ytpmgfkgomcpmdaa.Fl
