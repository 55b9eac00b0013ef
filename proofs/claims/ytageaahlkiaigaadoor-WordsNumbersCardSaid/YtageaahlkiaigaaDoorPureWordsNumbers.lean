/- A number is its digits' value. Conditions: the statement's own. -/
import Derived.Test.YtageaahlkiaigaaDoorWdL
import Derived.Test.YtageaahlkiaigaaDoorPx12
set_option linter.unusedVariables false
set_option linter.unusedSimpArgs false
namespace Go.Proofs.YtageaahlkiaigaaDoor.Pure
open Go Go.RowKit Go.Proofs.YtageaahlkiaigaaDoor.P Go.Proofs.YtageaahlkiaigaaDoorW.PrintWords Wd

/-- Digits ahead. -/
def digs : Nat → Nat → Bytes → Bytes
  | 0, _, l => l
  | k + 1, n, l => if 0 < n ∨ l = [] then digs k (n / 10) ((48 + n % 10).toUInt8 :: l) else l
theorem digit_is (n : Nat) : ((48 + n % 10).toUInt8).toNat = 48 + n % 10 := by
  have : 48 + n % 10 < 256 := by omega
  rw [Nat.toUInt8, UInt8.toNat_ofNat', Nat.mod_eq_of_lt this]
theorem digit_ok (n : Nat) : digitB ((48 + n % 10).toUInt8) = true := by
  unfold digitB
  rw [Bool.and_eq_true, decide_eq_true_iff, decide_eq_true_iff, UInt8.le_iff_toNat_le, UInt8.le_iff_toNat_le, digit_is]
  exact ⟨by show 48 ≤ _; omega, by show _ ≤ 57; omega⟩
theorem val_from (l : Bytes) : ∀ a : Nat, l.foldl (fun n (c : UInt8) => n * 10 + (c.toNat - 48)) a = a * 10 ^ l.length + valL l := by
  induction l with
  | nil => intro a; simp [valL]
  | cons c l ih =>
    intro a
    have h2 : valL (c :: l) = (c.toNat - 48) * 10 ^ l.length + valL l := by
      show (c :: l).foldl _ 0 = _
      rw [List.foldl_cons, ih]; simp
    rw [List.foldl_cons, ih, h2, List.length_cons, Nat.pow_succ, Nat.add_mul, Nat.mul_assoc, Nat.mul_comm 10, Nat.add_assoc]
theorem val_cons (c : UInt8) (l : Bytes) : valL (c :: l) = (c.toNat - 48) * 10 ^ l.length + valL l := by
  unfold valL
  rw [List.foldl_cons, val_from]; simp [valL]

/-- What the loop makes of n: digits of value n. -/
theorem digs_is (k : Nat) : ∀ (n : Nat) (l : Bytes), n < 10 ^ k → l.length + k ≤ 8 → (∀ x ∈ l, digitB x = true) →
    valL (digs (k + 1) n l) = n * 10 ^ l.length + valL l ∧ (digs (k + 1) n l).length ≤ max (l.length + k) 1 ∧ (∀ x ∈ digs (k + 1) n l, digitB x = true) ∧ digs (k + 1) n l ≠ [] ∧ digs (k + 1) n l = digs (k + 2) n l := by
  induction k with
  | zero =>
    intro n l hn hk hl
    obtain rfl : n = 0 := by simpa using hn
    cases l with
    | nil => exact ⟨rfl, by decide, by decide, by decide, rfl⟩
    | cons c l =>
      have e : ∀ m, digs (m + 1) 0 (c :: l) = c :: l := fun m => by rw [digs, if_neg (by simp)]
      rw [e, e]
      exact ⟨by simp, by omega, hl, by simp, rfl⟩
  | succ k ih =>
    intro n l hn hk hl
    by_cases h : 0 < n ∨ l = []
    · have e : ∀ m, digs (m + 1) n l = digs m (n / 10) ((48 + n % 10).toUInt8 :: l) := fun m => by rw [digs, if_pos h]
      rw [e, e]
      have hn2 : n / 10 < 10 ^ k := by rw [Nat.pow_succ] at hn; omega
      obtain ⟨h1, h2, h3, h4, h5⟩ := ih (n / 10) ((48 + n % 10).toUInt8 :: l) hn2 (by rw [List.length_cons]; omega) (fun x hx => by
        rcases List.mem_cons.1 hx with rfl | hx
        · exact digit_ok n
        · exact hl x hx)
      rw [List.length_cons] at h1 h2
      refine ⟨?_, by omega, h3, h4, h5⟩
      rw [h1, val_cons, digit_is, Nat.pow_succ, show 48 + n % 10 - 48 = n % 10 by omega, ← Nat.add_assoc]
      congr 1
      have := Nat.div_add_mod n 10
      calc n / 10 * (10 ^ l.length * 10) + n % 10 * 10 ^ l.length = (10 * (n / 10) + n % 10) * 10 ^ l.length := by
            rw [Nat.add_mul]; congr 1; rw [Nat.mul_comm (10 ^ l.length) 10, ← Nat.mul_assoc, Nat.mul_comm (n / 10) 10]
        _ = n * 10 ^ l.length := by rw [this]
    · have e : ∀ m, digs (m + 1) n l = l := fun m => by rw [digs, if_neg h]
      rw [e, e]
      obtain ⟨h1, h2⟩ := not_or.1 h
      obtain rfl : n = 0 := by omega
      exact ⟨by simp, by omega, hl, h2, rfl⟩

theorem num_one (n : Nat) : strOfNums [((48 + Int.tmod (n : Int) 10) % 4294967296) % 256] = mkB [(48 + n % 10).toUInt8] := by
  have : ((48 + Int.tmod (n : Int) 10) % 4294967296) % 256 = ((48 + n % 10 : Nat) : Int) := by
    rw [Int.tmod_eq_emod_of_nonneg (by omega)]; omega
  rw [this]
  rfl
theorem mkB_app (a b : Bytes) : mkB a ++ mkB b = mkB (a ++ b) := by
  apply ByteArray.ext
  rw [ByteArray.data_append]
  show a.toArray ++ b.toArray = (a ++ b).toArray
  simp

theorem num_fin (N : Nat) (f : Nat) (t : Bytes) (hN : N < 10000000) (h1 : valL t = N) (h2 : ∀ x ∈ t, digitB x = true) (h3 : t ≠ []) (h4 : t.length ≤ 7) :
    syntagmlaw08_WordsNumbers.l0 (f + 1) (N : Int) true (mkB t) 0 = some true := by
  have e1 : wordsS (mkB t) = ([⟨1, mkB t, (N : Int), 0⟩, ⟨4, ⟨#[]⟩, 0, ((t.length : Nat) : Int)⟩], 0, 0) := by
    unfold wordsS
    rw [words_short_is _ (by rw [mkB_size]; omega), mkB_data, rd_num t h3 (by omega) h2 _ (by rw [mkB_size]; omega), h1]
    rfl
  have e2 : wordsS (mkB (48 :: t)) = ([⟨1, mkB (48 :: t), (N : Int), 0⟩, ⟨4, ⟨#[]⟩, 0, (((48 :: t).length : Nat) : Int)⟩], 0, 0) := by
    unfold wordsS
    rw [words_short_is _ (by rw [mkB_size]; simp; omega), mkB_data, rd_num (48 :: t) (by simp) (by simp; omega) (fun x hx => by
      rcases List.mem_cons.1 hx with rfl | hx
      · rfl
      · exact h2 x hx) _ (by rw [mkB_size]; omega), val_cons, h1]
    simp only [show (48 : UInt8).toNat - 48 = 0 from rfl, Nat.zero_mul, Nat.zero_add]
    rfl
  rw [syntagmlaw08_WordsNumbers.l0]
  rw [if_neg (by decide), mkB_list, if_neg h3, words_f _ (by rw [mkB_size]; omega), Option.bind_some, mkB_size]
  rw [if_pos (by omega), show (⟨#[48]⟩ : ByteArray) ++ mkB t = mkB (48 :: t) from mkB_app [48] t, words_f _ (by rw [mkB_size]; simp; omega), Option.bind_some, e1, e2]
  have hw : wrap64 (N : Int) = (N : Int) := w64 (by omega) (by omega)
  dsimp only
  rw [hw]
  iterate 10 refine (if_pos (by first | rfl | (simp; done))).trans ?_
  show some ((mkB t).toList == t) = some true
  rw [mkB_list]
  simp

theorem num_step (N n : Nat) (l : Bytes) (f : Nat) (hn : n < 4294967296) (h : 0 < n ∨ l = []) (hl : l.length ≤ 8) : syntagmlaw08_WordsNumbers.l0 (f + 1) (N : Int) true (mkB l) (n : Int) = syntagmlaw08_WordsNumbers.l0 f (N : Int) true (mkB ((48 + n % 10).toUInt8 :: l)) ((n / 10 : Nat) : Int) := by
  have e : (Int.tdiv (n : Int) 10) % 4294967296 = ((n / 10 : Nat) : Int) := by
    rw [Int.tdiv_eq_ediv_of_nonneg (by omega)]; omega
  have e2 : strOfNums [((48 + Int.tmod (n : Int) 10) % 4294967296) % 256] ++ mkB l = mkB ((48 + n % 10).toUInt8 :: l) := by
    rw [num_one, mkB_app]; rfl
  have e3 : (strOfNums [((48 + Int.tmod (n : Int) 10) % 4294967296) % 256]).size = 1 := by rw [num_one, mkB_size]; rfl
  rw [syntagmlaw08_WordsNumbers.l0]
  by_cases hp : (n : Int) > 0
  · rw [if_pos hp]
    simp only [Option.bind_some]
    rw [e3, mkB_size, if_pos (by omega), e, e2]
  · rw [if_neg hp, mkB_list, if_pos (h.resolve_left (by omega))]
    simp only [Option.bind_some]
    rw [e3, mkB_size, if_pos (by omega), e, e2]

theorem num_loop (N : Nat) (hN : N < 10000000) (k : Nat) : ∀ (n : Nat) (l : Bytes) (f : Nat), n < 10 ^ k → n < 4294967296 → l.length + k ≤ 8 → k + 2 ≤ f → valL (digs (k + 1) n l) = N → (∀ x ∈ digs (k + 1) n l, digitB x = true) → digs (k + 1) n l ≠ [] → (digs (k + 1) n l).length ≤ 7 →
    syntagmlaw08_WordsNumbers.l0 f (N : Int) true (mkB l) (n : Int) = some true := by
  induction k with
  | zero =>
    intro n l f hn _ hl hf h1 h2 h3 h4
    obtain rfl : n = 0 := by simpa using hn
    obtain ⟨f, rfl⟩ : ∃ g, f = g + 2 := ⟨f - 2, by omega⟩
    cases l with
    | nil =>
      rw [num_step N 0 [] (f + 1) (by decide) (.inr rfl) (by simp)]
      exact num_fin N f _ hN h1 h2 h3 h4
    | cons c l =>
      rw [digs, if_neg (by simp)] at h1 h2 h3 h4
      exact num_fin N (f + 1) _ hN h1 h2 h3 h4
  | succ k ih =>
    intro n l f hn hn2 hl hf h1 h2 h3 h4
    obtain ⟨f, rfl⟩ : ∃ g, f = g + 1 := ⟨f - 1, by omega⟩
    by_cases h : 0 < n ∨ l = []
    · rw [digs, if_pos h] at h1 h2 h3 h4
      rw [num_step N n l f hn2 h (by omega)]
      exact ih (n / 10) _ f (by rw [Nat.pow_succ] at hn; omega) (by omega) (by rw [List.length_cons]; omega) (by omega) h1 h2 h3 h4
    · rw [digs, if_neg h] at h1 h2 h3 h4
      obtain ⟨q1, q2⟩ := not_or.1 h
      obtain rfl : n = 0 := by omega
      exact num_fin N f _ hN h1 h2 h3 h4

theorem WordsNumbers (a0 : Int) (w0 : (Lit.int .u32 a0).wf = true) : ∃ k, syntagmlaw08_WordsNumbers.f k a0 = some true := by
  have hw : 0 ≤ a0 ∧ a0 < 4294967296 := by
    have h : IntKind.u32.min ≤ a0 ∧ a0 ≤ IntKind.u32.max := by simpa [Lit.wf] using w0
    have e1 : IntKind.u32.min = 0 := by decide
    have e2 : IntKind.u32.max = 4294967295 := by decide
    omega
  obtain ⟨n, rfl⟩ : ∃ n : Nat, a0 = n := ⟨a0.toNat, by omega⟩
  refine ⟨9, ?_⟩
  unfold syntagmlaw08_WordsNumbers.f
  rw [works_is, Option.bind_some, if_pos rfl]
  have e : Int.tmod (n : Int) 10000000 = ((n % 10000000 : Nat) : Int) := by rw [Int.tmod_eq_emod_of_nonneg (by omega)]; omega
  rw [e]
  have hN : n % 10000000 < 10000000 := Nat.mod_lt _ (by decide)
  obtain ⟨h1, h2, h3, h4, _⟩ := digs_is 7 (n % 10000000) [] hN (by simp) (by simp)
  exact num_loop _ hN 7 _ [] 9 hN (by omega) (by simp) (by omega) (by rw [h1]; simp [valL]) h3 h4 h2
end Go.Proofs.YtageaahlkiaigaaDoor.Pure
