/- What any two sets come to, and what each has, is just what the document says. Conditions: the sets are uint64s. -/
import Derived.Test.YtknkgponjjghcaaDoorBRef
import Derived.Test.YtknkgponjjghcaaDoorBTellW
set_option linter.unusedVariables false
set_option linter.unusedSimpArgs false
namespace Go.Proofs.YtknkgponjjghcaaDoor.Pure
open Go.RowKit Go.Proofs.YtknkgponjjghcaaDoor.P Go.Proofs.YtknkgponjjghcaaDoorW.PrintWords Go.Proofs.YtknkgponjjghcaaDoorW.PrintLast Go.Proofs.YtknkgponjjghcaaDoorW.PrintMore

theorem ofZ_one (n : Int) : ofZ [n] = bitN n := by simp [ofZ]

theorem tell_end (a b : Nat) (n : Int) (ha : a < 18446744073709551616) (hb : b < 18446744073709551616) (k : Nat) (hk : 151000 ≤ k) : syntagmlaw01_BitsTell.j2 (k + 1) a b n true true true = some true := by
  have hn := bitN_lt n
  simp only [syntagmlaw01_BitsTell.j2]
  have e : ((lessN a b : Nat) : Int) == 0 ↔ decide (lessN a b = 0) = true := by simp
  rw [if_pos trivial, if_pos trivial, if_pos trivial, in_eq a b ha hb, Option.bind_some, ref_less a b ha hb k hk, Option.bind_some]
  rw [if_pos (by by_cases h : lessN a b = 0 <;> simp [h]), with_eq a n ha, Option.bind_some, ref_of [n] (by simp) k (by omega), Option.bind_some, ofZ_one, ref_union a _ ha hn k hk, Option.bind_some, if_pos rfl,
    without_eq a n ha, Option.bind_some, Option.bind_some, ref_less a _ ha hn k hk, Option.bind_some]
  simp

theorem tell_two (a b : Nat) (n : Int) (ha : a < 18446744073709551616) (hb : b < 18446744073709551616) (k : Nat) (hk : 151000 ≤ k) : syntagmlaw01_BitsTell.j1 (k + 2) a b n true true = some true := by
  rw [syntagmlaw01_BitsTell.j1]
  rw [union_eq a b ha hb, Option.bind_some, ref_union a b ha hb _ (by omega), Option.bind_some, if_pos rfl, meet_eq a b ha hb, Option.bind_some, ref_meet a b ha hb _ (by omega), Option.bind_some, if_pos rfl,
    less_eq a b ha hb, Option.bind_some, ref_less a b ha hb _ (by omega), Option.bind_some]
  rw [show (((lessN a b : Nat) : Int) == ((lessN a b : Nat) : Int)) = true from beq_self_eq_true _]
  exact tell_end a b n ha hb k hk

theorem tell_one (a b : Nat) (l : List Int) (n : Int) (ha : a < 18446744073709551616) (hb : b < 18446744073709551616) (hl : l.length ≤ 1000) (f : Int) (hf : bits_First.f (a : Int) = some f) (k : Nat) (hk : 151000 ≤ k) :
    syntagmlaw01_BitsTell.j0 (k + 3) a b l n true (ints (bitsOf a)) f = some true := by
  have hbl := bitsOf_length a
  rw [syntagmlaw01_BitsTell.j0]
  rw [ofZ_eq _ l (by omega) (by omega), Option.bind_some, ref_of l (by omega) _ (by omega), Option.bind_some, if_pos rfl, list_eq a ha, Option.bind_some, ref_row _ _ (by rw [ints_len]; omega) _ (by omega) rfl, Option.bind_some, if_pos rfl,
    has_eq a n ha, Option.bind_some, ref_has a n ha _ (by omega), Option.bind_some, if_pos (beq_self_eq_true _), count_eq a ha, Option.bind_some, ints_len, if_pos rfl, hf, Option.bind_some]
  rw [show (f == f) = true from beq_self_eq_true _]
  exact tell_two a b n ha hb k hk

theorem BitsTell (a0 a1 : Int) (l2 : List Int) (a3 : Int) (w0 : (Lit.int .u64 a0).wf = true) (w1 : (Lit.int .u64 a1).wf = true) (w2 : l2.length ≤ 9223372036854775807 ∧ ∀ x ∈ l2, (Lit.int .i64 x).wf = true) (w3 : (Lit.int .i64 a3).wf = true) :
    ∃ k, syntagmlaw01_BitsTell.f k a0 a1 l2 a3 = some true := by
  obtain ⟨a, rfl, ha⟩ := u64_nat w0
  obtain ⟨b, rfl, hb⟩ := u64_nat w1
  obtain ⟨k, hk⟩ : ∃ k, k = 151000 := ⟨_, rfl⟩
  refine ⟨k + 3, ?_⟩
  unfold syntagmlaw01_BitsTell.f
  rw [works_at _ (by omega), Option.bind_some, if_pos rfl]
  by_cases hl : (l2.length : Int) > 1000
  · rw [if_pos hl]
  · rw [if_neg hl, ref_list a ha _ (by omega), Option.bind_some]
    have hf := first_eq a ha
    by_cases h0 : a = 0
    · subst h0
      rw [if_pos rfl] at hf
      rw [if_neg (by rw [bitsOf_zero]; simp [ints])]
      exact tell_one 0 b l2 a3 ha hb (by omega) _ hf k (by omega)
    · rw [if_neg h0] at hf
      have hs := bitsOf_step a h0 ha
      have hne : 0 < (ints (bitsOf a)).length := by rw [ints_len, hs]; simp
      have hr : rd (ints (bitsOf a)) 0 = ((Lib.ctz 64 a : Nat) : Int) := by rw [hs]; simp [rd, ints]
      rw [if_pos (by omega), if_pos (by omega), hr]
      exact tell_one a b l2 a3 ha hb (by omega) _ hf k (by omega)

end Go.Proofs.YtknkgponjjghcaaDoor.Pure
