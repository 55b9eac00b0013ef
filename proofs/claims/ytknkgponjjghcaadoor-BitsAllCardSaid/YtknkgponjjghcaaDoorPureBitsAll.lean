/- A set is its numbers: made of them again it is itself; they rise; how many there are is counted. Conditions: the set is a uint64. -/
import Derived.Test.YtknkgponjjghcaaDoorBLaw
import Derived.Test.YtknkgponjjghcaaDoorBOf
import Derived.Test.YtknkgponjjghcaaDoorPx7
import Derived.OpenShut
set_option linter.unusedVariables false
set_option linter.unusedSimpArgs false
namespace Go.Proofs.YtknkgponjjghcaaDoor.Pure
open Go.RowKit Go.Proofs.YtknkgponjjghcaaDoor.P Go.Proofs.YtknkgponjjghcaaDoorW.PrintWords Go.Proofs.YtknkgponjjghcaaDoorW.PrintLast Go.Proofs.YtknkgponjjghcaaDoorW.PrintMore

theorem loop_all (a n : Nat) (v : Int) (ha : a < 18446744073709551616) (r : Option Bool) (K : Nat) (hend : ∀ k, K ≤ k → syntagmlaw01_BitsAll.l0 (k + 1) a v true (ints (bitsOf a)) ((bitsOf a).length : Nat) = some true) :
    ∀ d i, i + d = (bitsOf a).length → syntagmlaw01_BitsAll.l0 (K + 1 + d) a v true (ints (bitsOf a)) (i : Nat) = some true := by
  intro d
  induction d with
  | zero =>
    intro i hi
    rw [show i = (bitsOf a).length by omega]
    exact hend K (Nat.le_refl _)
  | succ d ih =>
    intro i hi
    have hl := bitsOf_length a
    have hlt : i < (bitsOf a).length := by omega
    have il : (ints (bitsOf a)).length = (bitsOf a).length := by simp [ints]
    obtain ⟨x, hx⟩ : ∃ x, (bitsOf a)[i]? = some x := ⟨_, List.getElem?_eq_getElem hlt⟩
    have hr : rd (ints (bitsOf a)) (i : Nat) = (x : Int) := by unfold rd ints; simp [List.getD, hx]
    have hm := (mem_bitsOf a x).1 (List.mem_of_getElem? hx)
    have hh : hasN a (x : Int) = true := by unfold hasN; rw [decide_eq_true (by omega), Int.toNat_natCast, hm.2]; rfl
    have hw : wrap64 ((i : Int) + 1) = ((i + 1 : Nat) : Int) := by unfold wrap64; omega
    rw [show K + 1 + (d + 1) = (K + 1 + d) + 1 by omega]
    simp only [syntagmlaw01_BitsAll.l0]
    rw [if_pos (by rw [il]; omega), if_pos (by omega), hr, has_eq a _ ha, Option.bind_some, hh, if_pos rfl]
    have go : (if (x : Int) < 0 then some false else if (x : Int) > 63 then some false else syntagmlaw01_BitsAll.l0 (K + 1 + d) a v true (ints (bitsOf a)) (wrap64 ((i : Int) + 1))) = some true := by
      rw [if_neg (by omega), if_neg (by omega), hw]
      exact ih (i + 1) (by omega)
    by_cases h0 : i = 0
    · rw [if_neg (by omega)]
      exact go
    · have hw1 : wrap64 ((i : Int) - 1) = ((i - 1 : Nat) : Int) := by unfold wrap64; omega
      obtain ⟨y, hy⟩ : ∃ y, (bitsOf a)[i - 1]? = some y := ⟨_, List.getElem?_eq_getElem (by omega)⟩
      have hry : rd (ints (bitsOf a)) ((i - 1 : Nat) : Int) = (y : Int) := by unfold rd ints; simp [List.getD, hy]
      have hyx : y < x := bitsOf_rise a hy hx (by omega)
      rw [if_pos (by omega), hw1, if_pos (by omega), if_pos (by rw [il]; omega), hry, if_neg (by omega)]
      exact go

theorem BitsAll (a0 a1 : Int) (w0 : (Lit.int .u64 a0).wf = true) (w1 : (Lit.int .i64 a1).wf = true) : ∃ k, syntagmlaw01_BitsAll.f k a0 a1 = some true := by
  obtain ⟨a, rfl, ha⟩ := u64_nat w0
  have hb := bitN_lt a1
  have il : (ints (bitsOf a)).length = (bitsOf a).length := by simp [ints]
  have hl := bitsOf_length a
  have last : ∀ k, 80 ≤ k → syntagmlaw01_BitsAll.j1 (k + 1) a a1 true (ints (bitsOf a)) (decide (0 ≤ a1 ∧ a1 < 64)) = some true := fun k hk => by
    simp only [syntagmlaw01_BitsAll.j1]
    rw [if_pos trivial, of_eq k (bitsOf a) (by omega) (fun x hx => ((mem_bitsOf a x).1 hx).1) (by omega), Option.bind_some, ofN_bits a ha, if_pos rfl, count_eq a ha, Option.bind_some, il, if_pos rfl,
      with_eq a a1 ha, Option.bind_some, has_eq _ a1 (or_lt _ _ ha hb), Option.bind_some]
    have e1 : hasN (a ||| bitN a1) a1 = decide (0 ≤ a1 ∧ a1 < 64) := by
      unfold hasN
      by_cases h : 0 ≤ a1 ∧ a1 < 64
      · rw [decide_eq_true h, Nat.testBit_or, bitN_test, decide_eq_true (show 0 ≤ a1 ∧ a1 < 64 ∧ a1.toNat = a1.toNat from ⟨h.1, h.2, rfl⟩)]; simp
      · rw [decide_eq_false h]; rfl
    rw [e1, if_pos (beq_self_eq_true _), without_eq a a1 ha, Option.bind_some, has_eq _ a1 (lessN_lt _ _ ha), Option.bind_some]
    have e2 : hasN (lessN a (bitN a1)) a1 = false := by
      unfold hasN
      by_cases h : 0 ≤ a1 ∧ a1 < 64
      · rw [decide_eq_true h, lessN_test _ _ _ ha hb, bitN_test, decide_eq_true (show 0 ≤ a1 ∧ a1 < 64 ∧ a1.toNat = a1.toNat from ⟨h.1, h.2, rfl⟩)]; simp
      · rw [decide_eq_false h]; rfl
    rw [e2]
    rfl
  refine ⟨81 + 1 + (bitsOf a).length, ?_⟩
  unfold syntagmlaw01_BitsAll.f
  rw [works_at _ (by omega), Option.bind_some, if_pos rfl, list_eq a ha, Option.bind_some]
  refine loop_all a 0 a1 ha none 81 (fun k hk => ?_) _ 0 (by omega)
  obtain ⟨k, rfl⟩ : ∃ m, k = m + 1 := ⟨k - 1, by omega⟩
  rw [syntagmlaw01_BitsAll.l0]
  rw [if_neg (by rw [il]; omega)]
  by_cases h0 : a1 ≥ 0
  · rw [if_pos h0]
    have := last k (by omega)
    by_cases h1 : a1 < 64
    · rw [decide_eq_true h1]; rwa [decide_eq_true ⟨h0, h1⟩] at this
    · rw [decide_eq_false h1]; rwa [decide_eq_false (fun h => h1 h.2)] at this
  · rw [if_neg h0]
    have := last k (by omega)
    rwa [decide_eq_false (fun h => h0 h.1)] at this

end Go.Proofs.YtknkgponjjghcaaDoor.Pure
