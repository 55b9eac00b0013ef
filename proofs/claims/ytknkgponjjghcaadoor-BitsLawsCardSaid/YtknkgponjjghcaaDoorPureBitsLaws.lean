/- The laws of three sets: put together in whatever order, taken away and put back, what is in both, how many there are. Conditions: the sets are uint64s. -/
import Derived.Test.YtknkgponjjghcaaDoorBLaw
import Derived.Test.YtknkgponjjghcaaDoorPx8
import Derived.OpenShut
set_option linter.unusedVariables false
set_option linter.unusedSimpArgs false
namespace Go.Proofs.YtknkgponjjghcaaDoor.Pure
open Go.RowKit Go.Proofs.YtknkgponjjghcaaDoor.P Go.Proofs.YtknkgponjjghcaaDoorW.PrintWords Go.Proofs.YtknkgponjjghcaaDoorW.PrintLast Go.Proofs.YtknkgponjjghcaaDoorW.PrintMore

theorem BitsLaws (a0 a1 a2 : Int) (w0 : (Lit.int .u64 a0).wf = true) (w1 : (Lit.int .u64 a1).wf = true) (w2 : (Lit.int .u64 a2).wf = true) : ∃ k, syntagmlaw01_BitsLaws.f k a0 a1 a2 = some true := by
  obtain ⟨a, rfl, ha⟩ := u64_nat w0
  obtain ⟨b, rfl, hb⟩ := u64_nat w1
  obtain ⟨c, rfl, hc⟩ := u64_nat w2
  refine ⟨22, ?_⟩
  have hu := or_lt a b ha hb
  have hm := and_lt a b ha
  have hl := lessN_lt a b ha
  -- the end: how many there are
  have fin : ∀ x : Bool, x = true → (bits_Count.f ((a ||| b : Nat) : Int)).bind (fun t237 => (bits_Count.f ((a &&& b : Nat) : Int)).bind fun t238 => (bits_Count.f (a : Int)).bind fun t239 => (bits_Count.f (b : Int)).bind fun t240 => some ((wrap64 (t237 + t238)) == (wrap64 (t239 + t240)))) = some true := fun _ _ => by
    rw [count_eq _ hu, Option.bind_some, count_eq _ hm, Option.bind_some, count_eq _ ha, Option.bind_some, count_eq _ hb, Option.bind_some]
    have := count_or a b
    rw [show (((bitsOf (a ||| b)).length : Nat) : Int) + ((bitsOf (a &&& b)).length : Nat) = ((bitsOf a).length : Nat) + ((bitsOf b).length : Nat) by omega]
    simp
  have i1 : lessN (a &&& b) a = 0 := (less_zero_iff hm ha).2 fun i _ h => by rw [Nat.testBit_and] at h; cases ht : a.testBit i <;> simp_all
  have i2 : lessN a (a ||| b) = 0 := (less_zero_iff ha hu).2 fun i _ h => by rw [Nat.testBit_or, h]; rfl
  have i3 : lessN a b = 0 → lessN b c = 0 → lessN a c = 0 := fun h1 h2 => (less_zero_iff ha hc).2 fun i hi h => (less_zero_iff hb hc).1 h2 i hi ((less_zero_iff ha hb).1 h1 i hi h)
  have end_ : syntagmlaw01_BitsLaws.j1 21 a b c true ((a ||| b : Nat) : Int) ((a &&& b : Nat) : Int) true true = some true := by
    simp only [syntagmlaw01_BitsLaws.j1]
    rw [if_pos trivial, if_pos trivial, if_pos trivial, in_eq _ _ hm ha, Option.bind_some, decide_eq_true i1, if_pos rfl, in_eq _ _ ha hu, Option.bind_some, decide_eq_true i2, if_pos rfl, in_eq _ _ ha hb, Option.bind_some]
    by_cases h1 : lessN a b = 0
    · rw [decide_eq_true h1, if_pos rfl, in_eq _ _ hb hc, Option.bind_some]
      by_cases h2 : lessN b c = 0
      · rw [decide_eq_true h2, if_pos rfl, in_eq _ _ ha hc, Option.bind_some, decide_eq_true (i3 h1 h2), if_pos rfl]
        exact fin true rfl
      · rw [decide_eq_false h2, if_neg (by decide)]
        exact fin true rfl
    · rw [decide_eq_false h1, if_neg (by decide)]
      exact fin true rfl
  have mid : syntagmlaw01_BitsLaws.j0 22 a b c true ((a ||| b : Nat) : Int) ((a &&& b : Nat) : Int) true = some true := by
    simp only [syntagmlaw01_BitsLaws.j0]
    rw [less_eq a b ha hb, Option.bind_some, union_eq _ _ hl hm, Option.bind_some, less_meet ha hb, if_pos rfl, Option.bind_some, meet_eq _ _ hl hb, Option.bind_some, less_and ha hb, if_pos (by rfl),
      meet_eq _ _ hu hc, Option.bind_some, meet_eq _ _ ha hc, Option.bind_some, meet_eq _ _ hb hc, Option.bind_some, union_eq _ _ (and_lt _ _ ha) (and_lt _ _ hb), Option.bind_some, Nat.and_or_distrib_right]
    rw [show ((((a &&& c ||| b &&& c : Nat) : Int) == ((a &&& c ||| b &&& c : Nat) : Int))) = true from beq_self_eq_true _]
    exact end_
  unfold syntagmlaw01_BitsLaws.f
  rw [works_at 22 (by omega), Option.bind_some, if_pos rfl, union_eq a b ha hb, Option.bind_some, meet_eq a b ha hb, Option.bind_some, union_eq b a hb ha, Option.bind_some, Nat.or_comm b a, if_pos rfl,
    meet_eq b a hb ha, Option.bind_some, Nat.and_comm b a, if_pos rfl, union_eq _ c hu hc, Option.bind_some, union_eq b c hb hc, Option.bind_some, union_eq a _ ha (or_lt _ _ hb hc), Option.bind_some, Nat.or_assoc, if_pos rfl,
    meet_eq _ c hm hc, Option.bind_some, meet_eq b c hb hc, Option.bind_some, meet_eq a _ ha (and_lt _ _ hb), Option.bind_some, Nat.and_assoc]
  rw [show ((((a &&& (b &&& c) : Nat) : Int) == ((a &&& (b &&& c) : Nat) : Int))) = true from beq_self_eq_true _]
  exact mid

end Go.Proofs.YtknkgponjjghcaaDoor.Pure
