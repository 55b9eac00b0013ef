/- What may be empty lives; what begins with nothing, and lives, may be empty alone. Conditions: the statement's own. -/
import Derived.Test.YtggfiopajogiiaaSLaw
import Derived.Test.YtggfiopajogiiaaPx17
set_option linter.unusedVariables false
set_option linter.unusedSimpArgs false
namespace Go.Proofs.Ytggfiopajogiiaa.Pure
open Go.RowKit Go.Proofs.Ytggfiopajogiiaa.P Go.Proofs.YtggfiopajogiiaaW.PrintWords Go.Proofs.YtggfiopajogiiaaW.PrintLast Go.Proofs.YtggfiopajogiiaaW.PrintMore Go.Proofs.Ytggfiopajogiiaa.P.Bitty

theorem live_loop {l0 : List S51} {l1 : List S63} {l2 : List ByteArray} {l3 : List S45} {st : Int} (h : Order l0 l1 l2 l3 st) : ∀ (m i : Nat), i + m = l2.length → ∀ k, m + 1 ≤ k →
    syntagmlaw13_SetsLive.l0 k true (eR l2 l3) (lR l2 l3) (fR l0 l2 l3) i l0 l1 l2 l3 st = some true
  | m, i, hi, 0, hk => by omega
  | 0, i, hi, k + 1, hk => by
    unfold syntagmlaw13_SetsLive.l0
    rw [if_neg (by omega)]
  | m + 1, i, hi, k + 1, hk => by
    have hS := h.gram.hS
    have w : wrap64 ((i : Int) + 1) = ((i + 1 : Nat) : Int) := by unfold wrap64; omega
    have next : syntagmlaw13_SetsLive.l0 k true (eR l2 l3) (lR l2 l3) (fR l0 l2 l3) (wrap64 ((i : Int) + 1)) l0 l1 l2 l3 st = some true := by
      rw [w]; exact live_loop h m (i + 1) (by omega) k (by omega)
    have e1 := eR_len l2 l3
    have e2 := lR_len l2 l3
    have e3 := (fR_ok h).1
    unfold syntagmlaw13_SetsLive.l0
    rw [if_pos (by omega), if_pos (by omega), if_pos (by omega)]
    by_cases he : rdOf false (eR l2 l3) (i : Int) = true
    · have hl : rdOf false (lR l2 l3) (i : Int) = true := empty_lives h i (by omega) he
      rw [if_pos he, if_pos (by omega), if_pos hl]
      exact next
    · rw [if_neg he, if_pos (by omega)]
      by_cases hl : rdOf false (lR l2 l3) (i : Int) = true
      · rw [if_pos hl, if_pos (by omega)]
        rcases lives_begins h i (by omega) hl with h1 | ⟨b, hb⟩
        · exact absurd h1 he
        · rw [if_neg, next]
          intro e
          have hb' : tb (rd (fR l0 l2 l3) (i : Int)) b = true := hb
          rw [e, tb_zero] at hb'
          cases hb'
      · rw [if_neg hl]; exact next

theorem SetsLive (x0 : S27) (w0 : wf27 x0) : ∃ k, syntagmlaw13_SetsLive.f k x0.f0 x0.f1 x0.f2 x0.f3 x0.f4 = some true := by
  obtain ⟨K, hK⟩ : ∃ K : Nat, K = 69 := ⟨_, rfl⟩
  refine ⟨K + 1, ?_⟩
  obtain ⟨b, hf, -⟩ := few_is x0.f0 x0.f1 x0.f2 x0.f3 x0.f4 (K + 1) (by omega)
  have out : syntagmlaw13_SetsLive.j0 (K + 1) true true x0.f0 x0.f1 x0.f2 x0.f3 x0.f4 = some true := by rw [syntagmlaw13_SetsLive.j0]; rfl
  unfold syntagmlaw13_SetsLive.f
  rw [works_is (K + 1) (by omega), Option.bind_some, if_pos rfl, hf, Option.bind_some]
  cases b
  · rw [if_neg (by decide)]; exact out
  · rw [if_pos rfl, valid_f, Option.bind_some]
    cases hv : validB x0.f0 x0.f1 x0.f2 x0.f3 x0.f4
    · exact out
    · have h := order_of hv (prods_range w0)
      have hS := h.gram.hS
      show syntagmlaw13_SetsLive.j0 (K + 1) true false x0.f0 x0.f1 x0.f2 x0.f3 x0.f4 = some true
      rw [syntagmlaw13_SetsLive.j0]
      rw [if_neg (by decide), Empty_is h K (by omega), Option.bind_some, Lives_is h K (by omega), Option.bind_some, First_is h K (by omega), Option.bind_some]
      exact live_loop h x0.f2.length 0 (by omega) K (by omega)
end Go.Proofs.Ytggfiopajogiiaa.Pure
