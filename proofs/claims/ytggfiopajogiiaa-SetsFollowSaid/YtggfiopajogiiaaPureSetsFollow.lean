/- What begins a thing that stands behind a sort follows that sort; what follows the whole follows what it ends with. Conditions: the statement's own. -/
import Derived.Test.YtggfiopajogiiaaSBitIn
import Derived.Test.YtggfiopajogiiaaPx19
set_option linter.unusedVariables false
set_option linter.unusedSimpArgs false
namespace Go.Proofs.Ytggfiopajogiiaa.Pure
open Go.RowKit Go.Proofs.Ytggfiopajogiiaa.P Go.Proofs.YtggfiopajogiiaaW.PrintWords Go.Proofs.YtggfiopajogiiaaW.PrintLast Go.Proofs.YtggfiopajogiiaaW.PrintMore Go.Proofs.Ytggfiopajogiiaa.P.Bitty

theorem follow_j {l0 : List S51} {l1 : List S63} {l2 : List ByteArray} {l3 : List S45} {st : Int} (h : Order l0 l1 l2 l3 st) (K : Nat) (hK : K = 69) (a1 a2 : Int) (h1 : 0 ≤ a1) (h2 : a1 < l3.length) (h3 : 0 ≤ a2) (h4 : a2 < (rd_T45 l3 a1).f2.length) (h5 : rd (rd_T45 l3 a1).f2 a2 < 0) (h6 : (rd_T45 l3 a1).f2.length ≤ 9223372036854775807) :
    syntagmlaw13_SetsFollow.j0 (K + 1) a1 a2 true false l0 l1 l2 l3 st = some true := by
  obtain ⟨p, hp⟩ : ∃ p, rd_T45 l3 a1 = p := ⟨_, rfl⟩
  have hmem : p ∈ l3 := by
    have e : rd_T45 l3 a1 = l3[a1.toNat]'(by omega) := getD_at _ _ _ _
    rw [← hp, e]; exact List.getElem_mem _
  rw [hp] at h4 h5 h6
  have hlt : a2.toNat < p.f2.length := by omega
  have hsrt := h.gram.srt p hmem
  have ew := (wR_ok h).1
  have ef := (fR_ok h).1
  have hS := h.gram.hS
  have hT := h.gram.hT
  obtain ⟨s, hs⟩ : ∃ s, rd p.f2 a2 = s := ⟨_, rfl⟩
  have hs' : p.f2[a2.toNat] = s := by rw [← hs]; exact (getD_at 0 _ _ hlt).symm
  have hsm : s ∈ p.f2 := by rw [← hs']; exact List.getElem_mem _
  have hsr := h.gram.sym p hmem s hsm
  rw [hs] at h5
  have hspl : p.f2 = p.f2.take a2.toNat ++ s :: p.f2.drop (a2.toNat + 1) := by
    rw [← hs', ← List.drop_eq_getElem_cons hlt, List.take_append_drop]
  have w1 : wrap64 ((-1) - s) = -1 - s := by unfold wrap64; omega
  have hcl := fun b hb => folR_closed h.gram (fR_ok h) (st := st) (es := eR l2 l3) p hmem _ s _ hspl h5 b hb
  have okw : ∀ i, ok (rd (wR l0 l2 l3 st) i) := ok_rd (wR_ok h)
  have okf : ∀ i, ok (rd (fR l0 l2 l3) i) := ok_rd (fR_ok h)
  rw [syntagmlaw13_SetsFollow.j0]
  rw [if_neg (by decide), Follow_is h K (by omega), Option.bind_some, hp, hs, w1, if_pos h1, if_pos h2, if_pos h3, if_pos h4]
  by_cases hlast : a2 = wrap64 ((p.f2.length : Int) - 1)
  · have hd : p.f2.drop (a2.toNat + 1) = [] := List.drop_eq_nil_of_le (by unfold wrap64 at hlast; omega)
    rw [hd] at hcl
    rw [if_pos hlast, if_pos rfl, if_pos hsrt.1, if_pos (by omega), if_pos (by omega), if_pos (by omega), in_true (okw _) (okw _) (fun b hb => hcl b hb)]
    rfl
  · have hnl : a2 + 1 < p.f2.length := by unfold wrap64 at hlast; omega
    have w2 : wrap64 (a2 + 1) = a2 + 1 := by unfold wrap64; omega
    have hlt2 : a2.toNat + 1 < p.f2.length := by omega
    obtain ⟨t, ht⟩ : ∃ t, rd p.f2 (a2 + 1) = t := ⟨_, rfl⟩
    have ht' : p.f2[a2.toNat + 1] = t := by
      rw [← ht]; unfold rd
      rw [show (a2 + 1).toNat = a2.toNat + 1 by omega]; exact (getD_at 0 _ _ hlt2).symm
    have htr := h.gram.sym p hmem t (by rw [← ht']; exact List.getElem_mem _)
    have hd : p.f2.drop (a2.toNat + 1) = t :: p.f2.drop (a2.toNat + 1 + 1) := by rw [← ht']; exact List.drop_eq_getElem_cons hlt2
    rw [hd] at hcl
    have hno : ¬ ((l0.length : Int) ≤ t ∨ t < -(l2.length : Int)) := by omega
    rw [if_neg hlast, w2, if_pos (by omega), if_pos (by omega), ht]
    by_cases h0 : t ≥ 0
    · rw [if_pos h0, if_pos rfl, if_pos (by omega), if_pos (by omega), has_true t (okw _) h0 (by omega)]
      · rfl
      · refine hcl _ ?_
        unfold rowB
        rw [if_neg hno, if_pos h0]
        simp
    · have w3 : wrap64 ((-1) - t) = -1 - t := by unfold wrap64; omega
      rw [if_neg h0, if_pos rfl, First_is h K (by omega), Option.bind_some, w3, if_pos (by omega), if_pos (by omega), if_pos (by omega), if_pos (by omega), in_true (okf _) (okw _) (fun b hb => hcl b ?_)]
      · rfl
      · unfold rowB
        rw [if_neg hno, if_neg h0]
        have hb' : tb (rd (fR l0 l2 l3) (-1 - t)) b = true := hb
        show (tb (rd (fR l0 l2 l3) (-1 - t)) b || _) = true
        rw [hb', Bool.true_or]

theorem SetsFollow (x0 : S27) (a1 a2 : Int) (w0 : wf27 x0) (w1 : (Lit.int .i64 a1).wf = true) (w2 : (Lit.int .i64 a2).wf = true) : ∃ k, syntagmlaw13_SetsFollow.f k x0.f0 x0.f1 x0.f2 x0.f3 x0.f4 a1 a2 = some true := by
  obtain ⟨K, hK⟩ : ∃ K : Nat, K = 69 := ⟨_, rfl⟩
  refine ⟨K + 1, ?_⟩
  obtain ⟨b, hf, -⟩ := few_is x0.f0 x0.f1 x0.f2 x0.f3 x0.f4 (K + 1) (by omega)
  have out : syntagmlaw13_SetsFollow.j0 (K + 1) a1 a2 true true x0.f0 x0.f1 x0.f2 x0.f3 x0.f4 = some true := rfl
  unfold syntagmlaw13_SetsFollow.f
  rw [works_is (K + 1) (by omega), Option.bind_some, if_pos rfl, hf, Option.bind_some]
  cases b
  · rw [if_neg (by decide)]; exact out
  · rw [if_pos rfl, valid_f, Option.bind_some]
    cases hv : validB x0.f0 x0.f1 x0.f2 x0.f3 x0.f4
    · exact out
    · rw [if_pos rfl]
      have h := order_of hv (prods_range w0)
      split
      · exact out
      · split
        · exact out
        · split
          · exact out
          · rw [if_pos (by omega), if_pos (by omega)]
            split
            · exact out
            · rw [if_pos (by omega), if_pos (by omega)]
              by_cases hneg : rd (rd_T45 x0.f3 a1).f2 a2 ≥ 0
              · rw [decide_eq_true hneg]; exact out
              · rw [decide_eq_false hneg]
                have hmem : rd_T45 x0.f3 a1 ∈ x0.f3 := by
                  have e : rd_T45 x0.f3 a1 = x0.f3[a1.toNat]'(by omega) := getD_at _ _ _ _
                  rw [e]; exact List.getElem_mem _
                exact follow_j h K hK a1 a2 (by omega) (by omega) (by omega) (by omega) (by omega) (w0.2.2.2.1.2 _ hmem).2.2.1.1
end Go.Proofs.Ytggfiopajogiiaa.Pure
