/- Texts of this claim put together: PureStatesAhead, Glob. -/
import Derived.Test.YtclollnicbcooaaDoorVa4
import Derived.Test.YtclollnicbcooaaDoorRows
import Derived.Test.YtclollnicbcooaaDoorVa2
import Derived.Lib.LaidTab
import Derived.Lib.LaidU8
import Derived.OpenShut
import Derived.ProofKit
import Derived.LaidLaws
import Derived.Handed
section
set_option linter.unusedVariables false
set_option linter.unusedSimpArgs false
set_option linter.unusedSectionVars false
namespace Go.Proofs.YtclollnicbcooaaDoor.Pure
open Go.RowKit Go.Proofs.YtclollnicbcooaaDoor.P Go.Proofs.YtclollnicbcooaaDoorW.PrintWords Go.Proofs.YtclollnicbcooaaDoorW.PrintLast Go.Proofs.YtclollnicbcooaaDoorW.PrintMore St

theorem numof_one {K : List (List Itm)} (hd : K.Nodup) {l : List Itm} {a b : Int} (h1 : NumOf K l a) (h2 : NumOf K l b) : a = b := by
 rcases h1 with ⟨e1, rfl⟩ | ⟨n1, t1, rfl, k1⟩ <;> rcases h2 with ⟨e2, rfl⟩ | ⟨n2, t2, rfl, k2⟩
 ·rfl
 ·exact absurd e1 n2
 ·exact absurd e2 n1
 ·rw [nodup_at hd k1 k2]
theorem ah_l4 (come : List Bool) (hl : come.length ≤ 1000000) (hall : ∀ j, j < come.length → come[j]? = some true) : ∀ (m j : Nat), j + m = come.length → Ev (fun k => syntagmlaw14_StatesAhead.l4 k true come j) true
 | 0, j, hj => by
  refine Ev.step (f := fun _ => some true) (fun k => ?_) (Ev.now _)
  rw [syntagmlaw14_StatesAhead.l4, if_neg (by omega)]
 | m + 1, j, hj => by
  refine Ev.step (fun k => ?_) (ah_l4 come hl hall m (j + 1) (by omega))
  have e : rdOf false come (j : Int) = true := by
   unfold rdOf
   rw [Int.toNat_natCast, List.getD_eq_getElem?_getD, hall j (by omega)]
   rfl
  rw [syntagmlaw14_StatesAhead.l4, if_pos (by omega), if_pos (by omega), if_pos e, wrap_up j (by omega)]
/-- What is marked, while the rows are gone through. -/
structure Cm (K : List (List Itm)) (N : List (List Int)) (i k : Nat) (come : List Bool) : Prop where
 len : come.length = K.length
 zero : come[0]? = some true
 old : ∀ (j : Nat) (row : List Int) (n : Nat), j < i → N[j]? = some row → (n : Int) ∈ row → come[n]? = some true
 now : ∀ (row : List Int) (q n : Nat), N[i]? = some row → q < k → row[q]? = some (n : Int) → come[n]? = some true
theorem Cm.next {K : List (List Itm)} {N : List (List Int)} {i k : Nat} {come : List Bool} (h : Cm K N i k come) {row : List Int} (hr : N[i]? = some row) (hk : k = row.length) : Cm K N (i + 1) 0 come where
 len := h.len
 zero := h.zero
 old := fun j r n hj hN hm => by
  by_cases e : j = i
  ·subst e
   rw [hr] at hN
   have hN := Option.some.inj hN
   subst hN
   obtain ⟨q, hq, e⟩ := List.mem_iff_getElem.1 hm
   exact h.now row q n hr (by omega) (by rw [List.getElem?_eq_getElem hq, e])
  ·exact h.old j r n (by omega) hN hm
 now := fun _ q _ _ hq => absurd hq (Nat.not_lt_zero _)
theorem Cm.skip {K : List (List Itm)} {N : List (List Int)} {i k : Nat} {come : List Bool} (h : Cm K N i k come) {row : List Int} (hr : N[i]? = some row) {v : Int} (hv : row[k]? = some v) (hn : v < 0) : Cm K N i (k + 1) come where
 len := h.len
 zero := h.zero
 old := h.old
 now := fun r q n hN hq hm => by
  by_cases e : q = k
  ·subst e
   rw [hr] at hN
   have hN := Option.some.inj hN
   subst hN
   rw [hv] at hm
   have := Option.some.inj hm
   omega
  ·exact h.now r q n hN (by omega) hm
theorem Cm.mark {K : List (List Itm)} {N : List (List Int)} {i k : Nat} {come : List Bool} (h : Cm K N i k come) {row : List Int} (hr : N[i]? = some row) {t : Nat} (hv : row[k]? = some (t : Int)) (ht : t < K.length) : Cm K N i (k + 1) (come.set t true) := by
 have hset : ∀ n : Nat, come[n]? = some true → (come.set t true)[n]? = some true := fun n hn => by
  obtain ⟨hl, _⟩ := List.getElem?_eq_some_iff.1 hn
  by_cases e : t = n
  ·subst e; rw [List.getElem?_set_self hl]
  ·rw [List.getElem?_set_ne e]; exact hn
 refine ⟨by rw [List.length_set]; exact h.len, hset 0 h.zero, fun j r n hj hN hm => hset n (h.old j r n hj hN hm), fun r q n hN hq hm => ?_⟩
 by_cases e : q = k
 ·subst e
  rw [hr] at hN
  have hN := Option.some.inj hN
  subst hN
  rw [hv] at hm
  have e2 := Option.some.inj hm
  have e3 : t = n := by omega
  subst e3
  rw [List.getElem?_set_self (by have := h.len; omega)]
 ·exact hset n (h.now r q n hN (by omega) hm)
section
variable {l0 : List S82} {l1 : List S101} {l2 : List ByteArray} {l3 : List S64} {st : Int} {K : List (List Itm)} {N : List (List Int)} (hv : validB l0 l1 l2 l3 st = true) (hr : ∀ p ∈ l3, ∀ s ∈ p.f2, -9223372036854775808 ≤ s ∧ s ≤ 9223372036854775807) (hB : Built (Sg (gr st l3)) (symsL l0.length l2.length) [(-1, 0)] K N) (hN : N.length = K.length) (hK : K.length ≤ 1000000)
include hv hr hB hN hK
theorem ah_l3 (i q : Nat) (hq : q ≤ 1000) (s : Int) (t : Nat) (come : List Bool) (ht : t < K.length) (hL : ∀ x ∈ K[t], behindL (gr st l3) (x.1, x.2 - 1) = some s ∧ 0 ≤ x.2 ∧ x.2 ≤ 100)
  (hE : Ev (fun k => syntagmlaw14_StatesAhead.l2 k true come i ((q + 1 : Nat) : Int) l0 l1 l2 l3 st (K.map (·.map ofI)) N) true) :
  ∀ (m j : Nat), j + m = K[t].length → Ev (fun k => syntagmlaw14_StatesAhead.l3 k true come i q s t j l0 l1 l2 l3 st (K.map (·.map ofI)) N) true
 | 0, j, hj => by
  refine Ev.step (fun k => ?_) hE
  rw [syntagmlaw14_StatesAhead.l3, if_pos (by omega), if_pos (by rw [List.length_map]; omega), rdL15 K t ht, if_neg (by rw [List.length_map]; omega), wrap_up q (by omega)]
 | m + 1, j, hj => by
  have hlt : j < K[t].length := by omega
  have hsm := (built_small hv hB _ (List.getElem_mem ht)).1
  obtain ⟨hb, h0, h1⟩ := hL _ (List.getElem_mem hlt)
  have hbe := Behind_ok hv (K[t][j].1) (K[t][j].2 - 1)
  rw [hb] at hbe
  refine Ev.step (fun k => ?_) (ah_l3 i q hq s t come ht hL hE m (j + 1) (by omega))
  have hx : rd_T37 (K[t].map ofI) (j : Int) = ofI K[t][j] := by
   rw [rd37 _ j (by rw [List.length_map]; exact hlt), List.getElem_map]
  rw [syntagmlaw14_StatesAhead.l3, if_pos (by omega), if_pos (by rw [List.length_map]; omega), rdL15 K t ht, if_pos (by rw [List.length_map]; omega), if_pos (by omega), hx]
  show ((states_Behind.f l0 l1 l2 l3 st (K[t][j].1) (wrap64 (K[t][j].2 - 1))).bind _) = _
  rw [IntWalk.wrap64_in _ (by omega), hbe, Option.bind_some]
  dsimp only
  rw [if_pos rfl, if_pos rfl, wrap_up j (by omega)]
theorem ah_l2 (i : Nat) (hi : i < K.length) (hE : ∀ come, Cm K N (i + 1) 0 come → Ev (fun k => syntagmlaw14_StatesAhead.l0 k true come ((i + 1 : Nat) : Int) l0 l1 l2 l3 st (K.map (·.map ofI)) N) true) :
  ∀ (m q : Nat) (come : List Bool), q + m = l0.length + l2.length → Cm K N i q come → Ev (fun k => syntagmlaw14_StatesAhead.l2 k true come i q l0 l1 l2 l3 st (K.map (·.map ofI)) N) true
 | 0, q, come, hq, hC => by
  have hT := terms_few hv
  have hS := (fits_of hv).sorts
  obtain ⟨row, hrow, hlen, hg⟩ := hB.goes i K[i] (by omega) (List.getElem?_eq_getElem hi)
  rw [symsL_len] at hlen
  have hri : rd_L17 N (i : Int) = row := by
   rw [rdL17 N i (by omega)]
   rw [List.getElem?_eq_getElem (by omega)] at hrow
   exact Option.some.inj hrow
  refine Ev.step (fun k => ?_) (hE come (hC.next hrow (by omega)))
  rw [syntagmlaw14_StatesAhead.l2, if_pos (by omega), if_pos (by omega), hri, if_neg (by omega), wrap_up i (by omega)]
 | m + 1, q, come, hq, hC => by
  have hT := terms_few hv
  have hS := (fits_of hv).sorts
  obtain ⟨row, hrow, hlen, hg⟩ := hB.goes i K[i] (by omega) (List.getElem?_eq_getElem hi)
  rw [symsL_len] at hlen
  have hri : rd_L17 N (i : Int) = row := by
   rw [rdL17 N i (by omega)]
   rw [List.getElem?_eq_getElem (by omega)] at hrow
   exact Option.some.inj hrow
  have hsy := symsL_at l0.length l2.length q (by omega)
  obtain ⟨s, hs⟩ : ∃ s, s = (if l0.length ≤ q then -1 - ((q : Int) - l0.length) else (q : Int)) := ⟨_, rfl⟩
  rw [← hs] at hsy
  have hsr : -9223372036854775808 ≤ s ∧ s ≤ 9223372036854775807 := by
   rw [hs]
   split <;> omega
  obtain ⟨v, hv1, hv2⟩ := hg q s hsy
  obtain ⟨v', hg1, hg2⟩ := go_is hv hr hB (by omega : i < N.length) (List.getElem?_eq_getElem hi) s hsr (K.map (·.map ofI))
  have hvv := numof_one hB.apart hg2 hv2
  subst hvv
  have hrd := rd_at row q hv1
  have hnk : ∀ c s, Sg (gr st l3) c s ≠ [(-1, 0)] := fun c s e => by
   have hm : ((-1, 0) : Itm) ∈ Sg (gr st l3) c s := by rw [e]; simp
   obtain ⟨y, h1, h2, h3⟩ := (stepL_mem _ _ _ _).1 (((risen_is _).mem _).1 hm)
   have := behind_short (fits_of hv) h2
   have e2 := congrArg Prod.snd h3
   simp only at e2
   omega
  have hld := leads hB hnk i q K[i] row s v' (by omega) (List.getElem?_eq_getElem hi) hrow hsy hv1
  have ih := ah_l2 i hi hE m (q + 1)
  have h4 : Ev (fun k => syntagmlaw14_StatesAhead.j4 k true come i q s v' false l0 l1 l2 l3 st (K.map (·.map ofI)) N) true := by
   rcases hld with ⟨_, hneg⟩ | ⟨t, rfl, ht0, htl, htk⟩
   ·refine Ev.step (fun k => ?_) (ih come (by omega) (hC.skip hrow hv1 (by omega)))
    rw [syntagmlaw14_StatesAhead.j4, if_neg (by decide), if_pos (by omega), wrap_up q (by omega)]
   ·have hCm := hC.mark hrow hv1 htl
    have hte : K[t] = Sg (gr st l3) K[i] s := (List.getElem?_eq_some_iff.1 htk).2
    have hz := ah_l3 hv hr hB hN hK i q (by omega) s t (come.set t true) htl (fun x hx => by
     rw [hte] at hx
     obtain ⟨y, h1, h2, h3⟩ := (stepL_mem _ _ _ _).1 (((risen_is _).mem _).1 hx)
     have h5 := behind_short (fits_of hv) h2
     rw [h3]
     refine ⟨?_, by simp only; omega, by simp only; omega⟩
     rw [show (((y.1, y.2 + 1) : Itm).1, ((y.1, y.2 + 1) : Itm).2 - 1) = y from Prod.ext rfl (by show y.2 + 1 - 1 = y.2; omega)]
     exact h2) (ih _ (by omega) hCm) K[t].length 0 (by omega)
    refine Ev.step (fun k => ?_) hz
    rw [syntagmlaw14_StatesAhead.j4, if_neg (by decide), if_neg (by omega), if_pos (by omega), if_pos (by rw [hC.len]; omega), Int.toNat_natCast]
    rfl
  have h3 : Ev (fun k => syntagmlaw14_StatesAhead.j3 k true come i q s l0 l1 l2 l3 st (K.map (·.map ofI)) N) true := by
   refine Ev.step (fun k => ?_) h4
   have hlt : ¬ v' ≥ (K.length : Int) := by
    rcases hld with ⟨_, h⟩ | ⟨t, rfl, _, h, _⟩ <;> omega
   have hne : (v' == 0) = false := by
    rw [beq_eq_false_iff_ne]
    rcases hld with ⟨_, h⟩ | ⟨t, rfl, h, _, _⟩ <;> omega
   rw [syntagmlaw14_StatesAhead.j3, if_pos (by omega), if_pos (by omega), if_pos (by omega), hri, if_pos (by omega), hg1, Option.bind_some, hrd, if_pos rfl, if_neg (by rw [List.length_map]; exact hlt), hne]
  refine Ev.step (fun k => ?_) h3
  rw [syntagmlaw14_StatesAhead.l2, if_pos (by omega), if_pos (by omega), hri, if_pos (by omega)]
  by_cases hqT : l0.length ≤ q
  ·rw [if_pos hqT] at hs
   have hws : wrap64 ((-1) - (wrap64 ((q : Int) - (l0.length : Int)))) = s := by rw [hs]; unfold wrap64; omega
   rw [if_pos (by omega), hws]
  ·rw [if_neg hqT] at hs
   rw [if_neg (by omega), hs]
theorem ah_l1 (i : Nat) (hi : i < K.length) (come : List Bool) (hE : Ev (fun k => syntagmlaw14_StatesAhead.l2 k true come i 0 l0 l1 l2 l3 st (K.map (·.map ofI)) N) true) :
  ∀ (m j : Nat), j + m = i → Ev (fun k => syntagmlaw14_StatesAhead.l1 k true come i j l0 l1 l2 l3 st (K.map (·.map ofI)) N) true
 | 0, j, hj => by
  refine Ev.step (fun k => ?_) hE
  rw [syntagmlaw14_StatesAhead.l1, if_neg (by omega)]
 | m + 1, j, hj => by
  have h1 := (built_small hv hB _ (List.getElem_mem hi)).1
  have h2 := (built_small hv hB _ (List.getElem_mem (show j < K.length by omega))).1
  have hne : K[i] ≠ K[j] := fun e => by
   have := (List.getElem_inj hB.apart).1 e
   omega
  obtain ⟨K1, h3⟩ := lawrow_ev (K[i].map ofI) (by rw [List.length_map]; omega)
  obtain ⟨K2, h4⟩ := lawrow_ev (K[j].map ofI) (by rw [List.length_map]; omega)
  obtain ⟨K3, h5⟩ := refrow_ev K[i] K[j] (by omega)
  obtain ⟨K4, h6⟩ := ah_l1 i hi come hE m (j + 1) (by omega)
  rw [map_toI_ofI] at h3 h4
  rw [decide_eq_false hne] at h5
  refine ⟨K1 + K2 + K3 + K4 + 1, fun k hk => ?_⟩
  obtain ⟨k, rfl⟩ : ∃ j, k = j + 1 := ⟨k - 1, by omega⟩
  dsimp only at h3 h4 h5 h6 ⊢
  rw [syntagmlaw14_StatesAhead.l1, if_pos (by omega), if_pos (by omega), if_pos (by rw [List.length_map]; omega), rdL15 K i hi, h3 k (by omega), Option.bind_some, if_pos (by omega), if_pos (by rw [List.length_map]; omega), rdL15 K j (by omega), h4 k (by omega), Option.bind_some, h5 k (by omega), Option.bind_some, if_neg (by decide), wrap_up j (by omega)]
  exact h6 k (by omega)
theorem ah_l0 : ∀ (m i : Nat) (come : List Bool), i + m = K.length → Cm K N i 0 come → Ev (fun k => syntagmlaw14_StatesAhead.l0 k true come i l0 l1 l2 l3 st (K.map (·.map ofI)) N) true
 | 0, i, come, hi, hC => by
  have hz := ah_l4 come (by rw [hC.len]; omega) (fun j hj => by
   by_cases h0 : j = 0
   ·subst h0; exact hC.zero
   ·obtain ⟨a, b, row, h1, h2, h3⟩ := come_by hB j (by rw [hC.len] at hj; exact hj) h0
    exact hC.old a row j (by omega) h2 (List.mem_of_getElem? h3)) come.length 0 (by omega)
  refine Ev.step (fun k => ?_) hz
  rw [syntagmlaw14_StatesAhead.l0, if_neg (by rw [List.length_map]; omega)]
  rfl
 | m + 1, i, come, hi, hC => by
  have hlt : i < K.length := by omega
  have h2 := ah_l2 hv hr hB hN hK i hlt (fun come' hC' => ah_l0 m (i + 1) come' (by omega) hC') (l0.length + l2.length) 0 come (by omega) hC
  have h1 := ah_l1 hv hr hB hN hK i hlt come h2 i 0 (by omega)
  refine Ev.step (fun k => ?_) h1
  rw [syntagmlaw14_StatesAhead.l0, if_pos (by rw [List.length_map]; omega)]
  rfl
end
theorem buildL_few (S : List Itm → Int → List Itm) (syms : List Int) (most : Nat) : ∀ (n i : Nat) (K : List (List Itm)) (N : List (List Int)) (R : List (List Itm) × List (List Int)), buildL S syms most n i K N = some (some R) → R.2.length ≤ N.length + n := by
 intro n
 induction n with
 | zero => intro i K N R h; cases h
 | succ n ih =>
  intro i K N R h
  rw [buildL] at h
  split at h
  ·have h := Option.some.inj (Option.some.inj h)
   rw [← h]
   simp only
   omega
  ·split at h
   ·cases h
   ·have := ih _ _ _ _ h
    rw [List.length_append, List.length_singleton] at this
    omega
theorem StatesAhead (x0 : S27) (w0 : wf27 x0) : ∃ k, syntagmlaw14_StatesAhead.f k x0.f0 x0.f1 x0.f2 x0.f3 x0.f4 = some true := by
 have hr := prods_range w0
 obtain ⟨b, Kb, hb⟩ := little_ev x0.f0 x0.f1 x0.f2 x0.f3 x0.f4
 have fin : ∀ (k : Nat) (r : List (List S37) × List (List Int) × Int), Kb ≤ k → states_Build.f x0.f0 x0.f1 x0.f2 x0.f3 x0.f4 = some r → (if r.2.2 = 0 then (if 0 ≤ (r.1.length : Int) then (if ((r.1.length : Int) : Int).toNat ≤ 281474976710656 then ((some (List.replicate ((r.1.length : Int) : Int).toNat false : List Bool)).bind fun y431 => (if 0 < (y431.length : Int) then (syntagmlaw14_StatesAhead.l0 k true (y431.set (0 : Int).toNat true) 0 x0.f0 x0.f1 x0.f2 x0.f3 x0.f4 r.1 r.2.1) else (none))) else (none)) else (none)) else (some ((r.1.length : Int) == 0))) = some true → syntagmlaw14_StatesAhead.f k x0.f0 x0.f1 x0.f2 x0.f3 x0.f4 = some true := fun k r hk hB hf => by
  have h4 := hb k hk
  dsimp only at h4
  unfold syntagmlaw14_StatesAhead.f
  rw [works_true, Option.bind_some, if_pos rfl, h4, Option.bind_some]
  cases b with
  | false => rw [if_neg (by decide)]
  | true =>
   rw [if_pos rfl, hB, Option.bind_some]
   exact hf
 cases hv : validB x0.f0 x0.f1 x0.f2 x0.f3 x0.f4 with
 | false => exact ⟨Kb, fin Kb _ (Nat.le_refl _) (build_not hv) rfl⟩
 | true =>
  obtain ⟨R, hR, hf⟩ := build_ok hr hv
  cases R with
  | none => exact ⟨Kb, fin Kb _ (Nat.le_refl _) hf rfl⟩
  | some KN =>
   obtain ⟨K, N⟩ := KN
   obtain ⟨hBu, hN⟩ := built_is hR
   have hrows := buildL_few _ _ _ _ _ _ _ _ hR
   simp only [List.length_nil] at hrows
   have hpos : 0 < K.length := (List.getElem?_eq_some_iff.1 hBu.first).1
   have hC : Cm K N 0 0 ((List.replicate K.length false).set 0 true) := by
    refine ⟨by rw [List.length_set, List.length_replicate], ?_, fun j _ _ hj => absurd hj (Nat.not_lt_zero _), fun _ q _ _ hq => absurd hq (Nat.not_lt_zero _)⟩
    rw [List.getElem?_set_self (by rw [List.length_replicate]; exact hpos)]
   obtain ⟨K2, h2⟩ := ah_l0 hv hr hBu hN (by omega) K.length 0 _ (Nat.zero_add _) hC
   refine ⟨Kb + K2, fin _ _ (by omega) hf ?_⟩
   have h3 := h2 (Kb + K2) (by omega)
   dsimp only at h3
   show (if (0 : Int) = 0 then (if 0 ≤ ((K.map (·.map ofI)).length : Int) then (if (((K.map (·.map ofI)).length : Int) : Int).toNat ≤ 281474976710656 then ((some (List.replicate (((K.map (·.map ofI)).length : Int) : Int).toNat false : List Bool)).bind fun y431 => (if 0 < (y431.length : Int) then (syntagmlaw14_StatesAhead.l0 (Kb + K2) true (y431.set (0 : Int).toNat true) 0 x0.f0 x0.f1 x0.f2 x0.f3 x0.f4 (K.map (·.map ofI)) N) else (none))) else (none)) else (none)) else (some (((K.map (·.map ofI)).length : Int) == 0))) = some true
   rw [if_pos rfl, List.length_map, Int.toNat_natCast, if_pos (by omega), if_pos (by omega), Option.bind_some, List.length_replicate, if_pos (by omega)]
   exact h3
end Go.Proofs.YtclollnicbcooaaDoor.Pure
end

section
set_option linter.unusedVariables false
namespace Go.Proofs.YtclollnicbcooaaDoor.Glob
open Go.ChangeShapes Go.WideShapes Go.ChangeAt Go.RowKit

def laidL : List (String × DataW Unit) := [("math/bits.deBruijn32tab", Rows.laid_math_bits_deBruijn32tab), ("math/bits.deBruijn64tab", Rows.laid_math_bits_deBruijn64tab), ("internal/strconv.uint64pow10", Rows.laid_internal_strconv_uint64pow10)]
theorem named : Tryd.prog.globalNamed "internal/strconv.uint64pow10" = some 0 := by kernel_rfl
theorem typed : (Tryd.prog.globals[0]?).map (·.type) = some 172 := by kernel_rfl
theorem und172 : Tryd.prog.underlying 172 = some (.array 20 75) := by kernel_rfl
theorem und75 : Tryd.prog.underlying 75 = some (.int .u64) := by kernel_rfl
theorem cells172 : Tryd.prog.cellsOf 172 = 20 := by kernel_rfl
theorem cells75 : Tryd.prog.cellsOf 75 = 1 := by kernel_rfl
theorem table_is : (Rows.laid_internal_strconv_uint64pow10 : DataW Unit) = Lib.tabData .u64 Lib.pow10Tab := by rfl
theorem of_laid {W : World} (h : laidMet Tryd.prog laidL W) : P.GTab W := by
 obtain ⟨g', t', cs, fuel, p, hg', ht', hvar, hd⟩ := Lib.laidMet.reads h (n := "internal/strconv.uint64pow10") (d := Rows.laid_internal_strconv_uint64pow10) (List.mem_cons_of_mem _ (List.mem_cons_of_mem _ List.mem_cons_self))
 obtain rfl := Option.some.inj (named.symm.trans hg')
 obtain rfl := Option.some.inj (typed.symm.trans ht')
 rw [table_is] at hd
 unfold P.GTab Lib.TabIs
 rw [hvar, ← Lib.cells_of_tab und172 und75 cells75 cells172 hd]

/-- A row of literals as cells. -/
def litCells : DataW Unit → Array Value
 | .agg l => (l.map fun | .lit (.int k z) => Value.int k z | _ => Value.int .i64 0).toArray
 | _ => #[]
noncomputable def laidWorld (os : Os) : World :=
 let w := World.holding Tryd.prog os ⟨#[], #[], []⟩
 let put (b : Nat) (cs : Array Value) (h : Array Obj) : Array Obj := h.modify b fun
   | .cells _ t frozen => .cells cs t frozen
   | o => o
 { w with heap := put 0 (litCells Rows.laid_internal_strconv_uint64pow10) (put 1 (litCells Rows.laid_math_bits_deBruijn32tab) (put 2 (litCells Rows.laid_math_bits_deBruijn64tab) w.heap)) }
theorem laid_met (os : Os) (args : Array Value) : laidMet Tryd.prog laidL ((laidWorld os).forCall (fun _ _ => 0) ⟨#[], args, []⟩).memory :=
 laidMet_of_run' 8 (by kernel_rfl) (by kernel_rfl)
end Go.Proofs.YtclollnicbcooaaDoor.Glob
end
