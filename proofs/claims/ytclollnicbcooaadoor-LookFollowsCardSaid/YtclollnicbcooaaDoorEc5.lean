/- Texts of this claim put together: LkQ, Px8, SRefV, Px9, Px10, Px2, Px11, Px12, Px13, Px14, Rf, Rf2, SFew, Pw, Pk, Pg, LkR, LkS, Lp0, Lwk, SBitIn, PureLookFollows, Glob. -/
import Derived.Test.YtclollnicbcooaaDoorEc3
import Derived.Test.YtclollnicbcooaaDoorEc4
import Derived.Test.YtclollnicbcooaaDoorEc0
import Derived.Test.YtclollnicbcooaaDoorEc1
import Derived.IntWalk
import Derived.Test.YtclollnicbcooaaDoorEc2
import Derived.OpenShut
import Derived.Test.YtclollnicbcooaaDoorRows
import Derived.Lib.LaidTab
import Derived.Lib.LaidU8
import Derived.ProofKit
import Derived.LaidLaws
import Derived.Handed
section
set_option linter.unusedVariables false
set_option linter.unusedSimpArgs false
namespace Go.Proofs.YtclollnicbcooaaDoor.P
open Go.RowKit Go.Lib Go.Sort Go.Proofs.YtclollnicbcooaaDoorW.PrintWords Go.Proofs.YtclollnicbcooaaDoorW.PrintLast Go.Proofs.YtclollnicbcooaaDoorW.PrintMore St Base Bitty

def holes (F : Spt → Int) (x : Spt) : Nat := ((List.range 64).filter fun b => !tb (F x) b).length
def cnt (U : List Spt) (F : Spt → Int) : Nat := (U.map (holes F)).sum
theorem holes_again {F G : Spt → Int} {x : Spt} (h : ∀ b, tb (F x) b = true → tb (G x) b = true) : (List.range 64).filter (fun b => !tb (G x) b) = ((List.range 64).filter (fun b => !tb (F x) b)).filter (fun b => !tb (G x) b) := by
 rw [List.filter_filter]
 congr 1
 funext b
 cases hg : tb (G x) b
 ·cases hf : tb (F x) b
  ·rfl
  ·rw [h b hf] at hg; cases hg
 ·simp
theorem holes_le {F G : Spt → Int} {x : Spt} (h : ∀ b, tb (F x) b = true → tb (G x) b = true) : holes G x ≤ holes F x := by
 unfold holes
 rw [holes_again h]
 exact List.length_filter_le _ _
theorem holes_lt {F G : Spt → Int} {x : Spt} {b : Nat} (h : ∀ b, tb (F x) b = true → tb (G x) b = true) (hb : b < 64) (h1 : tb (G x) b = true) (h0 : tb (F x) b = false) : holes G x < holes F x := by
 unfold holes
 rw [holes_again h]
 exact List.length_filter_lt_length_iff_exists.2 ⟨b, List.mem_filter.2 ⟨List.mem_range.2 hb, by rw [h0]; rfl⟩, by rw [h1]; simp⟩
theorem holes_64 (F : Spt → Int) (x : Spt) : holes F x ≤ 64 := by
 unfold holes
 exact Nat.le_trans (List.length_filter_le _ _) (by simp)
theorem cnt_cons (x : Spt) (U : List Spt) (F : Spt → Int) : cnt (x :: U) F = holes F x + cnt U F := by simp [cnt]
theorem cnt_64 (F : Spt → Int) : ∀ U : List Spt, cnt U F ≤ 64 * U.length
 | [] => by simp [cnt]
 | x :: U => by
  rw [cnt_cons, List.length_cons]
  have := holes_64 F x
  have := cnt_64 F U
  omega
theorem cnt_le {F G : Spt → Int} (h : ∀ x b, tb (F x) b = true → tb (G x) b = true) : ∀ U : List Spt, cnt U G ≤ cnt U F
 | [] => Nat.le_refl _
 | x :: U => by
  rw [cnt_cons, cnt_cons]
  have := holes_le (h x)
  have := cnt_le h U
  omega
theorem cnt_lt {F G : Spt → Int} (h : ∀ x b, tb (F x) b = true → tb (G x) b = true) {s : Spt} {b : Nat} (hb : b < 64) (h1 : tb (G s) b = true) (h0 : tb (F s) b = false) : ∀ U : List Spt, s ∈ U → cnt U G < cnt U F
 | [], hs => by cases hs
 | x :: U, hs => by
  rw [cnt_cons, cnt_cons]
  rcases List.mem_cons.1 hs with e | hs
  ·subst e
   have := holes_lt (h s) hb h1 h0
   have := cnt_le h U
   omega
  ·have := holes_le (h x)
   have := cnt_lt h hb h1 h0 U hs
   omega
theorem tb_64 {x : Int} (hx : ok x) {b : Nat} (h : tb x b = true) : b < 64 := by
 refine Classical.byContradiction fun hn => ?_
 have h1 : x.toNat < 2 ^ b := Nat.lt_of_lt_of_le (show x.toNat < 2 ^ 64 by have := hx.2; have := hx.1; omega) (Nat.pow_le_pow_right (by decide) (by omega))
 have h2 : x.toNat.testBit b = false := Nat.testBit_lt_two_pow h1
 have h3 : x.toNat.testBit b = true := h
 rw [h2] at h3
 cases h3
theorem tb_pos {x : Int} {b : Nat} (h : tb x b = true) : x ≠ 0 := fun e => by rw [e, tb_zero] at h; cases h

theorem more_is (U : List Spt) {F : Spt → Int} (q : List Spt) {s : Spt} {t : Int} (hF : ∀ x, ok (F x)) (ht : ok t) (hs : s ∈ U) :
  ∃ G q', moreL F q s t = (G, q') ∧ (∀ x, ok (G x)) ∧ (∀ x b, tb (G x) b = (tb (F x) b || (decide (x = s) && tb t b))) ∧ (∀ x ∈ q, x ∈ q') ∧ (∀ x ∈ q', x ∈ q ∨ x = s) ∧ (∀ x, x ∉ q' → G x = F x) ∧ cnt U G + q'.length ≤ cnt U F + q.length := by
 have ho := or_ok (hF s) ht
 have hb := or_tb (hF s) ht
 unfold moreL
 by_cases h : Go.bits .or .u64 (F s) t = F s
 ·rw [if_pos h]
  refine ⟨F, q, rfl, hF, fun x b => ?_, fun x hx => hx, fun x hx => .inl hx, fun x _ => rfl, Nat.le_refl _⟩
  by_cases hx : x = s
  ·subst hx
   have := hb b
   rw [h] at this
   rw [decide_eq_true rfl, Bool.true_and]
   exact this
  ·rw [decide_eq_false hx, Bool.false_and, Bool.or_false]
 ·rw [if_neg h]
  generalize Go.bits .or .u64 (F s) t = u at *
  have hG : ∀ x b, tb (upd F s u x) b = (tb (F x) b || (decide (x = s) && tb t b)) := fun x b => by
   by_cases hx : x = s
   ·subst hx
    rw [upd_same, hb, decide_eq_true rfl, Bool.true_and]
   ·rw [upd_other F u hx, decide_eq_false hx, Bool.false_and, Bool.or_false]
  have hle : ∀ x b, tb (F x) b = true → tb (upd F s u x) b = true := fun x b e => by rw [hG, e, Bool.true_or]
  refine ⟨upd F s u, q ++ [s], rfl, fun x => ?_, hG, fun x hx => List.mem_append_left _ hx, fun x hx => ?_, fun x hx => ?_, ?_⟩
  ·by_cases hx : x = s
   ·subst hx; rw [upd_same]; exact ho
   ·rw [upd_other F u hx]; exact hF x
  ·rcases List.mem_append.1 hx with hx | hx
   ·exact .inl hx
   ·exact .inr (List.mem_singleton.1 hx)
  ·exact upd_other F u fun e => hx (List.mem_append_right _ (List.mem_singleton.2 e))
  ·obtain ⟨b, h1, h0⟩ : ∃ b, tb u b = true ∧ tb (F s) b = false := Classical.byContradiction fun hn => h (Bitty.ext ho (hF s) fun b => by
    cases hu : tb u b
    ·cases hf : tb (F s) b
     ·rfl
     ·have := hb b
      rw [hu, hf] at this
      cases this
    ·cases hf : tb (F s) b
     ·exact absurd ⟨b, hu, hf⟩ hn
     ·rfl)
   have := cnt_lt hle (tb_64 ho h1) (by rw [upd_same]; exact h1) h0 U hs
   rw [List.length_append, List.length_singleton]
   omega

section
variable {ofF : List Int → Int → Option Int} {ed : Spt → Option (List Edg)} {I : Spt → Prop} {U : List Spt} {Z : Spt → Nat → Prop}
/-- What is asked of an edge. -/
def EdgeOk (ofF : List Int → Int → Option Int) (I : Spt → Prop) (Z : Spt → Nat → Prop) (s : Spt) (e : Edg) : Prop := I e.1 ∧ ∀ v, ok v → ∃ t, ofF e.2 v = some t ∧ ok t ∧ ((∀ b, tb v b = true → Z s b) → ∀ b, tb t b = true → Z e.1 b)
theorem fold_ok (hU : ∀ s, I s → s ∈ U) (hR : ∀ s, I s → rngS s) (s : Spt) : ∀ (es : List Edg) (F : Spt → Int) (q : List Spt), (∀ e ∈ es, EdgeOk ofF I Z s e) → (∀ x, ok (F x)) → (∀ x ∈ q, I x) → (∀ x b, tb (F x) b = true → Z x b) → cnt U F + q.length ≤ 1000000000 →
  ∃ G q', foldE ofF s es (F, q) = some (G, q') ∧ (∀ x, ok (G x)) ∧ (∀ x ∈ q', I x) ∧ (∀ x b, tb (G x) b = true → Z x b) ∧ cnt U G + q'.length ≤ cnt U F + q.length ∧ (∀ x ∈ q, x ∈ q') ∧ (∀ x b, tb (F x) b = true → tb (G x) b = true) ∧ (∀ x, x ∉ q' → G x = F x) ∧ (s ∉ q' → ∀ e ∈ es, ∀ t, ofF e.2 (F s) = some t → ∀ b, tb t b = true → tb (G e.1) b = true)
 | [], F, q, _, hF, hq, hZ, hc => ⟨F, q, rfl, hF, hq, hZ, Nat.le_refl _, fun _ h => h, fun _ _ h => h, fun _ _ => rfl, fun _ e he => by cases he⟩
 | e :: es, F, q, hE, hF, hq, hZ, hc => by
  obtain ⟨hI, hT⟩ := hE e (by simp)
  obtain ⟨t, ht, hto, htz⟩ := hT (F s) (hF s)
  obtain ⟨F1, q1, e1, hF1, hb1, hq1, hq1', hs1, hc1⟩ := more_is U q hF hto (hU _ hI)
  have hle1 : ∀ x b, tb (F x) b = true → tb (F1 x) b = true := fun x b h => by rw [hb1, h, Bool.true_or]
  have hZ1 : ∀ x b, tb (F1 x) b = true → Z x b := fun x b h => by
   rw [hb1, Bool.or_eq_true, Bool.and_eq_true] at h
   rcases h with h | ⟨hx, h⟩
   ·exact hZ x b h
   ·rw [of_decide_eq_true hx]
    exact htz (hZ s) b h
  obtain ⟨G, q', e2, hG, hqI, hZG, hcG, hqq, hle, hsame, hcl⟩ := fold_ok hU hR s es F1 q1 (fun x hx => hE x (by simp [hx])) hF1 (fun x hx => (hq1' x hx).elim (hq x) (fun e => by rw [e]; exact hI)) hZ1 (by omega)
  refine ⟨G, q', ?_, hG, hqI, hZG, by omega, fun x hx => hqq x (hq1 x hx), fun x b h => hle x b (hle1 x b h), fun x hx => (hsame x hx).trans (hs1 x fun h => hx (hqq x h)), fun hs e' he' t' ht' b hb => ?_⟩
  ·unfold foldE
   rw [if_pos ⟨hR _ hI, by simp only; omega⟩, ht, Option.bind_some]
   simp only [e1]
   exact e2
  ·rcases List.mem_cons.1 he' with rfl | he'
   ·rw [ht] at ht'
    obtain rfl := Option.some.inj ht'
    exact hle _ b (by rw [hb1, decide_eq_true rfl, Bool.true_and, hb, Bool.or_true])
   ·have hsF : F1 s = F s := hs1 s fun h => hs (hqq s h)
    exact hcl hs e' he' t' (by rw [hsF]; exact ht') b hb

/-- The queue comes to an end: what is ahead is closed then, and no more than it must be. -/
theorem queue_ok (hU : ∀ s, I s → s ∈ U) (hR : ∀ s, I s → rngS s) (hE : ∀ s, I s → ∃ es, ed s = some es ∧ es.length ≤ 1000000 ∧ ∀ e ∈ es, EdgeOk ofF I Z s e) : ∀ (k : Nat) (F : Spt → Int) (q : List Spt), (∀ x, ok (F x)) → (∀ x ∈ q, I x) → (∀ x b, tb (F x) b = true → Z x b) → cnt U F + q.length ≤ 1000000000 →
  (∀ x, I x → F x ≠ 0 → x ∉ q → ∀ es, ed x = some es → ∀ e ∈ es, ∀ t, ofF e.2 (F x) = some t → ∀ b, tb t b = true → tb (F e.1) b = true) → cnt U F + q.length < k →
  ∃ G, queueF ofF ed k (F, q) = some G ∧ (∀ x, ok (G x)) ∧ (∀ x b, tb (G x) b = true → Z x b) ∧ (∀ x b, tb (F x) b = true → tb (G x) b = true) ∧ (∀ x, I x → G x ≠ 0 → ∀ es, ed x = some es → ∀ e ∈ es, ∀ t, ofF e.2 (G x) = some t → ∀ b, tb t b = true → tb (G e.1) b = true)
 | 0, F, q, _, _, _, _, _, hk => absurd hk (by omega)
 | k + 1, F, [], hF, hq, hZ, hc, hcl, hk => ⟨F, rfl, hF, hZ, fun _ _ h => h, fun x hx h0 => hcl x hx h0 (by simp)⟩
 | k + 1, F, s :: q, hF, hq, hZ, hc, hcl, hk => by
  have hIs := hq s (by simp)
  obtain ⟨es, hes, hl, hok⟩ := hE s hIs
  rw [List.length_cons] at hc hk
  obtain ⟨F1, q1, e1, hF1, hq1, hZ1, hc1, hqq, hle, hsame, hcl1⟩ := fold_ok hU hR s es F q hok hF (fun x hx => hq x (by simp [hx])) hZ (by omega)
  obtain ⟨G, e2, hG, hZG, hleG, hclG⟩ := queue_ok hU hR hE k F1 q1 hF1 hq1 hZ1 (by omega) (fun x hx h0 hxq es' hes' e he t ht b hb => by
   have hxF : F1 x = F x := hsame x hxq
   by_cases hxs : x = s
   ·subst hxs
    rw [hes] at hes'
    obtain rfl := Option.some.inj hes'
    exact hcl1 hxq e he t (by rw [← hxF]; exact ht) b hb
   ·rw [hxF] at ht h0
    exact hle _ b (hcl x hx h0 (fun h => (List.mem_cons.1 h).elim hxs (fun h => hxq (hqq x h))) es' hes' e he t ht b hb)) (by omega)
  refine ⟨G, ?_, hG, hZG, fun x b h => hleG x b (hle x b h), hclG⟩
  rw [queueF]
  -- (the queue is told)
  rw [hes, Option.bind_some, if_pos ⟨hR s hIs, hl⟩, e1, Option.bind_some]
  exact e2
end
end Go.Proofs.YtclollnicbcooaaDoor.P
end

section
namespace Go.Proofs.YtclollnicbcooaaDoor.P
open Go.RowKit Go.Proofs.YtclollnicbcooaaDoorW.PrintWords Go.Proofs.YtclollnicbcooaaDoorW.PrintLast Go.Proofs.YtclollnicbcooaaDoorW.PrintMore
attribute [local go_sem] max2_int min2_int max_two min_two max_three min_three max_four min_four   -- for this text's walks alone
set_option linter.unusedVariables false
set_option linter.unusedSimpArgs false

/-! ### syntagmlaw14_Row: function 14 -/
def syntagmlaw14_Row.l0 : Nat → List (S37) → List (S39) → Int → Option ((List (S39)))
 | 0, _, _, _ => none
 | k + 1, x0, x3, x4 => if x4 < (x0.length : Int) then (if 0 ≤ x4 then (if x3.length < 8796093022208 then (syntagmlaw14_Row.l0 k x0 (x3 ++ [(⟨(rd_T37 x0 x4).f0, (rd_T37 x0 x4).f1⟩ : S39)]) (wrap64 (x4 + 1))) else (none)) else (none)) else (some x3)
def syntagmlaw14_Row.f (k : Nat) (l0 : List (S37)) : Option ((List (S39))) := syntagmlaw14_Row.l0 k l0 ([] : List (S39)) 0
def syntagmlaw14_Row.T5 : Bool × List (List Nat × List Nat) := (true, [([], []), ([], []), ([], []), ([1, 2], [1, 2]), ([3], [3]), ([4], [4]), ([], []), ([], []), ([6, 7], [6, 7]), ([8], [8]), ([9], [9]), ([5, 10], [5, 10]), ([11], [11]), ([0, 12], [0, 12]), ([13, 13, 0, 1, 2, 3, 4, 5, 6, 7, 8, 9, 10, 11, 12, 13], [0, 13])])
def syntagmlaw14_Row.B5 : List Nat := [0, 0, 0, 6, 14, 30, 0, 0, 192, 448, 960, 2046, 4094, 8191, 16383]
/-! ### syntagmref14_Right: function 37 -/
def syntagmref14_Right.f (l0_0 : List (S82)) (l0_1 : List (S101)) (l0_2 : List ByteArray) (l0_3 : List (S64)) (a0_4 : Int) (a1 : Int) : Option (List Int) := if a1 = (-1) then (some (([wrap64 ((-1) - a0_4)] : List Int))) else (if 0 ≤ a1 then (if a1 < (l0_3.length : Int) then (some ((rd_T64 l0_3 a1).f2)) else (none)) else (none))
end Go.Proofs.YtclollnicbcooaaDoor.P
end

section
set_option linter.unusedVariables false
set_option linter.unusedSimpArgs false
namespace Go.Proofs.YtclollnicbcooaaDoor.P
open Go.Proofs.YtclollnicbcooaaDoor.Base Go.RowKit Go.Proofs.YtclollnicbcooaaDoorW.PrintWords Go.Proofs.YtclollnicbcooaaDoorW.PrintLast Go.Proofs.YtclollnicbcooaaDoorW.PrintMore

def bad5 (l0 : List S82) (l2 : List ByteArray) (l3 : List S64) (st : Int) : Bool := decide (60 < l0.length) || decide (60 < l2.length) || decide (120 < l3.length) || decide (st < 0) || decide ((l2.length : Int) ≤ st)
section
variable {l0 : List S82} {l1 : List S101} {l2 : List ByteArray} {l3 : List S64} {st : Int}
theorem RisesTo.down {f : Int → ByteArray} {k n : Nat} (h : RisesTo f k) (hn : n ≤ k) : RisesTo f n := fun i h0 hi => h i h0 (by omega)
end
/-- As a printed function: the answer of symbols within what numbers there are. -/
def syntagmref12_Valid.f (l0 : List S82) (l1 : List S101) (l2 : List ByteArray) (l3 : List S64) (st : Int) : Option Bool :=
 if ∀ p ∈ l3, ∀ s ∈ p.f2, -9223372036854775808 ≤ s ∧ s ≤ 9223372036854775807 then some (validB l0 l1 l2 l3 st) else none
end Go.Proofs.YtclollnicbcooaaDoor.P
end

section
namespace Go.Proofs.YtclollnicbcooaaDoor.P
open Go.RowKit Go.Proofs.YtclollnicbcooaaDoorW.PrintWords Go.Proofs.YtclollnicbcooaaDoorW.PrintLast Go.Proofs.YtclollnicbcooaaDoorW.PrintMore
attribute [local go_sem] max2_int min2_int max_two min_two max_three min_three max_four min_four   -- for this text's walks alone
set_option linter.unusedVariables false
set_option linter.unusedSimpArgs false

/-! ### syntagmref14_Is: function 36 -/
def syntagmref14_Is.f (l0_0 : List (S82)) (l0_1 : List (S101)) (l0_2 : List ByteArray) (l0_3 : List (S64)) (a0_4 : Int) (a1_0 : Int) (a1_1 : Int) : Option (Bool) := (syntagmref12_Valid.f l0_0 l0_1 l0_2 l0_3 a0_4).bind fun t220 => (if t220 = true then (if a1_0 ≥ (-1) then (if a1_0 < (l0_3.length : Int) then (if a1_1 ≥ 0 then ((syntagmref14_Right.f l0_0 l0_1 l0_2 l0_3 a0_4 a1_0).bind fun t221 => (some (decide (a1_1 ≤ (t221.length : Int))))) else (some false)) else (some false)) else (some false)) else (some false))
def syntagmref14_Is.T2 : Bool × List (List Nat × List Nat) := (true, [([], []), ([0], [0]), ([1], [1]), ([2, 1], [1, 2]), ([3, 1], [1, 3]), ([1, 4], [1, 4]), ([5, 1], [5]), ([6], [6]), ([7, 6], [6, 7]), ([6], [6]), ([9, 6], [6, 9]), ([10, 6], [6, 10]), ([8, 11, 6], [6, 8, 11]), ([6, 12], [6, 12]), ([13, 6], [13]), ([14], [14]), ([15, 14], [14, 15]), ([16, 14], [14, 16]), ([14, 17], [14, 17]), ([18, 14], [18]), ([19], [19]), ([20, 19], [19, 20]), ([19], [19]), ([19], [19]), ([23, 19], [19, 23]), ([22, 24, 19, 19], [19, 22, 24]), ([25, 19], [19, 25]), ([21, 26, 19], [19, 21, 26]), ([19, 27], [19, 27]), ([28, 25, 0, 1, 2, 3, 4, 5, 6, 7, 8, 9, 10, 11, 12, 13, 14, 15, 16, 17, 18, 19, 20, 21, 22, 23, 24, 25, 26, 27, 28], [28])])
def syntagmref14_Is.B2 : List Nat := [0, 1, 3, 7, 15, 31, 63, 127, 255, 127, 639, 1663, 4095, 8191, 16383, 32767, 65535, 131071, 262143, 524287, 1048575, 2097151, 1048575, 1048575, 9437183, 30408703, 63963135, 134217727, 268435455, 536870911]
end Go.Proofs.YtclollnicbcooaaDoor.P
end

section
namespace Go.Proofs.YtclollnicbcooaaDoor.P
open Go.RowKit Go.Proofs.YtclollnicbcooaaDoorW.PrintWords Go.Proofs.YtclollnicbcooaaDoorW.PrintLast Go.Proofs.YtclollnicbcooaaDoorW.PrintMore
attribute [local go_sem] max2_int min2_int max_two min_two max_three min_three max_four min_four   -- for this text's walks alone
set_option linter.unusedVariables false
set_option linter.unusedSimpArgs false

/-! ### syntagmref14_Behind: function 16 -/
def syntagmref14_Behind.f (l0_0 : List (S82)) (l0_1 : List (S101)) (l0_2 : List ByteArray) (l0_3 : List (S64)) (a0_4 : Int) (a1_0 : Int) (a1_1 : Int) : Option (Int × Bool) := (syntagmref14_Is.f l0_0 l0_1 l0_2 l0_3 a0_4 a1_0 a1_1).bind fun t226 => (if t226 = true then ((syntagmref14_Right.f l0_0 l0_1 l0_2 l0_3 a0_4 a1_0).bind fun t227 => (if a1_1 ≥ (t227.length : Int) then (some (0, false)) else ((syntagmref14_Right.f l0_0 l0_1 l0_2 l0_3 a0_4 a1_0).bind fun t230 => (if 0 ≤ a1_1 then (if a1_1 < (t230.length : Int) then (some (rd t230 a1_1, true)) else (none)) else (none))))) else (some (0, false)))
def syntagmref14_Behind.T1 : Bool × List (List Nat × List Nat) := (true, [([], []), ([], []), ([0, 1], [0, 1]), ([2], [2]), ([3, 2], [3]), ([4], [4]), ([5, 4], [4, 5]), ([4], [4]), ([4], [4]), ([8, 4], [4, 8]), ([7, 9, 4, 4], [4, 7, 9]), ([10, 4], [4, 10]), ([6, 11, 4], [4, 6, 11]), ([4, 12], [4, 12])])
def syntagmref14_Behind.B1 : List Nat := [0, 0, 3, 7, 15, 31, 63, 31, 31, 287, 927, 1951, 4095, 8191]
def syntagmref14_Behind.T3 : Bool × List (List Nat × List Nat) := (true, [([], []), ([], []), ([1], [1]), ([0, 2], [0, 2]), ([], []), ([4], [4]), ([3, 5], [3, 5]), ([6], [6]), ([7, 3, 0, 1, 2, 3, 4, 5, 6, 7], [7]), ([8, 0, 1, 2, 3, 4, 5, 6, 7, 8], [])])
def syntagmref14_Behind.B3 : List Nat := [0, 0, 2, 7, 0, 16, 63, 127, 255, 511]
end Go.Proofs.YtclollnicbcooaaDoor.P
end

section
namespace Go.Proofs.YtclollnicbcooaaDoor.P
open Go.RowKit Go.Proofs.YtclollnicbcooaaDoorW.PrintWords Go.Proofs.YtclollnicbcooaaDoorW.PrintLast Go.Proofs.YtclollnicbcooaaDoorW.PrintMore
attribute [local go_sem] max2_int min2_int max_two min_two max_three min_three max_four min_four   -- for this text's walks alone
set_option linter.unusedVariables false
set_option linter.unusedSimpArgs false

theorem eqA39 (d : Nat) (w : World) (x0 y0 : Int) (x1 y1 : Int) :
  (Op.equalIn (d + 2) 39 (.agg #[.int .i64 x0, .int .i64 x1]) (.agg #[.int .i64 y0, .int .i64 y1])).run Tryd.prog w = .ok (x0 == y0 && (x1 == y1)) w := by
 refine eqA_of Tryd.underlying39 (by kernel_rfl) ?_
 refine eqf_cons (by rfl) (by go_simp; rfl) (by go_simp; rfl) (by go_simp) ?_
 exact eqf_last (by rfl) (by go_simp; rfl) (by go_simp; rfl) (by go_simp)
end Go.Proofs.YtclollnicbcooaaDoor.P
end

section
namespace Go.Proofs.YtclollnicbcooaaDoor.P
open Go.RowKit Go.Proofs.YtclollnicbcooaaDoorW.PrintWords Go.Proofs.YtclollnicbcooaaDoorW.PrintLast Go.Proofs.YtclollnicbcooaaDoorW.PrintMore
attribute [local go_sem] max2_int min2_int max_two min_two max_three min_three max_four min_four   -- for this text's walks alone
set_option linter.unusedVariables false
set_option linter.unusedSimpArgs false

attribute [local go_sem high] eqA39
/-! ### syntagmref14_Row: function 17 -/
def syntagmref14_Row.l0 : Nat → List (S39) → List (S39) → Int → Option (Bool)
 | 0, _, _, _ => none
 | k + 1, x0, x1, x5 => if x5 < (x0.length : Int) then (if 0 ≤ x5 then (if x5 < (x1.length : Int) then (if (!(((rd_T39 x0 x5).f0) == ((rd_T39 x1 x5).f0)) || (!(((rd_T39 x0 x5).f1) == ((rd_T39 x1 x5).f1)))) = true then (some false) else (syntagmref14_Row.l0 k x0 x1 (wrap64 (x5 + 1)))) else (none)) else (none)) else (some true)
def syntagmref14_Row.f (k : Nat) (l0 : List (S39)) (l1 : List (S39)) : Option (Bool) := if (l0.length : Int) = (l1.length : Int) then (syntagmref14_Row.l0 k l0 l1 0) else (some false)
/-! ### syntagmref14_has: function 39 -/
def syntagmref14_has.l0 : Nat → List (S39) → Int → Int → Int → Option (Bool)
 | 0, _, _, _, _ => none
 | k + 1, x0, x5, x237000, x237001 => if x5 < (x0.length : Int) then (if 0 ≤ x5 then (if (((rd_T39 x0 x5).f0) == x237000 && (((rd_T39 x0 x5).f1) == x237001)) = true then (some true) else (syntagmref14_has.l0 k x0 (wrap64 (x5 + 1)) x237000 x237001)) else (none)) else (some false)
def syntagmref14_has.f (k : Nat) (l0 : List (S39)) (a1_0 : Int) (a1_1 : Int) : Option (Bool) := syntagmref14_has.l0 k l0 0 a1_0 a1_1
/-! ### syntagmref14_less: function 69 -/
def syntagmref14_less.f (a0_0 : Int) (a0_1 : Int) (a1_0 : Int) (a1_1 : Int) : Option (Bool) := if a0_0 < a1_0 then (some true) else (if a0_0 = a1_0 then (some (decide (a0_1 < a1_1))) else (some false))
end Go.Proofs.YtclollnicbcooaaDoor.P
end

section
namespace Go.Proofs.YtclollnicbcooaaDoor.P
open Go.RowKit Go.Proofs.YtclollnicbcooaaDoorW.PrintWords Go.Proofs.YtclollnicbcooaaDoorW.PrintLast Go.Proofs.YtclollnicbcooaaDoorW.PrintMore
attribute [local go_sem] max2_int min2_int max_two min_two max_three min_three max_four min_four   -- for this text's walks alone
set_option linter.unusedVariables false
set_option linter.unusedSimpArgs false

/-! ### syntagmref14_rising: function 40 -/
mutual
def syntagmref14_rising.l0 : Nat → List (S39) → List (S39) → Int → Option ((List (S39)))
 | 0, _, _, _ => none
 | k + 1, x0, x3, x4 => if x4 < (x0.length : Int) then (syntagmref14_rising.l1 k x0 x3 x4 (-1) 0) else (some x3)
def syntagmref14_rising.l1 : Nat → List (S39) → List (S39) → Int → Int → Int → Option ((List (S39)))
 | 0, _, _, _, _, _ => none
 | k + 1, x0, x3, x4, x5, x6 => if x6 < (x0.length : Int) then (if 0 ≤ x6 then ((syntagmref14_has.f k x3 ((rd_T39 x0 x6).f0) ((rd_T39 x0 x6).f1)).bind fun t245 => (if t245 = true then (syntagmref14_rising.l1 k x0 x3 x4 x5 (wrap64 (x6 + 1))) else (if x5 < 0 then (syntagmref14_rising.l1 k x0 x3 x4 x6 (wrap64 (x6 + 1))) else (if 0 ≤ x5 then (if x5 < (x0.length : Int) then ((syntagmref14_less.f ((rd_T39 x0 x6).f0) ((rd_T39 x0 x6).f1) ((rd_T39 x0 x5).f0) ((rd_T39 x0 x5).f1)).bind fun t248 => (if t248 = true then (syntagmref14_rising.l1 k x0 x3 x4 x6 (wrap64 (x6 + 1))) else (syntagmref14_rising.l1 k x0 x3 x4 x5 (wrap64 (x6 + 1))))) else (none)) else (none))))) else (none)) else (if x5 ≥ 0 then (if 0 ≤ x5 then (if x5 < (x0.length : Int) then (if x3.length < 8796093022208 then (syntagmref14_rising.l0 k x0 (x3 ++ [(⟨(rd_T39 x0 x5).f0, (rd_T39 x0 x5).f1⟩ : S39)]) (wrap64 (x4 + 1))) else (none)) else (none)) else (none)) else (syntagmref14_rising.l0 k x0 x3 (wrap64 (x4 + 1))))
end
def syntagmref14_rising.f (k : Nat) (l0 : List (S39)) : Option ((List (S39))) := syntagmref14_rising.l0 k l0 ([] : List (S39)) 0
def syntagmref14_rising.T9 : Bool × List (List Nat × List Nat) := (true, [([], []), ([], []), ([], []), ([1, 2], [1, 2]), ([3], [3]), ([0, 4], [0, 4]), ([5], [5]), ([6, 5], [6]), ([7], [7]), ([8, 7], [7, 8]), ([9, 7, 7], [7, 9]), ([10], [10]), ([10], [10]), ([11, 12, 10], [10, 11, 12]), ([13, 10], [10, 13]), ([10], [10]), ([10], [10]), ([15, 16, 10], [10, 15, 16]), ([17, 10], [10, 17]), ([14, 18, 10, 10], [10, 14, 18]), ([10, 19, 7], [7, 10, 19]), ([7, 20], [7, 20])])
def syntagmref14_rising.B9 : List Nat := [0, 0, 0, 6, 14, 31, 63, 127, 255, 511, 1023, 2047, 2047, 8191, 16383, 2047, 2047, 100351, 231423, 524287, 1048575, 2097151]
end Go.Proofs.YtclollnicbcooaaDoor.P
end

section
namespace Go.Proofs.YtclollnicbcooaaDoor.P
open Go.RowKit Go.Proofs.YtclollnicbcooaaDoorW.PrintWords Go.Proofs.YtclollnicbcooaaDoorW.PrintLast Go.Proofs.YtclollnicbcooaaDoorW.PrintMore
attribute [local go_sem] max2_int min2_int max_two min_two max_three min_three max_four min_four   -- for this text's walks alone
set_option linter.unusedVariables false
set_option linter.unusedSimpArgs false

/-! ### syntagmref14_Close: function 19 -/
mutual
def syntagmref14_Close.l0 : Nat → List (S39) → List (S39) → Int → List (S82) → List (S101) → List ByteArray → List (S64) → Int → Option ((List (S39)))
 | 0, _, _, _, _, _, _, _, _ => none
 | k + 1, x1, x5, x6, x250000, x250001, x250002, x250003, x250004 => if x6 < (x1.length : Int) then (if 0 ≤ x6 then ((syntagmref14_Is.f x250000 x250001 x250002 x250003 x250004 ((rd_T39 x1 x6).f0) ((rd_T39 x1 x6).f1)).bind fun t251 => (if t251 = true then ((syntagmref14_has.f k x5 ((rd_T39 x1 x6).f0) ((rd_T39 x1 x6).f1)).bind fun t253 => (if t253 = true then (syntagmref14_Close.l0 k x1 x5 (wrap64 (x6 + 1)) x250000 x250001 x250002 x250003 x250004) else (if x5.length < 8796093022208 then (syntagmref14_Close.l0 k x1 (x5 ++ [(⟨(rd_T39 x1 x6).f0, (rd_T39 x1 x6).f1⟩ : S39)]) (wrap64 (x6 + 1)) x250000 x250001 x250002 x250003 x250004) else (none)))) else (syntagmref14_Close.l0 k x1 x5 (wrap64 (x6 + 1)) x250000 x250001 x250002 x250003 x250004))) else (none)) else (syntagmref14_Close.l1 k x5 0 x250000 x250001 x250002 x250003 x250004)
def syntagmref14_Close.l1 : Nat → List (S39) → Int → List (S82) → List (S101) → List ByteArray → List (S64) → Int → Option ((List (S39)))
 | 0, _, _, _, _, _, _, _ => none
 | k + 1, x5, x7, x250000, x250001, x250002, x250003, x250004 => if x7 < (x5.length : Int) then (if 0 ≤ x7 then ((syntagmref14_Behind.f x250000 x250001 x250002 x250003 x250004 ((rd_T39 x5 x7).f0) ((rd_T39 x5 x7).f1)).bind fun bt262 => (syntagmref14_Close.l2 k x5 x7 bt262.1 bt262.2 0 x250000 x250001 x250002 x250003 x250004)) else (none)) else ((syntagmref14_rising.f k x5).bind fun t258 => (some t258))
def syntagmref14_Close.l2 : Nat → List (S39) → Int → Int → Bool → Int → List (S82) → List (S101) → List ByteArray → List (S64) → Int → Option ((List (S39)))
 | 0, _, _, _, _, _, _, _, _, _, _ => none
 | k + 1, x5, x7, x8, x9, x10, x250000, x250001, x250002, x250003, x250004 => if x10 < (x250003.length : Int) then (if x9 = true then (syntagmref14_Close.j3 k x5 x7 x8 x9 x10 (decide (x8 < 0)) x250000 x250001 x250002 x250003 x250004) else (syntagmref14_Close.j3 k x5 x7 x8 x9 x10 false x250000 x250001 x250002 x250003 x250004)) else (syntagmref14_Close.j3 k x5 x7 x8 x9 x10 false x250000 x250001 x250002 x250003 x250004)
def syntagmref14_Close.j3 : Nat → List (S39) → Int → Int → Bool → Int → Bool → List (S82) → List (S101) → List ByteArray → List (S64) → Int → Option ((List (S39)))
 | 0, _, _, _, _, _, _, _, _, _, _, _ => none
 | k + 1, x5, x7, x8, x9, x10, x66, x250000, x250001, x250002, x250003, x250004 => if x66 = true then (if 0 ≤ x10 then (if x10 < (x250003.length : Int) then (if ((rd_T64 x250003 x10).f1) = (wrap64 ((-1) - x8)) then ((syntagmref14_has.f k x5 x10 0).bind fun t266 => (if t266 = true then (syntagmref14_Close.l2 k x5 x7 x8 x9 (wrap64 (x10 + 1)) x250000 x250001 x250002 x250003 x250004) else (if x5.length < 8796093022208 then (syntagmref14_Close.l2 k (x5 ++ [(⟨x10, 0⟩ : S39)]) x7 x8 x9 (wrap64 (x10 + 1)) x250000 x250001 x250002 x250003 x250004) else (none)))) else (syntagmref14_Close.l2 k x5 x7 x8 x9 (wrap64 (x10 + 1)) x250000 x250001 x250002 x250003 x250004)) else (none)) else (none)) else (syntagmref14_Close.l1 k x5 (wrap64 (x7 + 1)) x250000 x250001 x250002 x250003 x250004)
end
def syntagmref14_Close.f (k : Nat) (l0_0 : List (S82)) (l0_1 : List (S101)) (l0_2 : List ByteArray) (l0_3 : List (S64)) (a0_4 : Int) (l1 : List (S39)) : Option ((List (S39))) := syntagmref14_Close.l0 k l1 ([] : List (S39)) 0 l0_0 l0_1 l0_2 l0_3 a0_4
def syntagmref14_Close.T5 : Bool × List (List Nat × List Nat) := (true, [([], []), ([], []), ([], []), ([1, 2], [1, 2]), ([3], [3]), ([0, 4], [0, 4]), ([5, 5], [5]), ([6], [6]), ([6], [6]), ([6], [6]), ([8, 9, 6], [6, 8, 9]), ([10, 6], [6, 10]), ([7, 11, 6, 6], [6, 7, 11]), ([12, 6], [6, 12]), ([6, 13], [6, 13])])
def syntagmref14_Close.B5 : List Nat := [0, 0, 0, 6, 14, 31, 63, 127, 127, 127, 895, 1919, 4095, 8191, 16383]
def syntagmref14_Close.T10 : Bool × List (List Nat × List Nat) := (true, [([], []), ([], []), ([], []), ([1, 2], [1, 2]), ([3], [3]), ([0, 4], [0, 4]), ([5], [5]), ([6], [6]), ([6], [6]), ([7, 5, 0, 1, 2, 3, 4, 5, 6, 7], [7]), ([8, 9, 0, 1, 2, 3, 4, 5, 6, 7, 8, 9], [8])])
def syntagmref14_Close.B10 : List Nat := [0, 0, 0, 6, 14, 31, 63, 127, 127, 255, 1023]
end Go.Proofs.YtclollnicbcooaaDoor.P
end

section
namespace Go.Proofs.YtclollnicbcooaaDoor.P
open Go.RowKit Go.Proofs.YtclollnicbcooaaDoorW.PrintWords Go.Proofs.YtclollnicbcooaaDoorW.PrintLast Go.Proofs.YtclollnicbcooaaDoorW.PrintMore
attribute [local go_sem] max2_int min2_int max_two min_two max_three min_three max_four min_four   -- for this text's walks alone
set_option linter.unusedVariables false
set_option linter.unusedSimpArgs false

/-! ### syntagmref14_Step: function 21 -/
def syntagmref14_Step.l0 : Nat → Int → List (S39) → List (S39) → Int → List (S82) → List (S101) → List ByteArray → List (S64) → Int → Option ((List (S39)))
 | 0, _, _, _, _, _, _, _, _, _ => none
 | k + 1, x2, x7, x8, x9, x271000, x271001, x271002, x271003, x271004 => if x9 < (x8.length : Int) then (if 0 ≤ x9 then ((syntagmref14_Behind.f x271000 x271001 x271002 x271003 x271004 ((rd_T39 x8 x9).f0) ((rd_T39 x8 x9).f1)).bind fun bt275 => (if bt275.2 = true then (if bt275.1 = x2 then (if x7.length < 8796093022208 then (syntagmref14_Step.l0 k x2 (x7 ++ [(⟨(rd_T39 x8 x9).f0, wrap64 (((rd_T39 x8 x9).f1) + 1)⟩ : S39)]) x8 (wrap64 (x9 + 1)) x271000 x271001 x271002 x271003 x271004) else (none)) else (syntagmref14_Step.l0 k x2 x7 x8 (wrap64 (x9 + 1)) x271000 x271001 x271002 x271003 x271004)) else (syntagmref14_Step.l0 k x2 x7 x8 (wrap64 (x9 + 1)) x271000 x271001 x271002 x271003 x271004))) else (none)) else ((syntagmref14_rising.f k x7).bind fun t282 => (some t282))
def syntagmref14_Step.f (k : Nat) (l0_0 : List (S82)) (l0_1 : List (S101)) (l0_2 : List ByteArray) (l0_3 : List (S64)) (a0_4 : Int) (l1 : List (S39)) (a2 : Int) : Option ((List (S39))) := (syntagmref14_Close.f k l0_0 l0_1 l0_2 l0_3 a0_4 l1).bind fun t271 => (syntagmref14_Step.l0 k a2 ([] : List (S39)) t271 0 l0_0 l0_1 l0_2 l0_3 a0_4)
def syntagmref14_Step.T6 : Bool × List (List Nat × List Nat) := (true, [([], []), ([], []), ([], []), ([1, 2], [1, 2]), ([3], [3]), ([0, 4], [0, 4]), ([5], [5]), ([6], [6]), ([6], [6]), ([7, 5, 0, 1, 2, 3, 4, 5, 6, 7], [7]), ([8, 9, 0, 1, 2, 3, 4, 5, 6, 7, 8, 9], [8])])
def syntagmref14_Step.B6 : List Nat := [0, 0, 0, 6, 14, 31, 63, 127, 127, 255, 1023]
def syntagmref14_Step.T8 : Bool × List (List Nat × List Nat) := (true, [([], []), ([], []), ([], []), ([1, 2], [1, 2]), ([3], [3]), ([4], [4]), ([], []), ([], []), ([6, 7], [6, 7]), ([8], [8]), ([9], [9]), ([10], [10]), ([5, 11], [5, 11]), ([12], [12]), ([0, 13], [0, 13]), ([14, 14, 0, 1, 2, 3, 4, 5, 6, 7, 8, 9, 10, 11, 12, 13, 14], [0, 14])])
def syntagmref14_Step.B8 : List Nat := [0, 0, 0, 6, 14, 30, 0, 0, 192, 448, 960, 1984, 4094, 8190, 16383, 32767]
end Go.Proofs.YtclollnicbcooaaDoor.P
end

section
set_option linter.unusedVariables false
set_option linter.unusedSimpArgs false
set_option linter.unusedSectionVars false
namespace Go.Proofs.YtclollnicbcooaaDoor.P
open Go.RowKit Go.Proofs.YtclollnicbcooaaDoorW.PrintWords Go.Proofs.YtclollnicbcooaaDoorW.PrintLast Go.Proofs.YtclollnicbcooaaDoorW.PrintMore St

def toJ (x : S39) : Itm := (x.f0, x.f1)
def ofJ (x : Itm) : S39 := ⟨x.1, x.2⟩
theorem wrap_up (i : Nat) (h : i < 9223372036854775807) : wrap64 ((i : Int) + 1) = ((i + 1 : Nat) : Int) := by unfold wrap64; omega

def AtR (l : List S39) (a : Int) (r : Option Itm) : Prop := (a = -1 ∧ r = none) ∨ ∃ (j : Nat) (h : j < l.length), a = (j : Int) ∧ r = some (toJ l[j])
section
variable {l0 : List S82} {l1 : List S101} {l2 : List ByteArray} {l3 : List S64} {st : Int} (h : Fits l2 l3 st) (hv : validB l0 l1 l2 l3 st = true) (hr : ∀ p ∈ l3, ∀ s ∈ p.f2, -9223372036854775808 ≤ s ∧ s ≤ 9223372036854775807)
include h hv hr
end
end Go.Proofs.YtclollnicbcooaaDoor.P
end

section
set_option linter.unusedVariables false
set_option linter.unusedSimpArgs false
set_option linter.unusedSectionVars false
namespace Go.Proofs.YtclollnicbcooaaDoor.P
open Go.RowKit Go.Proofs.YtclollnicbcooaaDoorW.PrintWords Go.Proofs.YtclollnicbcooaaDoorW.PrintLast Go.Proofs.YtclollnicbcooaaDoorW.PrintMore St

section
variable {l0 : List S82} {l1 : List S101} {l2 : List ByteArray} {l3 : List S64} {st : Int} (h : Fits l2 l3 st) (hv : validB l0 l1 l2 l3 st = true) (hr : ∀ p ∈ l3, ∀ s ∈ p.f2, -9223372036854775808 ≤ s ∧ s ≤ 9223372036854775807)
include h hv hr
end

/-! ### of a grammar that may not be -/
section
variable {l0 : List S82} {l1 : List S101} {l2 : List ByteArray} {l3 : List S64} {st : Int} (hv : validB l0 l1 l2 l3 st = false) (hr : ∀ p ∈ l3, ∀ s ∈ p.f2, -9223372036854775808 ≤ s ∧ s ≤ 9223372036854775807)
include hv hr
end
end Go.Proofs.YtclollnicbcooaaDoor.P
end

section
set_option linter.unusedVariables false
set_option linter.unusedSimpArgs false
namespace Go.Proofs.YtclollnicbcooaaDoor.P
open Go.RowKit Go.Proofs.YtclollnicbcooaaDoorW.PrintWords Go.Proofs.YtclollnicbcooaaDoorW.PrintLast Go.Proofs.YtclollnicbcooaaDoorW.PrintMore

theorem few_end (l0 : List S82) (l1 : List S101) (l2 : List ByteArray) (l3 : List S64) (st : Int) (k : Nat) (i : Int) :
  ∃ b, syntagmlaw13_Few.j1 (k + 1) i false l0 l1 l2 l3 st = some b ∧ (b = true → l0.length ≤ 10 ∧ l2.length ≤ 8 ∧ l3.length ≤ 14 ∧ l1.length ≤ 30) := by
 unfold syntagmlaw13_Few.j1
 rw [if_neg (by decide)]
 split
 ·split
  ·split
   ·exact ⟨_, rfl, fun h => by have := of_decide_eq_true h; omega⟩
   ·exact ⟨_, rfl, fun h => by cases h⟩
  ·exact ⟨_, rfl, fun h => by cases h⟩
 ·exact ⟨_, rfl, fun h => by cases h⟩

theorem few_l0 (l0 : List S82) (l1 : List S101) (l2 : List ByteArray) (l3 : List S64) (st : Int) : ∀ (m i : Nat), i + m = 15 → ∀ k, 2 * m + 2 ≤ k →
  ∃ b, syntagmlaw13_Few.l0 k i l0 l1 l2 l3 st = some b ∧ (b = true → l0.length ≤ 10 ∧ l2.length ≤ 8 ∧ l3.length ≤ 14 ∧ l1.length ≤ 30)
 | m, i, hi, 0, hk => by omega
 | m, i, hi, 1, hk => by omega
 | 0, i, hi, k + 2, hk => by
  unfold syntagmlaw13_Few.l0
  have e : decide ((i : Int) < 15) = false := decide_eq_false (by omega)
  rw [e]
  split
  ·exact few_end l0 l1 l2 l3 st k i
  ·exact few_end l0 l1 l2 l3 st k i
 | m + 1, i, hi, k + 2, hk => by
  unfold syntagmlaw13_Few.l0
  have e : decide ((i : Int) < 15) = true := decide_eq_true (by omega)
  rw [e]
  split
  ·unfold syntagmlaw13_Few.j1
   rw [if_pos rfl, if_pos (by omega), if_pos (by assumption)]
   split
   ·exact ⟨_, rfl, fun h => by cases h⟩
   ·have w : wrap64 ((i : Int) + 1) = ((i + 1 : Nat) : Int) := by unfold wrap64; omega
    rw [w]
    exact few_l0 l0 l1 l2 l3 st m (i + 1) (by omega) k (by omega)
  ·exact few_end l0 l1 l2 l3 st k i

theorem few_is (l0 : List S82) (l1 : List S101) (l2 : List ByteArray) (l3 : List S64) (st : Int) (k : Nat) (hk : 32 ≤ k) :
  ∃ b, syntagmlaw13_Few.f k l0 l1 l2 l3 st = some b ∧ (b = true → l0.length ≤ 10 ∧ l2.length ≤ 8 ∧ l3.length ≤ 14 ∧ l1.length ≤ 30) :=
 few_l0 l0 l1 l2 l3 st 15 0 rfl k (by omega)

end Go.Proofs.YtclollnicbcooaaDoor.P
end

section
set_option linter.unusedVariables false
set_option linter.unusedSimpArgs false
set_option linter.unusedSectionVars false
namespace Go.Proofs.YtclollnicbcooaaDoor.P
open Go.RowKit Go.Proofs.YtclollnicbcooaaDoorW.PrintWords Go.Proofs.YtclollnicbcooaaDoorW.PrintLast Go.Proofs.YtclollnicbcooaaDoorW.PrintMore St

theorem i64_range {x : Int} (h : (Lit.int .i64 x).wf = true) : -9223372036854775808 ≤ x ∧ x ≤ 9223372036854775807 := by
 have := bounds_i64 h
 omega
theorem prods_range {x : S27} (h : wf27 x) : ∀ p ∈ x.f3, ∀ s ∈ p.f2, -9223372036854775808 ≤ s ∧ s ≤ 9223372036854775807 :=
 fun p hp s hs => i64_range ((h.2.2.2.1.2 p hp).2.2.1.2 s hs)
theorem okP_of {l3 : List S64} (hr : ∀ p ∈ l3, ∀ s ∈ p.f2, -9223372036854775808 ≤ s ∧ s ≤ 9223372036854775807) : l3.all okP = true :=
 List.all_eq_true.2 fun p hp => List.all_eq_true.2 fun s hs => decide_eq_true (hr p hp s hs).1
theorem rngI_okI {l : List Itm} (h : ∀ x ∈ l, rngI x) : (l.map ofI).all okI = true :=
 List.all_eq_true.2 fun x hx => by
  obtain ⟨y, hy, rfl⟩ := List.mem_map.1 hx
  exact decide_eq_true (h y hy)

/-! ### the program and the document -/
section
variable {l0 : List S82} {l1 : List S101} {l2 : List ByteArray} {l3 : List S64} {st : Int} (hr : ∀ p ∈ l3, ∀ s ∈ p.f2, -9223372036854775808 ≤ s ∧ s ≤ 9223372036854775807)
include hr
theorem close_ok (hv : validB l0 l1 l2 l3 st = true) (l : List S37) (hl : l.length ≤ 1000000) (hok : l.all okI = true) : states_Close.f l0 l1 l2 l3 st l = some ((risen (closedL (gr st l3) (l.map toI))).map ofI) := by
 unfold states_Close.f inst_Valid.f states_closed.f
 rw [hv, Option.bind_some, if_pos rfl, if_pos ⟨rfl, okP_of hr, hl, hok⟩, Option.bind_some]
omit hr in
theorem Behind_ok (hv : validB l0 l1 l2 l3 st = true) (a b : Int) : states_Behind.f l0 l1 l2 l3 st a b = some (match behindL (gr st l3) (a, b) with | some s => (s, true) | none => (0, false)) := by
 unfold states_Behind.f inst_Valid.f
 rw [hv, Option.bind_some, if_pos rfl, behind_is (fits_of hv), Option.bind_some]
 cases behindL (gr st l3) (a, b) <;> rfl
/-- The automaton is built, or has too many states. -/
theorem build_ok (hv : validB l0 l1 l2 l3 st = true) : (∃ R, builtL l0.length l2.length (gr st l3) = some R ∧ states_Build.f l0 l1 l2 l3 st = some (outB R)) := by
 obtain ⟨R, hR⟩ := buildL_ends (Sg (gr st l3)) (symsL l0.length l2.length) 2000 2001 2003 0 [[(-1, 0)]] [] (by omega) (by omega) (by simp)
 refine ⟨R, hR, ?_⟩
 unfold states_Build.f
 rw [if_pos hv, if_pos (okP_of hr)]
 show Option.map outB (builtL l0.length l2.length (gr st l3)) = _
 unfold builtL
 rw [hR]
 rfl
omit hr in
theorem build_not (hv : validB l0 l1 l2 l3 st = false) : states_Build.f l0 l1 l2 l3 st = some ([], [], 1) := by
 unfold states_Build.f
 rw [hv, if_neg (by decide)]
end
theorem built_is {T S : Nat} {g : Gr} {K : List (List Itm)} {N : List (List Int)} (h : builtL T S g = some (some (K, N))) : Built (Sg g) (symsL T S) [(-1, 0)] K N ∧ N.length = K.length :=
 buildL_is (Sg g) (symsL T S) 2000 [(-1, 0)] 2003 [[(-1, 0)]] [] (K, N) (Built.start _ _ _) h
theorem symsL_at (T S j : Nat) (h : j < T + S) : (symsL T S)[j]? = some (if T ≤ j then -1 - ((j : Int) - T) else (j : Int)) := by
 unfold symsL
 by_cases hT : j < T
 ·rw [List.getElem?_append_left (by simpa using hT), List.getElem?_map, List.getElem?_range hT, if_neg (by omega)]
  rfl
 ·rw [List.getElem?_append_right (by simpa using Nat.le_of_not_lt hT), List.length_map, List.length_range, List.getElem?_map, List.getElem?_range (by omega), if_pos (by omega), Option.map_some]
  congr 1
  omega
end Go.Proofs.YtclollnicbcooaaDoor.P
end

section
set_option linter.unusedVariables false
set_option linter.unusedSimpArgs false
namespace Go.Proofs.YtclollnicbcooaaDoor.P
open Go.RowKit Go.Proofs.YtclollnicbcooaaDoorW.PrintWords Go.Proofs.YtclollnicbcooaaDoorW.PrintLast Go.Proofs.YtclollnicbcooaaDoorW.PrintMore St

end Go.Proofs.YtclollnicbcooaaDoor.P
end

section
set_option linter.unusedVariables false
set_option linter.unusedSimpArgs false
set_option linter.unusedSectionVars false
namespace Go.Proofs.YtclollnicbcooaaDoor.P
open Go.RowKit Go.Proofs.YtclollnicbcooaaDoorW.PrintWords Go.Proofs.YtclollnicbcooaaDoorW.PrintLast Go.Proofs.YtclollnicbcooaaDoorW.PrintMore St

theorem little_l0 (x3 : Bool) (l0 : List S82) (l1 : List S101) (l2 : List ByteArray) (l3 : List S64) (st : Int) : ∀ (m i : Nat), i + m = 15 → ∃ b, Ev (fun k => syntagmlaw14_Little.l0 k x3 i l0 l1 l2 l3 st) b
 | 0, i, hi => by
  refine ⟨if x3 = true then decide ((l3.length : Int) ≤ 10) else false, ?_⟩
  have hj : Ev (fun k => syntagmlaw14_Little.j1 k x3 i false l0 l1 l2 l3 st) (if x3 = true then decide ((l3.length : Int) ≤ 10) else false) := by
   refine Ev.step (f := fun _ => some (if x3 = true then decide ((l3.length : Int) ≤ 10) else false)) (fun k => ?_) (Ev.now _)
   rw [syntagmlaw14_Little.j1, if_neg (by decide)]
   split <;> rfl
  refine Ev.step (fun k => ?_) hj
  rw [syntagmlaw14_Little.l0, decide_eq_false (by omega)]
  split <;> rfl
 | m + 1, i, hi => by
  have hw := wrap_up i (by omega)
  by_cases hlt : i < l3.length
  ·by_cases h5 : (((rd_T64 l3 (i : Int)).f2).length : Int) > 5
   ·refine ⟨false, ?_⟩
    have hj : Ev (fun k => syntagmlaw14_Little.j1 k x3 i true l0 l1 l2 l3 st) false := by
     refine Ev.step (f := fun _ => some false) (fun k => ?_) (Ev.now _)
     rw [syntagmlaw14_Little.j1, if_pos rfl, if_pos (by omega), if_pos (by omega), if_pos h5]
    refine Ev.step (fun k => ?_) hj
    rw [syntagmlaw14_Little.l0, if_pos (by omega), decide_eq_true (by omega)]
   ·obtain ⟨b, ih⟩ := little_l0 x3 l0 l1 l2 l3 st m (i + 1) (by omega)
    refine ⟨b, ?_⟩
    have hj : Ev (fun k => syntagmlaw14_Little.j1 k x3 i true l0 l1 l2 l3 st) b := by
     refine Ev.step (fun k => ?_) ih
     rw [syntagmlaw14_Little.j1, if_pos rfl, if_pos (by omega), if_pos (by omega), if_neg h5, hw]
    refine Ev.step (fun k => ?_) hj
    rw [syntagmlaw14_Little.l0, if_pos (by omega), decide_eq_true (by omega)]
  ·refine ⟨if x3 = true then decide ((l3.length : Int) ≤ 10) else false, ?_⟩
   have hj : Ev (fun k => syntagmlaw14_Little.j1 k x3 i false l0 l1 l2 l3 st) (if x3 = true then decide ((l3.length : Int) ≤ 10) else false) := by
    refine Ev.step (f := fun _ => some (if x3 = true then decide ((l3.length : Int) ≤ 10) else false)) (fun k => ?_) (Ev.now _)
    rw [syntagmlaw14_Little.j1, if_neg (by decide)]
    split <;> rfl
   refine Ev.step (fun k => ?_) hj
   rw [syntagmlaw14_Little.l0, if_neg (by omega)]
theorem little_ev (l0 : List S82) (l1 : List S101) (l2 : List ByteArray) (l3 : List S64) (st : Int) : ∃ b, Ev (fun k => syntagmlaw14_Little.f k l0 l1 l2 l3 st) b := by
 obtain ⟨b0, hf, -⟩ := few_is l0 l1 l2 l3 st 32 (Nat.le_refl _)
 obtain ⟨b, hb⟩ := little_l0 b0 l0 l1 l2 l3 st 15 0 rfl
 refine ⟨b, ?_⟩
 unfold syntagmlaw14_Little.f
 exact Ev.bind (f := fun k t => syntagmlaw14_Little.l0 k t 0 l0 l1 l2 l3 st) (Ev.of (fun k => syntagmlaw13_Few.mono _ _ _ _ _ k) hf) hb

theorem rdL17 (N : List (List Int)) (i : Nat) (h : i < N.length) : rd_L17 N (i : Int) = N[i] := by
 unfold rd_L17
 rw [Int.toNat_natCast, List.getD_eq_getElem?_getD, List.getElem?_eq_getElem h]
 rfl
theorem rd_at (l : List Int) (i : Nat) {v : Int} (h : l[i]? = some v) : Go.Proofs.YtclollnicbcooaaDoorW.PrintWords.rd l (i : Int) = v := by
 unfold Go.Proofs.YtclollnicbcooaaDoorW.PrintWords.rd
 rw [Int.toNat_natCast, List.getD_eq_getElem?_getD, h]
 rfl
section
variable {l0 : List S82} {l1 : List S101} {l2 : List ByteArray} {l3 : List S64} {st : Int} (hv : validB l0 l1 l2 l3 st = true) (hr : ∀ p ∈ l3, ∀ s ∈ p.f2, -9223372036854775808 ≤ s ∧ s ≤ 9223372036854775807)
include hv
theorem behind_sym {x : Itm} {t : Int} (hr : ∀ p ∈ l3, ∀ s ∈ p.f2, -9223372036854775808 ≤ s ∧ s ≤ 9223372036854775807) (hb : behindL (gr st l3) x = some t) : -(l2.length : Int) ≤ t ∧ t < l0.length := by
 have hF := fits_of hv
 unfold behindL at hb
 cases hq : rightL (gr st l3) x.1 with
 | none => rw [hq] at hb; cases hb
 | some r =>
  rw [hq] at hb
  simp only at hb
  split at hb
  ·rename_i hx
   injection hb with hb
   have hm : t ∈ r := by
    rw [← hb, List.getD_eq_getElem?_getD, List.getElem?_eq_getElem (by omega)]
    exact List.getElem_mem _
   unfold rightL at hq
   rw [gr_len] at hq
   split at hq
   ·injection hq with hq
    rw [← hq] at hm
    have hm := List.mem_singleton.1 hm
    have h1 := hF.lo; have h2 := hF.hi
    have e : (gr st l3).start = st := rfl
    rw [e] at hm
    omega
   ·split at hq
    ·rename_i h1 h2
     rw [gr_at st l3 x.1 h2.1 h2.2] at hq
     injection hq with hq
     rw [← hq] at hm
     have hin : (rd_T64 l3 x.1) ∈ l3 := by
      unfold rd_T64
      rw [List.getD_eq_getElem?_getD, List.getElem?_eq_getElem (by omega)]
      exact List.getElem_mem _
     have hv2 := hv
     unfold validB at hv2
     simp only [Bool.and_eq_true] at hv2
     have hp := List.all_eq_true.1 hv2.1.1.1.2 _ hin
     unfold prodB at hp
     simp only [Bool.and_eq_true, Bool.not_eq_true'] at hp
     have ho := List.any_eq_false.1 hp.2 t hm
     have hrt := hr _ hin t hm
     have hw : IntKind.i64.wrap (-1 - t) = -1 - t := IntWalk.i64_in _ (by omega)
     unfold oddB inB at ho
     rw [hw] at ho
     simp only [Bool.or_eq_true, Bool.and_eq_true, Bool.not_eq_true', decide_eq_true_eq, Bool.and_eq_false_iff, decide_eq_false_iff_not, not_or, not_and] at ho
     omega
    ·cases hq
  ·cases hb
theorem Sg_none {c : List Itm} {s : Int} (h : ∀ x, behindL (gr st l3) x ≠ some s) : Sg (gr st l3) c s = [] := by
 have e : stepL (gr st l3) (risen (closedL (gr st l3) c)) s = [] := by
  unfold stepL
  rw [List.filterMap_eq_nil_iff]
  intro x _
  rw [if_neg (h x)]
 unfold Sg
 rw [e]
 refine List.eq_nil_iff_forall_not_mem.2 fun x hx => ?_
 have := ((risen_is []).mem x).1 hx
 cases this
theorem built_small {K : List (List Itm)} {N : List (List Int)} (h : Built (Sg (gr st l3)) (symsL l0.length l2.length) [(-1, 0)] K N) : ∀ c ∈ K, c.length ≤ 1562 ∧ ∀ x ∈ c, rngI x := by
 intro c hc
 obtain ⟨j, hj, rfl⟩ := List.mem_iff_getElem.1 hc
 have hx : K[j]? = some K[j] := List.getElem?_eq_getElem hj
 by_cases h0 : j = 0
 ·subst h0
  have := h.first
  rw [hx] at this
  rw [Option.some.inj this]
  refine ⟨by simp, fun x hx => ?_⟩
  rw [List.mem_singleton] at hx
  subst hx
  unfold rngI
  simp only
  omega
 ·obtain ⟨i, d, s, _, _, _, _, e⟩ := h.come j _ hx h0
  rw [e]
  exact Sg_small (fits_of hv) d s
/-- Where it goes. -/
theorem go_is (hr : ∀ p ∈ l3, ∀ s ∈ p.f2, -9223372036854775808 ≤ s ∧ s ≤ 9223372036854775807) {K : List (List Itm)} {N : List (List Int)} (h : Built (Sg (gr st l3)) (symsL l0.length l2.length) [(-1, 0)] K N) {i : Nat} (hi : i < N.length) {c : List Itm} (hc : K[i]? = some c) (s : Int) (hs : -9223372036854775808 ≤ s ∧ s ≤ 9223372036854775807) (Ka : List (List S37)) :
  ∃ q, states_Go.f l0 l1 l2 l3 st Ka N i s = some q ∧ NumOf K (Sg (gr st l3) c s) q := by
 have hT := terms_few hv
 have hS := (fits_of hv).sorts
 obtain ⟨row, hrow, hlen, hg⟩ := h.goes i c hi hc
 rw [symsL_len] at hlen
 have hri : rd_L17 N (i : Int) = row := by
  rw [rdL17 N i hi]
  rw [List.getElem?_eq_getElem hi] at hrow
  exact Option.some.inj hrow
 have nope : (s < -(l2.length : Int) ∨ (l0.length : Int) ≤ s) → NumOf K (Sg (gr st l3) c s) (-1) := fun hn => .inl ⟨Sg_none hv (fun x hx => by have := behind_sym hv hr hx; omega), rfl⟩
 unfold states_Go.f
 rw [hri]
 have hw1 : wrap64 ((-1) - s) = if s < 0 then -1 - s else -1 - s := by
  rw [IntWalk.wrap64_in _ (by omega)]
  split <;> rfl
 by_cases hs0 : s < 0
 ·rw [if_pos hs0, IntWalk.wrap64_in ((-1) - s) (by omega), if_neg (by omega), if_neg (by omega)]
  by_cases hq : -(l2.length : Int) ≤ s
  ·have hw : wrap64 ((l0.length : Int) + (-1 - s)) = (l0.length : Int) + (-1 - s) := IntWalk.wrap64_in _ (by omega)
   obtain ⟨j, hj⟩ : ∃ j : Nat, (l0.length : Int) + (-1 - s) = j := ⟨((l0.length : Int) + (-1 - s)).toNat, by omega⟩
   have hsy := symsL_at l0.length l2.length j (by omega)
   rw [if_pos (by omega), show (-1 - ((j : Int) - l0.length)) = s by omega] at hsy
   obtain ⟨n, hn, hnum⟩ := hg j s hsy
   rw [hw, hj, if_neg (by omega), if_pos (by omega), if_pos (by omega), if_neg (by omega), if_pos (by omega), if_pos (by omega), rd_at row j hn]
   exact ⟨n, rfl, hnum⟩
  ·refine ⟨-1, ?_, nope (.inl (by omega))⟩
   by_cases hw0 : wrap64 ((l0.length : Int) + (-1 - s)) < 0
   ·rw [if_pos hw0]
   ·have hge : wrap64 ((l0.length : Int) + (-1 - s)) ≥ (row.length : Int) := by
     unfold wrap64 at hw0 ⊢
     omega
    rw [if_neg hw0, if_pos (by omega), if_pos (by omega), if_pos hge]
 ·rw [if_neg hs0]
  by_cases hq : s ≥ (l0.length : Int)
  ·rw [if_pos hq]
   exact ⟨-1, rfl, nope (.inr (by omega))⟩
  ·obtain ⟨j, hj⟩ : ∃ j : Nat, s = j := ⟨s.toNat, by omega⟩
   have hsy := symsL_at l0.length l2.length j (by omega)
   rw [if_neg (by omega), ← hj] at hsy
   obtain ⟨n, hn, hnum⟩ := hg j s hsy
   rw [if_neg hq, if_neg (by omega), if_neg (by omega), if_pos (by omega), if_pos (by omega), if_neg (by omega), if_pos (by omega), if_pos (by omega), hj, rd_at row j hn]
   exact ⟨n, rfl, by rw [← hj]; exact hnum⟩
end
end Go.Proofs.YtclollnicbcooaaDoor.P
end

section
set_option linter.unusedVariables false
set_option linter.unusedSimpArgs false
set_option linter.unusedSectionVars false
namespace Go.Proofs.YtclollnicbcooaaDoor.P
open Go.RowKit Go.Lib Go.Sort Go.Proofs.YtclollnicbcooaaDoorW.PrintWords Go.Proofs.YtclollnicbcooaaDoorW.PrintLast Go.Proofs.YtclollnicbcooaaDoorW.PrintMore St Base Bitty

section
variable {l0 : List S82} {l1 : List S101} {l2 : List ByteArray} {l3 : List S64} {st : Int}
theorem sg_has (hv : validB l0 l1 l2 l3 st = true) (c : List Itm) (s : Int) (x : Itm) : x ∈ Sg (gr st l3) c s ↔ Sp (gr st l3) (Cl (gr st l3) (· ∈ c)) s x := by
 unfold Sg
 rw [(risen_is _).mem, stepL_mem]
 have hR := closedL_rise (fits_of hv) c
 exact ⟨fun ⟨y, h1, h2⟩ => ⟨y, (hR.mem y).1 h1, h2⟩, fun ⟨y, h1, h2⟩ => ⟨y, (hR.mem y).2 h1, h2⟩⟩
theorem rightF_is (hv : validB l0 l1 l2 l3 st = true) {p : Int} {r : List Int} (h : rightL (gr st l3) p = some r) : rightF st l3 p = some r := by
 unfold rightL at h
 unfold rightF
 split at h
 ·rename_i hp
  rw [if_pos (by omega), wrap_start (fits_of hv)]
  exact h
 ·split at h
  ·rename_i hp
   rw [gr_len] at hp
   rw [if_neg (by omega), if_pos (by omega)]
   rw [gr_at st l3 p hp.1 hp.2] at h
   exact h
  ·cases h
theorem behind_right {g : Gr} {x : Itm} {sym : Int} (h : behindL g x = some sym) : ∃ r, rightL g x.1 = some r ∧ 0 ≤ x.2 ∧ x.2 < r.length ∧ r = r.take x.2.toNat ++ sym :: r.drop (x.2.toNat + 1) := by
 unfold behindL at h
 cases hr : rightL g x.1 with
 | none => rw [hr] at h; cases h
 | some r =>
  rw [hr] at h
  simp only at h
  split at h
  ·rename_i hx
   injection h with h
   refine ⟨r, rfl, hx.1, hx.2, ?_⟩
   have hlt : x.2.toNat < r.length := by omega
   rw [List.getD_eq_getElem?_getD, List.getElem?_eq_getElem hlt, Option.getD_some] at h
   rw [← h, List.getElem_cons_drop, List.take_append_drop]
  ·cases h
/-- An edge of an item of a state. -/
def isEdge (l3 : List S64) (st : Int) (K : List (List Itm)) (n : Nat) (c : List Itm) (x : Itm) (e : Edg) : Prop := ∃ sym r, behindL (gr st l3) x = some sym ∧ rightL (gr st l3) x.1 = some r ∧ ((∃ t : Nat, K[t]? = some (Sg (gr st l3) c sym) ∧ e = (((t : Int), (x.1, x.2 + 1)), [])) ∨ (sym < 0 ∧ ∃ p : Nat, p < l3.length ∧ (rd_T64 l3 p).f1 = -1 - sym ∧ e = (((n : Int), ((p : Int), 0)), r.drop (x.2.toNat + 1))))
theorem sortsE_mem (i sym : Int) (r : List Int) (m : Nat) (e : Edg) (hs : -60 ≤ sym ∧ sym < 0) : e ∈ sortsE l3 i sym r m ↔ ∃ p : Nat, p < m ∧ (rd_T64 l3 p).f1 = -1 - sym ∧ e = ((i, ((p : Int), 0)), r) := by
 unfold sortsE
 rw [List.mem_map]
 constructor
 ·rintro ⟨p, hp, rfl⟩
  obtain ⟨h1, h2⟩ := List.mem_filter.1 hp
  rw [beq_iff_eq, wrap_neg hs.1 hs.2] at h2
  exact ⟨p, List.mem_range.1 h1, h2, rfl⟩
 ·rintro ⟨p, hp, h2, rfl⟩
  refine ⟨p, List.mem_filter.2 ⟨List.mem_range.2 hp, ?_⟩, rfl⟩
  rw [beq_iff_eq, wrap_neg hs.1 hs.2]
  exact h2
theorem edges_is (hv : validB l0 l1 l2 l3 st = true) (hr : ∀ p ∈ l3, ∀ s ∈ p.f2, -9223372036854775808 ≤ s ∧ s ≤ 9223372036854775807) {K : List (List Itm)} {N : List (List Int)} (hB : Built (Sg (gr st l3)) (symsL l0.length l2.length) [(-1, 0)] K N) (hN : N.length = K.length) {n : Nat} {c : List Itm} (hc : K[n]? = some c) {x : Itm} (hx : Cl (gr st l3) (· ∈ c) x) (Ka : List (List S37)) :
  ∃ es, edgesF l0 l1 l2 l3 st Ka N ((n : Int), x) = some es ∧ es.length ≤ 1000000 ∧ ∀ e, e ∈ es ↔ isEdge l3 st K n c x e := by
 have hF := fits_of hv
 unfold edgesF
 simp only
 rw [Behind_ok hv, Option.bind_some]
 cases hb : behindL (gr st l3) (x.1, x.2) with
 | none =>
  simp only
  refine ⟨[], by simp, by simp, fun e => ⟨fun h => (by cases h), fun ⟨sym, r, h, _⟩ => ?_⟩⟩
  rw [show (x.1, x.2) = x from rfl, h] at hb
  cases hb
 | some sym =>
  simp only
  replace hb : behindL (gr st l3) x = some sym := hb
  have hsy := behind_sym hv hr hb
  have hS := hF.sorts
  obtain ⟨hlo, hhi⟩ := behind_short hF hb
  obtain ⟨hlt, _⟩ := List.getElem?_eq_some_iff.1 hc
  have hT := terms_few hv
  obtain ⟨q, hq, hnum⟩ := go_is hv hr hB (by omega : n < N.length) hc sym (by omega) Ka
  obtain ⟨r, hrr, h0, h1, h2⟩ := behind_right hb
  have hin : (x.1, x.2 + 1) ∈ Sg (gr st l3) c sym := (sg_has hv c sym _).2 ⟨x, hx, hb, rfl⟩
  have hw : IntKind.i64.wrap (x.2 + 1) = x.2 + 1 := IntWalk.i64_in _ (by omega)
  rcases hnum with ⟨e0, _⟩ | ⟨_, t, rfl, ht⟩
  ·rw [e0] at hin; cases hin
  ·rw [if_pos trivial, hq, Option.bind_some, hw]
   have hone : ∀ t' : Nat, K[t']? = some (Sg (gr st l3) c sym) → t' = t := fun t' h => nodup_at hB.apart h ht
   by_cases hn : sym < 0
   ·have hrest : restF st l3 x = some (r.drop (x.2.toNat + 1)) := by
     unfold restF
     rw [if_pos h0, rightF_is hv hrr, Option.bind_some, if_pos (by omega)]
    rw [if_pos hn, hrest]
    refine ⟨_, rfl, ?_, fun e => ?_⟩
    ·rw [List.length_cons]
     have h3 : (sortsE l3 (n : Int) sym (r.drop (x.2.toNat + 1)) l3.length).length ≤ l3.length := by
      unfold sortsE
      rw [List.length_map]
      exact Nat.le_trans (List.length_filter_le _ _) (by simp)
     have := hF.few
     omega
    ·rw [List.mem_cons, sortsE_mem _ _ _ _ _ ⟨by omega, hn⟩]
     constructor
     ·rintro (rfl | ⟨p, hp, h3, rfl⟩)
      ·exact ⟨sym, r, hb, hrr, .inl ⟨t, ht, rfl⟩⟩
      ·exact ⟨sym, r, hb, hrr, .inr ⟨hn, p, hp, h3, rfl⟩⟩
     ·rintro ⟨sym', r', hb', hrr', h⟩
      rw [hb] at hb'
      rw [hrr] at hrr'
      obtain rfl := Option.some.inj hb'
      obtain rfl := Option.some.inj hrr'
      rcases h with ⟨t', ht', rfl⟩ | ⟨_, p, hp, h3, rfl⟩
      ·exact .inl (by rw [hone t' ht'])
      ·exact .inr ⟨p, hp, h3, rfl⟩
   ·rw [if_neg hn]
    refine ⟨_, rfl, by simp, fun e => ?_⟩
    rw [List.mem_singleton]
    constructor
    ·rintro rfl
     exact ⟨sym, r, hb, hrr, .inl ⟨t, ht, rfl⟩⟩
    ·rintro ⟨sym', r', hb', hrr', h⟩
     rw [hb] at hb'
     obtain rfl := Option.some.inj hb'
     rcases h with ⟨t', ht', rfl⟩ | ⟨h3, _⟩
     ·rw [hone t' ht']
     ·exact absurd h3 hn

/-- Ahead of an item there is no more than this. -/
def mayBe (l0 : List S82) (l2 : List ByteArray) (l3 : List S64) (st : Int) (s : Spt) (b : Nat) : Prop := (s.2.1 = -1 → b = 63) ∧ (0 ≤ s.2.1 → tb (rd (wR l0 l2 l3 st) (rd_T64 l3 s.2.1).f1) b = true)
theorem mayBe_edge (h : Order l0 l1 l2 l3 st) {K : List (List Itm)} {n : Nat} {c : List Itm} {x : Itm} (hx : isI (gr st l3) x = true) {e : Edg} (he : isEdge l3 st K n c x e) {v : Int} (hv : ok v) (hz : ∀ b, tb v b = true → mayBe l0 l2 l3 st ((n : Int), x) b) (b : Nat) (hb : tb (oR l0 l2 l3 e.2 v) b = true) : mayBe l0 l2 l3 st e.1 b := by
 obtain ⟨sym, r, h1, h2, he⟩ := he
 rcases he with ⟨t, _, rfl⟩ | ⟨hn, p, hp, h3, rfl⟩
 ·simp only at hb
  rw [oR_nil h v hv] at hb
  exact hz b hb
 ·simp only at hb
  refine ⟨fun hq => by simp only at hq; omega, fun _ => ?_⟩
  simp only
  rw [h3]
  obtain ⟨r', hr', h0, hl, hcut⟩ := behind_right h1
  rw [h2] at hr'
  obtain rfl := Option.some.inj hr'
  unfold rightL at h2
  split at h2
  ·rename_i hq
   injection h2 with h2
   have hx0 : x.2 = 0 := by rw [← h2] at hl; simp at hl; omega
   rw [← h2, hx0] at hb hcut
   have hd : (List.drop ((0 : Int).toNat + 1) [-1 - (gr st l3).start]) = [] := rfl
   rw [hd, oR_nil h v hv] at hb
   have hsym : -1 - st = sym := by simpa [gr] using hcut
   have := (hz b hb).1 hq
   subst this
   rw [← hsym, show (-1 - (-1 - st)) = st by omega]
   exact folR_start h.gram (fR_ok h) h.lo h.hi
  ·split at h2
   ·rename_i hq
    rw [gr_len] at hq
    rw [gr_at st l3 x.1 hq.1 hq.2] at h2
    injection h2 with h2
    simp only at h2
    have hin : (rd_T64 l3 x.1) ∈ l3 := by
     unfold rd_T64
     rw [List.getD_eq_getElem?_getD, List.getElem?_eq_getElem (by omega)]
     exact List.getElem_mem _
    rw [(oR_has h _ v hv).2.2] at hb
    refine folR_closed h.gram (fR_ok h) _ hin _ sym _ (by rw [h2]; exact hcut) hn b ?_
    exact rowB_mono _ _ _ _ _ _ v _ b (fun _ h => h) (fun _ h => h) (fun h4 => (hz b h4).2 hq.1) _ hb
   ·cases h2

/-- A row of a state: its items, and what is ahead of each. -/
def rowOf (g : Gr) (F : Spt → Int) (i : Nat) (c : List Itm) : S74 := ⟨(risen (closedL g c)).map ofI, (risen (closedL g c)).map fun x => F ((i : Int), x)⟩
theorem out_is (hv : validB l0 l1 l2 l3 st = true) (hr : ∀ p ∈ l3, ∀ s ∈ p.f2, -9223372036854775808 ≤ s ∧ s ≤ 9223372036854775807) (F : Spt → Int) : ∀ (K : List (List Itm)) (i : Nat), (∀ c ∈ K, c.length ≤ 1562 ∧ ∀ x ∈ c, rngI x) → i + K.length ≤ 1000000 → outF (states_Close.f l0 l1 l2 l3 st) F i (K.map (·.map ofI)) = some (K.mapIdx fun j c => rowOf (gr st l3) F (i + j) c)
 | [], i, _, _ => rfl
 | c :: K, i, hs, hi => by
  obtain ⟨h1, h2⟩ := hs c (by simp)
  rw [List.length_cons] at hi
  have hC := close_ok hr hv (c.map ofI) (by rw [List.length_map]; omega) (rngI_okI h2)
  rw [map_toI_ofI] at hC
  have hsm := closed_small (fits_of hv) c
  rw [List.map_cons, outF, hC, Option.bind_some, if_pos]
  ·rw [out_is hv hr F K (i + 1) (fun c hc => hs c (by simp [hc])) (by omega), Option.map_some, List.mapIdx_cons]
   congr 2
   ·unfold rowOf
    rw [List.map_map, Nat.add_zero]
    rfl
   ·congr 1
    funext j c
    rw [show i + 1 + j = i + (j + 1) by omega]
  ·refine ⟨fun x hx => ?_, by rw [List.length_map]; omega⟩
   obtain ⟨y, hy, rfl⟩ := List.mem_map.1 hx
   rw [toI_ofI]
   have := isI_rng (fits_of hv) (cl_is _ _ _ ((closedL_rise (fits_of hv) c).mem y |>.1 hy))
   unfold rngS rngN rngI
   simp only
   omega

/-- The spots of an automaton. -/
def Sp0 (l3 : List S64) (st : Int) (K : List (List Itm)) (s : Spt) : Prop := ∃ (n : Nat) (c : List Itm), K[n]? = some c ∧ Cl (gr st l3) (· ∈ c) s.2 ∧ s.1 = (n : Int)
theorem edge_spot (hv : validB l0 l1 l2 l3 st = true) {K : List (List Itm)} {n : Nat} {c : List Itm} (hc : K[n]? = some c) {x : Itm} (hx : Cl (gr st l3) (· ∈ c) x) {e : Edg} (he : isEdge l3 st K n c x e) : Sp0 l3 st K e.1 := by
 obtain ⟨sym, r, h1, h2, he⟩ := he
 rcases he with ⟨t, ht, rfl⟩ | ⟨hn, p, hp, h3, rfl⟩
 ·have hin : (x.1, x.2 + 1) ∈ Sg (gr st l3) c sym := (sg_has hv c sym _).2 ⟨x, hx, h1, rfl⟩
  have h4 := (sg_has hv c sym _).1 hin
  refine ⟨t, _, ht, .base _ hin ?_, rfl⟩
  obtain ⟨r', hr', h0, hl, _⟩ := behind_right h1
  unfold isI
  simp only
  rw [hr']
  exact decide_eq_true ⟨by omega, by omega⟩
 ·refine ⟨n, c, hc, .next x _ hx ?_, rfl⟩
  unfold nexts
  rw [h1]
  simp only
  rw [if_pos hn]
  refine List.mem_filterMap.2 ⟨p, List.mem_range.2 (by rw [gr_len]; exact hp), ?_⟩
  have := gr_at st l3 (p : Int) (by omega) (by omega)
  rw [Int.toNat_natCast] at this
  rw [this]
  simp only
  rw [if_pos h3]

theorem rows_is (h : Order l0 l1 l2 l3 st) (hr : ∀ p ∈ l3, ∀ s ∈ p.f2, -9223372036854775808 ≤ s ∧ s ≤ 9223372036854775807) {K : List (List Itm)} {N : List (List Int)} (hB : Built (Sg (gr st l3)) (symsL l0.length l2.length) [(-1, 0)] K N) (hN : N.length = K.length) (hK : K.length ≤ 2003) :
  ∃ k F, look_rows.f k l0 l1 l2 l3 st (K.map (·.map ofI)) N = some (K.mapIdx fun j c => rowOf (gr st l3) F j c) ∧ (∀ x, ok (F x)) ∧ (∀ s b, tb (F s) b = true → mayBe l0 l2 l3 st s b) ∧ tb (F beg0) 63 = true ∧
   (∀ (n : Nat) (c : List Itm) (x : Itm) (e : Edg), K[n]? = some c → Cl (gr st l3) (· ∈ c) x → F ((n : Int), x) ≠ 0 → isEdge l3 st K n c x e → ∀ b, tb (oR l0 l2 l3 e.2 (F ((n : Int), x))) b = true → tb (F e.1) b = true) := by
 have hv := h.valid
 have hF := fits_of hv
 obtain ⟨U, hUd⟩ : ∃ U : List Spt, U = (List.range K.length).flatMap fun (i : Nat) => (allI (gr st l3)).map fun x => ((i : Int), x) := ⟨_, rfl⟩
 have hUl : U.length ≤ 2003 * 1562 := by
  rw [hUd, List.length_flatMap]
  have : (List.map (fun i : Nat => ((allI (gr st l3)).map fun x => (((i : Int), x) : Spt)).length) (List.range K.length)) = List.replicate K.length (allI (gr st l3)).length := by
   apply List.ext_getElem
   ·simp
   ·intro i h1 h2; simp
  rw [this, List.sum_replicate_nat]
  exact Nat.mul_le_mul hK (allI_len hF)
 have hU : ∀ s, Sp0 l3 st K s → s ∈ U := fun s ⟨n, c, hc, hx, he⟩ => by
  obtain ⟨hlt, _⟩ := List.getElem?_eq_some_iff.1 hc
  rw [hUd]
  exact List.mem_flatMap.2 ⟨n, List.mem_range.2 hlt, List.mem_map.2 ⟨s.2, allI_has _ _ (cl_is _ _ _ hx), by rw [← he]⟩⟩
 have hR : ∀ s, Sp0 l3 st K s → rngS s := fun s ⟨n, c, hc, hx, he⟩ => by
  obtain ⟨hlt, _⟩ := List.getElem?_eq_some_iff.1 hc
  have := isI_rng hF (cl_is _ _ _ hx)
  unfold rngS rngN rngI
  omega
 have hE : ∀ s, Sp0 l3 st K s → ∃ es, edgesF l0 l1 l2 l3 st (K.map (·.map ofI)) N s = some es ∧ es.length ≤ 1000000 ∧ ∀ e ∈ es, EdgeOk (sets_Of.f 61 l0 l1 l2 l3 st) (Sp0 l3 st K) (mayBe l0 l2 l3 st) s e := fun s ⟨n, c, hc, hx, he⟩ => by
  obtain ⟨i, x⟩ := s
  simp only at he hx
  subst he
  obtain ⟨es, h1, h2, h3⟩ := edges_is hv hr hB hN hc hx (K.map (·.map ofI))
  refine ⟨es, h1, h2, fun e he => ⟨edge_spot hv hc hx ((h3 e).1 he), fun v hvv => ⟨_, Of_is h e.2 v hvv 61 (Nat.le_refl _), (oR_has h e.2 v hvv).2.1, fun hz => mayBe_edge h (cl_is _ _ _ hx) ((h3 e).1 he) hvv hz⟩⟩⟩
 have hbeg : Sp0 l3 st K beg0 := ⟨0, [(-1, 0)], hB.first, .base _ (List.mem_singleton.2 rfl) rfl, rfl⟩
 have h63 : ok ((2 ^ 63 : Nat) : Int) := bit_ok 63 (by omega) (by omega)
 obtain ⟨F0, q0, e0, hF0, hb0, -, hq0, hs0, hc0⟩ := more_is U (F := fun _ => 0) [] (s := beg0) (fun _ => ok_zero) h63 (hU _ hbeg)
 have hcz := cnt_64 (fun _ => 0) U
 simp only [List.length_nil, Nat.add_zero] at hc0
 have hF63 : tb (F0 beg0) 63 = true := by rw [hb0, bit_tb]; simp
 obtain ⟨F, hq, hFo, hFz, hFl, hFc⟩ := queue_ok hU hR hE 300000000 F0 q0 hF0 (fun x hx => by rcases hq0 x hx with h1 | rfl; cases h1; exact hbeg) (fun x b hb => by
  rw [hb0, tb_zero, Bool.false_or, Bool.and_eq_true, bit_tb] at hb
  have h1 := of_decide_eq_true hb.1
  have h2 : 63 = b := of_decide_eq_true hb.2
  subst h1
  subst h2
  exact ⟨fun _ => rfl, fun h3 => by simp only [beg0] at h3; omega⟩) (by omega) (fun x hx h0 hxq => by
  have := hs0 x hxq
  exact absurd this h0) (by omega)
 have hmo : ∀ m l b, LeO (sets_Of.f 61 l0 l1 l2 l3 st l b) (sets_Of.f (61 + m) l0 l1 l2 l3 st l b) := fun m l b => by
  induction m with
  | zero => exact fun r hr => hr
  | succ m ih => exact fun r hr => sets_Of.mono _ _ _ _ _ _ _ _ _ (ih r hr)
 have hqm : ∀ {f g : List Int → Int → Option Int} (hfg : ∀ l b, LeO (f l b) (g l b)) (ed : Spt → Option (List Edg)) (k : Nat) (Z : (Spt → Int) × List Spt), LeO (queueF f ed k Z) (queueF g ed k Z) := by
  intro f g hfg ed k
  induction k with
  | zero => exact fun Z r hr => hr
  | succ k ih =>
   rintro ⟨F, q⟩ r hr
   cases q with
   | nil => exact hr
   | cons s q =>
    rw [queueF] at hr ⊢
    -- (the queue is told)
    obtain ⟨es, he, hr⟩ := Option.bind_eq_some_iff.1 hr
    refine Option.bind_eq_some_iff.2 ⟨es, he, ?_⟩
    split at hr
    ·rename_i hg
     rw [if_pos hg]
     obtain ⟨Z, hZ, hr⟩ := Option.bind_eq_some_iff.1 hr
     exact Option.bind_eq_some_iff.2 ⟨Z, foldE_mono hfg s es _ _ hZ, ih Z r hr⟩
    ·cases hr
 refine ⟨300000000, F, ?_, hFo, hFz, hFl _ _ hF63, fun n c x e hc hx h0 he b hb => ?_⟩
 ·unfold look_rows.f
  rw [if_pos ⟨by rw [List.length_map]; omega, by have := hF.few; omega⟩, of_one 300000000 (by omega) 63 (by omega) (by omega), Option.bind_some, show Int.toNat 63 = 63 from rfl, e0]
  have h5 := hqm (fun l b => hmo (300000000 - 61) l b) _ _ _ _ hq
  rw [show 61 + (300000000 - 61) = 300000000 from rfl] at h5
  rw [h5, Option.bind_some, out_is hv hr F K 0 (built_small hv hB) (by omega)]
  simp only [Nat.zero_add]
 ·obtain ⟨es, h1, h2, h3⟩ := edges_is hv hr hB hN hc hx (K.map (·.map ofI))
  exact hFc ((n : Int), x) ⟨n, c, hc, hx, rfl⟩ h0 es h1 e ((h3 e).2 he) _ (Of_is h e.2 _ (hFo _) 61 (Nat.le_refl _)) b hb
end
end Go.Proofs.YtclollnicbcooaaDoor.P
end

section
set_option linter.unusedVariables false
set_option linter.unusedSimpArgs false
set_option linter.unusedSectionVars false
namespace Go.Proofs.YtclollnicbcooaaDoor.P
open Go.RowKit Go.Lib Go.Sort Go.Proofs.YtclollnicbcooaaDoorW.PrintWords Go.Proofs.YtclollnicbcooaaDoorW.PrintLast Go.Proofs.YtclollnicbcooaaDoorW.PrintMore St Base Bitty

section
variable {l0 : List S82} {l1 : List S101} {l2 : List ByteArray} {l3 : List S64} {st : Int} {K : List (List Itm)} {N : List (List Int)} {F : Spt → Int}
theorem nexts_in {y x : Itm} (h : x ∈ nexts (gr st l3) y) : ∃ sym, ∃ p : Nat, behindL (gr st l3) y = some sym ∧ sym < 0 ∧ p < l3.length ∧ (rd_T64 l3 p).f1 = -1 - sym ∧ x = ((p : Int), 0) := by
 unfold nexts at h
 split at h
 ·rename_i sym hb
  split at h
  ·rename_i hn
   obtain ⟨p, hp, hq⟩ := List.mem_filterMap.1 h
   rw [List.mem_range, gr_len] at hp
   have := gr_at st l3 (p : Int) (by omega) (by omega)
   rw [Int.toNat_natCast] at this
   rw [this] at hq
   simp only at hq
   split at hq
   ·rename_i hs
    injection hq with hq
    exact ⟨sym, p, hb, hn, hp, hs, hq.symm⟩
   ·cases hq
  ·cases h
 ·cases h
theorem behind_whole : behindL (gr st l3) (-1, 0) = some (-1 - st) := by simp [behindL, rightL, gr]
theorem behind_last : behindL (gr st l3) (-1, 1) = none := by simp [behindL, rightL, gr]
/-- Where the production that is one more stands. -/
theorem minus_items (hv : validB l0 l1 l2 l3 st = true) (hB : Built (Sg (gr st l3)) (symsL l0.length l2.length) [(-1, 0)] K N) : ∀ (n : Nat) (c : List Itm) (x : Itm), K[n]? = some c → Cl (gr st l3) (· ∈ c) x → x.1 = -1 → (n = 0 ∧ x = (-1, 0)) ∨ (n ≠ 0 ∧ c = Sg (gr st l3) [(-1, 0)] (-1 - st) ∧ x = (-1, 1)) := by
 intro n
 induction n using Nat.strongRecOn with
 | _ n ih =>
  intro c x hc hx hm
  cases hx with
  | base _ hin hi =>
   by_cases h0 : n = 0
   ·subst h0
    rw [hB.first] at hc
    obtain rfl := Option.some.inj hc
    exact .inl ⟨rfl, List.mem_singleton.1 hin⟩
   ·obtain ⟨i, d, s, hij, _, hd, hs, e⟩ := hB.come n c hc h0
    rw [e] at hin
    obtain ⟨y, hy, hb, rfl⟩ := (sg_has hv d s _).1 hin
    rcases ih i hij d y hd hy hm with ⟨rfl, rfl⟩ | ⟨_, _, rfl⟩
    ·rw [hB.first] at hd
     obtain rfl := Option.some.inj hd
     rw [behind_whole] at hb
     obtain rfl := Option.some.inj hb
     exact .inr ⟨h0, e, rfl⟩
    ·rw [behind_last] at hb
     cases hb
  | next y _ _ hy =>
   obtain ⟨_, p, _, _, _, _, rfl⟩ := nexts_in hy
   simp only at hm
   omega

variable (h : Order l0 l1 l2 l3 st) (hB : Built (Sg (gr st l3)) (symsL l0.length l2.length) [(-1, 0)] K N) (hFo : ∀ x, ok (F x)) (hFz : ∀ s b, tb (F s) b = true → mayBe l0 l2 l3 st s b) (hF0 : tb (F beg0) 63 = true)
 (hFc : ∀ (n : Nat) (c : List Itm) (x : Itm) (e : Edg), K[n]? = some c → Cl (gr st l3) (· ∈ c) x → F ((n : Int), x) ≠ 0 → isEdge l3 st K n c x e → ∀ b, tb (oR l0 l2 l3 e.2 (F ((n : Int), x))) b = true → tb (F e.1) b = true)
include h hB hFo hFz hF0 hFc
/-- Ahead of the whole is End, and that alone. -/
theorem ahead_minus (n : Nat) (c : List Itm) (x : Itm) (hc : K[n]? = some c) (hx : Cl (gr st l3) (· ∈ c) x) (hm : x.1 = -1) : F ((n : Int), x) = ((2 ^ 63 : Nat) : Int) := by
 have hv := h.valid
 have h63 : tb (F ((n : Int), x)) 63 = true := by
  rcases minus_items hv hB n c x hc hx hm with ⟨rfl, rfl⟩ | ⟨h0, e, rfl⟩
  ·exact hF0
  ·refine hFc 0 [(-1, 0)] (-1, 0) (((n : Int), (-1, 1)), []) hB.first (.base _ (List.mem_singleton.2 rfl) rfl) (tb_pos hF0) ⟨-1 - st, [-1 - st], behind_whole, rfl, .inl ⟨n, by rw [hc, e], rfl⟩⟩ 63 ?_
   rw [oR_nil h _ (hFo _)]
   exact hF0
 refine Bitty.ext (hFo _) (bit_ok 63 (by omega) (by omega)) fun b => ?_
 rw [bit_tb]
 by_cases hb : 63 = b
 ·subst hb
  rw [h63, decide_eq_true rfl]
 ·rw [decide_eq_false hb]
  cases ht : tb (F ((n : Int), x)) b
  ·rfl
  ·exact absurd ((hFz _ b ht).1 hm).symm hb
/-- Ahead of the start's productions is End, in the first state. -/
theorem ahead_begins (x : Itm) (hx : Cl (gr st l3) (· ∈ [((-1, 0) : Itm)]) x) (h0 : 0 ≤ x.1) (hs : (rd_T64 l3 x.1).f1 = st) : tb (F (0, x)) 63 = true := by
 have hst := h.lo
 have hcl := hx
 cases hx with
 | base _ hin hi =>
  have := List.mem_singleton.1 hin
  subst this
  simp only at h0
  omega
 | next y _ _ hy =>
  obtain ⟨_, p, _, _, hp, _, rfl⟩ := nexts_in hy
  refine hFc 0 [(-1, 0)] (-1, 0) ((0, ((p : Int), 0)), []) hB.first (.base _ (List.mem_singleton.2 rfl) rfl) (tb_pos hF0) ⟨-1 - st, [-1 - st], behind_whole, rfl, .inr ⟨by omega, p, hp, by simp only at hs; rw [hs]; omega, rfl⟩⟩ 63 ?_
  rw [oR_nil h _ (hFo _)]
  exact hF0
end
end Go.Proofs.YtclollnicbcooaaDoor.P
end

section
set_option linter.unusedVariables false
set_option linter.unusedSimpArgs false
set_option linter.unusedSectionVars false
namespace Go.Proofs.YtclollnicbcooaaDoor.P
open Go.RowKit Go.Proofs.YtclollnicbcooaaDoorW.PrintWords Go.Proofs.YtclollnicbcooaaDoorW.PrintLast Go.Proofs.YtclollnicbcooaaDoorW.PrintMore St Bitty

def LRows (g : Gr) (F : Spt → Int) (K : List (List Itm)) : List S74 := K.mapIdx fun j c => rowOf g F j c
theorem rows_len (g : Gr) (F : Spt → Int) (K : List (List Itm)) : (LRows g F K).length = K.length := by unfold LRows; simp
theorem rows_at (g : Gr) (F : Spt → Int) (K : List (List Itm)) (i : Nat) (h : i < K.length) : rd_T74 (LRows g F K) (i : Int) = rowOf g F i K[i] := by
 unfold rd_T74 LRows
 rw [Int.toNat_natCast, List.getD_eq_getElem?_getD, List.getElem?_mapIdx, List.getElem?_eq_getElem h]
 rfl
theorem items_at (C : List Itm) (j : Nat) (h : j < C.length) : rd_T37 (C.map ofI) (j : Int) = ofI C[j] := by
 unfold rd_T37
 rw [Int.toNat_natCast, List.getD_eq_getElem?_getD, List.getElem?_map, List.getElem?_eq_getElem h]
 rfl
theorem ahead_at (f : Itm → Int) (C : List Itm) (j : Nat) (h : j < C.length) : Go.Proofs.YtclollnicbcooaaDoorW.PrintWords.rd (C.map f) (j : Int) = f C[j] := by
 unfold Go.Proofs.YtclollnicbcooaaDoorW.PrintWords.rd
 rw [Int.toNat_natCast, List.getD_eq_getElem?_getD, List.getElem?_map, List.getElem?_eq_getElem h]
 rfl
theorem up64 (i : Nat) (h : i ≤ 1000000) : wrap64 ((i : Int) + 1) = ((i + 1 : Nat) : Int) := by
 rw [IntWalk.wrap64_in _ (by omega)]
 rfl
theorem buildL_few (S : List Itm → Int → List Itm) (syms : List Int) (most : Nat) : ∀ (n i : Nat) (K : List (List Itm)) (N : List (List Int)) (R : List (List Itm) × List (List Int)), buildL S syms most n i K N = some (some R) → R.2.length ≤ N.length + n := by
 intro n
 induction n with
 | zero => intro i K N R h; cases h
 | succ n ih =>
  intro i K N R h
  rw [buildL] at h
  split at h
  ·have h := Option.some.inj (Option.some.inj h)
   rw [← h]
   simp only
   omega
  ·split at h
   ·cases h
   ·have := ih _ _ _ _ h
    rw [List.length_append, List.length_singleton] at this
    omega

theorem isI_prod {l3 : List S64} {st : Int} {x : Itm} (h : isI (gr st l3) x = true) (h0 : 0 ≤ x.1) : x.1 < l3.length := by
 unfold isI rightL at h
 rw [gr_len, if_neg (by omega)] at h
 split at h
 ·rename_i e
  split at e
  ·rename_i hp
   exact hp.2
  ·cases e
 ·cases h
theorem prod_in {l3 : List S64} (p : Int) (h0 : 0 ≤ p) (h1 : p < l3.length) : rd_T64 l3 p ∈ l3 := by
 unfold rd_T64
 rw [List.getD_eq_getElem?_getD, List.getElem?_eq_getElem (by omega)]
 exact List.getElem_mem _

/-- What is ahead, where a grammar's automaton is built. -/
structure Aheads (l0 : List S82) (l1 : List S101) (l2 : List ByteArray) (l3 : List S64) (st : Int) (K : List (List Itm)) (N : List (List Int)) (F : Spt → Int) : Prop where
 ord : Order l0 l1 l2 l3 st
 bui : Built (Sg (gr st l3)) (symsL l0.length l2.length) [(-1, 0)] K N
 len : N.length = K.length
 few : K.length ≤ 2003
 okF : ∀ x, ok (F x)
 may : ∀ s b, tb (F s) b = true → mayBe l0 l2 l3 st s b
 beg : tb (F beg0) 63 = true
 clo : ∀ (n : Nat) (c : List Itm) (x : Itm) (e : Edg), K[n]? = some c → Cl (gr st l3) (· ∈ c) x → F ((n : Int), x) ≠ 0 → isEdge l3 st K n c x e → ∀ b, tb (oR l0 l2 l3 e.2 (F ((n : Int), x))) b = true → tb (F e.1) b = true
theorem all_cases {l0 : List S82} {l1 : List S101} {l2 : List ByteArray} {l3 : List S64} {st : Int} (hr : ∀ p ∈ l3, ∀ s ∈ p.f2, -9223372036854775808 ≤ s ∧ s ≤ 9223372036854775807) :
  (∃ e, e ≠ 0 ∧ ∀ k, look_All.f k l0 l1 l2 l3 st = some ([], e)) ∨ ∃ K N F, Aheads l0 l1 l2 l3 st K N F ∧ states_Build.f l0 l1 l2 l3 st = some (K.map (·.map ofI), N, 0) ∧ Ev (fun k => look_rows.f k l0 l1 l2 l3 st (K.map (·.map ofI)) N) (LRows (gr st l3) F K) ∧ Ev (fun k => look_All.f k l0 l1 l2 l3 st) (LRows (gr st l3) F K, 0) := by
 cases hv : validB l0 l1 l2 l3 st with
 | false =>
  refine .inl ⟨1, by decide, fun k => ?_⟩
  unfold look_All.f
  rw [build_not hv, Option.bind_some, if_neg (by decide)]
 | true =>
  obtain ⟨R, hR, hB⟩ := build_ok hr hv
  cases R with
  | none =>
   refine .inl ⟨4, by decide, fun k => ?_⟩
   unfold look_All.f
   rw [hB, Option.bind_some, if_neg (by decide)]
   rfl
  | some KN =>
   obtain ⟨K, N⟩ := KN
   obtain ⟨hBu, hN⟩ := built_is hR
   have hrows := buildL_few _ _ _ _ _ _ _ _ hR
   simp only [List.length_nil] at hrows
   have hO := order_of hv hr
   obtain ⟨k, F, h1, h2, h3, h4, h5⟩ := rows_is hO hr hBu hN (by omega)
   have hEv : Ev (fun k => look_rows.f k l0 l1 l2 l3 st (K.map (·.map ofI)) N) (LRows (gr st l3) F K) := Ev.of (fun k => look_rows.mono _ _ _ _ _ _ _ k) h1
   refine .inr ⟨K, N, F, ⟨hO, hBu, hN, by omega, h2, h3, h4, h5⟩, hB, hEv, ?_⟩
   obtain ⟨k1, hk1⟩ := hEv
   refine ⟨k1, fun k hk => ?_⟩
   have := hk1 k hk
   dsimp only at this ⊢
   unfold look_All.f
   rw [hB, Option.bind_some]
   show (if (0 : Int) = 0 then (look_rows.f k l0 l1 l2 l3 st (K.map (·.map ofI)) N).map (fun r => (r, (0 : Int))) else _) = _
   rw [if_pos rfl, this]
   rfl
section
variable {l0 : List S82} {l1 : List S101} {l2 : List ByteArray} {l3 : List S64} {st : Int} {K : List (List Itm)} {N : List (List Int)} {F : Spt → Int} (H : Aheads l0 l1 l2 l3 st K N F)
include H
/-- The items of a state. -/
theorem Aheads.cl {i : Nat} (hi : i < K.length) {x : Itm} : x ∈ risen (closedL (gr st l3) K[i]) ↔ Cl (gr st l3) (· ∈ K[i]) x := (closedL_rise (fits_of H.ord.valid) K[i]).mem x
theorem Aheads.sm (c : List Itm) : (risen (closedL (gr st l3) c)).length ≤ 1562 := closed_small (fits_of H.ord.valid) c
end
end Go.Proofs.YtclollnicbcooaaDoor.P
end

section
set_option linter.unusedVariables false
set_option linter.unusedSimpArgs false
namespace Go.Proofs.YtclollnicbcooaaDoor.P
open Go.RowKit Go.Proofs.YtclollnicbcooaaDoorW.PrintWords Go.Proofs.YtclollnicbcooaaDoorW.PrintLast Go.Proofs.YtclollnicbcooaaDoorW.PrintMore St Bitty

theorem e_aheads : ∃ F, Aheads e0 [] e2 e3 0 [[(-1, 0)], [(0, 1)], [(-1, 1)]] [[1, 2], [-1, -1], [-1, -1]] F ∧ Ev (fun k => look_rows.f k e0 [] e2 e3 0 [[⟨-1, 0⟩], [⟨0, 1⟩], [⟨-1, 1⟩]] [[1, 2], [-1, -1], [-1, -1]]) (LRows (gr 0 e3) F [[(-1, 0)], [(0, 1)], [(-1, 1)]]) ∧ Ev (fun k => look_All.f k e0 [] e2 e3 0) (LRows (gr 0 e3) F [[(-1, 0)], [(0, 1)], [(-1, 1)]], 0) := by
 rcases all_cases (l0 := e0) (l1 := []) (l2 := e2) (st := 0) e_range with ⟨e, he, hA⟩ | ⟨K, N, F, H, hB, h1, h2⟩
 ·have := hA 0
  unfold look_All.f at this
  rw [e_build, Option.bind_some, if_pos rfl] at this
  obtain ⟨x, _, hx⟩ := Option.map_eq_some_iff.1 this
  injection hx with _ hx
  exact absurd hx.symm he
 ·rw [e_build] at hB
  have hB := Option.some.inj hB
  injection hB with hK hB
  injection hB with hN _
  have hK' : K = [[(-1, 0)], [(0, 1)], [(-1, 1)]] := by
   have := congrArg (fun x : List (List S37) => x.map (·.map toI)) hK
   simp only [List.map_map] at this
   have e : ((fun x : List S37 => x.map toI) ∘ fun x : List Itm => x.map ofI) = id := by
    funext x
    exact map_toI_ofI x
   rw [e, List.map_id] at this
   rw [← this]
   rfl
  subst hK'
  subst hN
  exact ⟨F, H, h1, h2⟩
theorem look_works : Ev (fun k => syntagmlaw15_works.f k) true := by
 obtain ⟨F, H, ⟨K1, h1⟩, ⟨K2, h2⟩⟩ := e_aheads
 have hb : tb (F (0, (0, 0))) 63 = true := ahead_begins H.ord H.bui H.okF H.may H.beg H.clo (0, 0) (.next (-1, 0) _ (.base _ (List.mem_singleton.2 rfl) rfl) (by decide)) (by decide) (by decide)
 have hb1 : tb (F (1, (0, 1))) 63 = true := by
  refine H.clo 0 [(-1, 0)] (0, 0) ((1, (0, 1)), []) rfl (.next (-1, 0) _ (.base _ (List.mem_singleton.2 rfl) rfl) (by decide)) (tb_pos hb) ⟨0, [0], by decide, by decide, .inl ⟨1, by rw [e_sg]; rfl, rfl⟩⟩ 63 ?_
  rw [oR_nil H.ord _ (H.okF _)]
  exact hb
 have hF : F (1, (0, 1)) = ((2 ^ 63 : Nat) : Int) := by
  refine Bitty.ext (H.okF _) (bit_ok 63 (by omega) (by omega)) fun b => ?_
  rw [bit_tb]
  by_cases hb' : 63 = b
  ·subst hb'
   rw [hb1, decide_eq_true rfl]
  ·rw [decide_eq_false hb']
   cases ht : tb (F (1, (0, 1))) b
   ·rfl
   ·have h3 := (H.may _ b ht).2 (by decide)
    rw [e_follow] at h3
    have h4 : tb ((2 ^ 63 : Nat) : Int) b = true := h3
    rw [bit_tb] at h4
    exact absurd (of_decide_eq_true h4) hb'
 replace hF : F (1, (0, 1)) = 9223372036854775808 := hF.trans (by decide)
 have hrows : LRows (gr 0 e3) F [[(-1, 0)], [(0, 1)], [(-1, 1)]] = [⟨[⟨-1, 0⟩, ⟨0, 0⟩], [F (0, (-1, 0)), F (0, (0, 0))]⟩, ⟨[⟨0, 1⟩], [9223372036854775808]⟩, rowOf (gr 0 e3) F 2 [(-1, 1)]] := by
  show [rowOf (gr 0 e3) F 0 [(-1, 0)], rowOf (gr 0 e3) F 1 [(0, 1)], rowOf (gr 0 e3) F 2 [(-1, 1)]] = _
  unfold rowOf
  rw [e_row0, e_row1, ← hF]
  rfl
 rw [hrows] at h1 h2
 generalize rowOf (gr 0 e3) F 2 [(-1, 1)] = r2 at *
 refine ⟨K1 + K2 + 10, fun k hk => ?_⟩
 have g1 := h2 k (by omega)
 dsimp only at g1 ⊢
 unfold syntagmlaw15_works.f
 rw [g1, Option.bind_some, if_pos ⟨by omega, rfl, rfl, rfl, rfl, rfl, rfl⟩]
end Go.Proofs.YtclollnicbcooaaDoor.P
end

section
set_option linter.unusedVariables false
set_option linter.unusedSimpArgs false
namespace Go.Proofs.YtclollnicbcooaaDoor.P
open Go.RowKit Go.Proofs.YtclollnicbcooaaDoorW.PrintWords Go.Proofs.YtclollnicbcooaaDoorW.PrintLast Go.Proofs.YtclollnicbcooaaDoorW.PrintMore Bitty

def lessN (a b : Nat) : Nat := a &&& (2 ^ 64 - (b + 1))
theorem high (a i : Nat) (ha : a < 18446744073709551616) (hi : 64 ≤ i) : a.testBit i = false := Nat.testBit_lt_two_pow (Nat.lt_of_lt_of_le ha (Nat.pow_le_pow_right (by decide) hi : 2 ^ 64 ≤ 2 ^ i))
theorem lessN_test (a b i : Nat) (ha : a < 18446744073709551616) (hb : b < 18446744073709551616) : (lessN a b).testBit i = (a.testBit i && !b.testBit i) := by
 unfold lessN
 rw [Nat.testBit_and, Nat.testBit_two_pow_sub_succ hb]
 by_cases hi : i < 64
 ·simp [hi]
 ·rw [high a i ha (by omega)]; simp
theorem andNot_nat (a b : Nat) (ha : a < 18446744073709551616) (hb : b < 18446744073709551616) : Go.bits .andNot .u64 (a : Int) (b : Int) = ((lessN a b : Nat) : Int) := by
 have hx : lessN a b < 18446744073709551616 := Nat.lt_of_le_of_lt Nat.and_le_left ha
 have h1 : (BitVec.ofInt 64 (a : Int)).toNat = a := by
  rw [BitVec.ofInt_natCast, BitVec.toNat_ofNat]; exact Nat.mod_eq_of_lt (by omega)
 have h2 : (BitVec.ofInt 64 (b : Int)).toNat = b := by
  rw [BitVec.ofInt_natCast, BitVec.toNat_ofNat]; exact Nat.mod_eq_of_lt (by omega)
 show IntKind.u64.wrap ((BitVec.ofInt 64 (a : Int) &&& ~~~ BitVec.ofInt 64 (b : Int)).toNat : Int) = _
 rw [BitVec.toNat_and, BitVec.toNat_not, h1, h2, IntKind.wrap_u64, show 2 ^ 64 - 1 - b = 2 ^ 64 - (b + 1) by omega]
 show ((lessN a b : Nat) : Int) % _ = _
 omega
theorem nat_of_ok {x : Int} (h : ok x) : ∃ a : Nat, x = a ∧ a < 18446744073709551616 := by
 have h1 := h.1
 have h2 := h.2
 exact ⟨x.toNat, by omega, by omega⟩
theorem in_true {x y : Int} (hx : ok x) (hy : ok y) (h : ∀ b, tb x b = true → tb y b = true) : bits_In.f x y = some true := by
 obtain ⟨a, rfl, ha⟩ := nat_of_ok hx
 obtain ⟨b, rfl, hb⟩ := nat_of_ok hy
 have e : lessN a b = 0 := Nat.eq_of_testBit_eq fun i => by
  rw [lessN_test a b i ha hb, Nat.zero_testBit]
  have h1 : a.testBit i = true → b.testBit i = true := h i
  cases q : a.testBit i
  ·rfl
  ·rw [h1 q]; rfl
 have e2 : bits_Less.f (a : Int) (b : Int) = some (Go.bits .andNot .u64 (a : Int) (b : Int)) := rfl
 unfold bits_In.f
 rw [e2, Option.bind_some, andNot_nat a b ha hb, e]
 rfl
end Go.Proofs.YtclollnicbcooaaDoor.P
end

section
set_option linter.unusedVariables false
set_option linter.unusedSimpArgs false
set_option linter.unusedSectionVars false
namespace Go.Proofs.YtclollnicbcooaaDoor.Pure
open Go.RowKit Go.Proofs.YtclollnicbcooaaDoorW.PrintWords Go.Proofs.YtclollnicbcooaaDoorW.PrintLast Go.Proofs.YtclollnicbcooaaDoorW.PrintMore St P
section
variable {l0 : List S82} {l1 : List S101} {l2 : List ByteArray} {l3 : List S64} {st : Int} {K : List (List Itm)} {N : List (List Int)} {F : Spt → Int} (H : Aheads l0 l1 l2 l3 st K N F)
include H
theorem fo_l1 {i : Nat} (hi : i < K.length) (hE : Ev (fun k => syntagmlaw15_LookFollows.l0 k true (LRows (gr st l3) F K) (wR l0 l2 l3 st) ((i + 1 : Nat) : Int) l0 l1 l2 l3 st) true) : ∀ (m j : Nat), j + m = (risen (closedL (gr st l3) K[i])).length → Ev (fun k => syntagmlaw15_LookFollows.l1 k true (LRows (gr st l3) F K) (wR l0 l2 l3 st) (i : Int) (j : Int) l0 l1 l2 l3 st) true
 | 0, j, hj => by
  have hf := H.few
  refine Ev.step (fun k => ?_) hE
  have e0 : (rd_T74 (LRows (gr st l3) F K) (i : Int)).f0.length = (risen (closedL (gr st l3) K[i])).length := by rw [rows_at _ _ _ i hi]; exact List.length_map _
  rw [syntagmlaw15_LookFollows.l1, if_pos (by omega), rows_len, if_pos (by omega), e0, if_neg (by omega), up64 i (by omega)]
 | m + 1, j, hj => by
  have hf := H.few
  have hs := H.sm K[i]
  have hjl : j < (risen (closedL (gr st l3) K[i])).length := by omega
  have hcl := (H.cl hi).1 (List.getElem_mem hjl)
  have e0 : (rd_T74 (LRows (gr st l3) F K) (i : Int)).f0.length = (risen (closedL (gr st l3) K[i])).length := by rw [rows_at _ _ _ i hi]; exact List.length_map _
  have e1 : (rd_T74 (LRows (gr st l3) F K) (i : Int)).f1.length = (risen (closedL (gr st l3) K[i])).length := by rw [rows_at _ _ _ i hi]; exact List.length_map _
  have e2 : (rd_T37 (rd_T74 (LRows (gr st l3) F K) (i : Int)).f0 (j : Int)).f0 = ((risen (closedL (gr st l3) K[i]))[j]).1 := by
   rw [rows_at _ _ _ i hi]
   show (rd_T37 ((risen (closedL (gr st l3) K[i])).map ofI) (j : Int)).f0 = _
   rw [items_at _ j hjl]
   rfl
  have e3 : Go.Proofs.YtclollnicbcooaaDoorW.PrintWords.rd (rd_T74 (LRows (gr st l3) F K) (i : Int)).f1 (j : Int) = F ((i : Int), (risen (closedL (gr st l3) K[i]))[j]) := by
   rw [rows_at _ _ _ i hi]
   exact ahead_at _ _ j hjl
  generalize (risen (closedL (gr st l3) K[i]))[j] = x at hcl e2 e3
  have hrg := isI_rng (fits_of H.ord.valid) (cl_is _ _ _ hcl)
  obtain ⟨K1, h1⟩ := fo_l1 hi hE m (j + 1) (by omega)
  refine ⟨K1 + 3, fun k hk => ?_⟩
  obtain ⟨k, rfl⟩ : ∃ k', k = k' + 1 := ⟨k - 1, by omega⟩
  have h2 := h1 k (by omega)
  dsimp only at h2 ⊢
  rw [syntagmlaw15_LookFollows.l1, if_pos (by omega), rows_len, if_pos (by omega), e0, if_pos (by omega), if_pos (by omega), e2, e1, e3, up64 j (by omega)]
  by_cases hn : x.1 < 0
  ·have hm := ahead_minus H.ord H.bui H.okF H.may H.beg H.clo i _ x (List.getElem?_eq_getElem hi) hcl (by omega)
   rw [if_pos hn, if_pos (by omega), of_one k (by omega) 63 (by omega) (by omega), Option.bind_some, if_pos (show F ((i : Int), x) = ((2 ^ Int.toNat 63 : Nat) : Int) from hm), if_neg (by omega)]
   exact h2
  ·have hp := isI_prod (cl_is _ _ _ hcl) (by omega)
   have hq := H.ord.gram.srt _ (prod_in (l3 := l3) x.1 (by omega) hp)
   have hw := (wR_ok H.ord).1
   have hin := in_true (H.okF ((i : Int), x)) (ok_rd (wR_ok H.ord) (rd_T64 l3 x.1).f1) (fun b hb => (H.may _ b hb).2 (by show 0 ≤ x.1; omega))
   rw [if_neg hn]
   rw [if_pos (show x.1 ≥ 0 by omega), if_pos (show (j : Int) < _ by omega), if_pos (show 0 ≤ x.1 by omega), if_pos hp, if_pos hq.1, if_pos (by rw [hw]; exact hq.2), hin, Option.bind_some, if_pos rfl]
   exact h2
theorem fo_l0 : ∀ (m i : Nat), i + m = K.length → Ev (fun k => syntagmlaw15_LookFollows.l0 k true (LRows (gr st l3) F K) (wR l0 l2 l3 st) (i : Int) l0 l1 l2 l3 st) true
 | 0, i, hi => by
  refine Ev.step (f := fun _ => some true) (fun k => ?_) (Ev.now _)
  rw [syntagmlaw15_LookFollows.l0, rows_len, if_neg (by omega)]
 | m + 1, i, hi => by
  refine Ev.step (fun k => ?_) (fo_l1 H (i := i) (by omega) (fo_l0 m (i + 1) (by omega)) (risen (closedL (gr st l3) K[i])).length 0 (Nat.zero_add _))
  rw [syntagmlaw15_LookFollows.l0, rows_len, if_pos (by omega)]
  rfl
end
theorem LookFollows (x0 : S27) (w0 : wf27 x0) : ∃ k, syntagmlaw15_LookFollows.f k x0.f0 x0.f1 x0.f2 x0.f3 x0.f4 = some true := by
 have hr := prods_range w0
 obtain ⟨b, hb⟩ := little_ev x0.f0 x0.f1 x0.f2 x0.f3 x0.f4
 refine Ev.rounds ?_
 unfold syntagmlaw15_LookFollows.f
 refine Ev.bind look_works ?_
 refine Ev.congr (fun k => if_pos rfl) ?_
 refine Ev.bind hb ?_
 cases b with
 | false => exact Ev.congr (fun k => if_neg (by decide)) (Ev.now true)
 | true =>
  refine Ev.congr (fun k => if_pos rfl) ?_
  rcases all_cases hr with ⟨e, he, hA⟩ | ⟨K, N, F, H, _, _, hA⟩
  ·exact Ev.bind (a := ([], e)) ⟨0, fun k _ => hA k⟩ (Ev.congr (fun k => if_neg he) (Ev.now true))
  ·refine Ev.bind hA ?_
   refine Ev.congr (fun k => if_pos rfl) ?_
   refine Ev.bind (a := wR x0.f0 x0.f2 x0.f3 x0.f4) ⟨61, fun k hk => Follow_is H.ord k hk⟩ ?_
   exact fo_l0 H _ 0 (Nat.zero_add _)
end Go.Proofs.YtclollnicbcooaaDoor.Pure
end

section
set_option linter.unusedVariables false
namespace Go.Proofs.YtclollnicbcooaaDoor.Glob
open Go.ChangeShapes Go.WideShapes Go.ChangeAt Go.RowKit

def laidL : List (String × DataW Unit) := [("math/bits.deBruijn32tab", Rows.laid_math_bits_deBruijn32tab), ("math/bits.deBruijn64tab", Rows.laid_math_bits_deBruijn64tab), ("internal/strconv.uint64pow10", Rows.laid_internal_strconv_uint64pow10)]
theorem named : Tryd.prog.globalNamed "internal/strconv.uint64pow10" = some 0 := by kernel_rfl
theorem typed : (Tryd.prog.globals[0]?).map (·.type) = some 172 := by kernel_rfl
theorem und172 : Tryd.prog.underlying 172 = some (.array 20 75) := by kernel_rfl
theorem und75 : Tryd.prog.underlying 75 = some (.int .u64) := by kernel_rfl
theorem cells172 : Tryd.prog.cellsOf 172 = 20 := by kernel_rfl
theorem cells75 : Tryd.prog.cellsOf 75 = 1 := by kernel_rfl
theorem table_is : (Rows.laid_internal_strconv_uint64pow10 : DataW Unit) = Lib.tabData .u64 Lib.pow10Tab := by rfl
theorem of_laid {W : World} (h : laidMet Tryd.prog laidL W) : P.GTab W := by
 obtain ⟨g', t', cs, fuel, p, hg', ht', hvar, hd⟩ := Lib.laidMet.reads h (n := "internal/strconv.uint64pow10") (d := Rows.laid_internal_strconv_uint64pow10) (List.mem_cons_of_mem _ (List.mem_cons_of_mem _ List.mem_cons_self))
 obtain rfl := Option.some.inj (named.symm.trans hg')
 obtain rfl := Option.some.inj (typed.symm.trans ht')
 rw [table_is] at hd
 unfold P.GTab Lib.TabIs
 rw [hvar, ← Lib.cells_of_tab und172 und75 cells75 cells172 hd]

/-- A row of literals as cells. -/
def litCells : DataW Unit → Array Value
 | .agg l => (l.map fun | .lit (.int k z) => Value.int k z | _ => Value.int .i64 0).toArray
 | _ => #[]
noncomputable def laidWorld (os : Os) : World :=
 let w := World.holding Tryd.prog os ⟨#[], #[], []⟩
 let put (b : Nat) (cs : Array Value) (h : Array Obj) : Array Obj := h.modify b fun
   | .cells _ t frozen => .cells cs t frozen
   | o => o
 { w with heap := put 0 (litCells Rows.laid_internal_strconv_uint64pow10) (put 1 (litCells Rows.laid_math_bits_deBruijn32tab) (put 2 (litCells Rows.laid_math_bits_deBruijn64tab) w.heap)) }
theorem laid_met (os : Os) (args : Array Value) : laidMet Tryd.prog laidL ((laidWorld os).forCall (fun _ _ => 0) ⟨#[], args, []⟩).memory :=
 laidMet_of_run' 8 (by kernel_rfl) (by kernel_rfl)
end Go.Proofs.YtclollnicbcooaaDoor.Glob
end
