/- Texts of this claim put together: Rf, Rf2, SFew, Pw, Pk, Pg, Rf3, Rg, PureStatesBuild, Glob. -/
import Derived.Test.YtclollnicbcooaaDoorVd3
import Derived.Test.YtclollnicbcooaaDoorVd1
import Derived.Test.YtclollnicbcooaaDoorVd2
import Derived.Test.YtclollnicbcooaaDoorVd0
import Derived.Test.YtclollnicbcooaaDoorVd4
import Derived.OpenShut
import Derived.Test.YtclollnicbcooaaDoorRows
import Derived.Lib.LaidTab
import Derived.Lib.LaidU8
import Derived.ProofKit
import Derived.LaidLaws
import Derived.Handed
set_option linter.unusedVariables false
set_option linter.unusedSimpArgs false
set_option linter.unusedSectionVars false
section
namespace Go.Proofs.YtclollnicbcooaaDoor.P
open Go.RowKit Go.Proofs.YtclollnicbcooaaDoorW.PrintWords Go.Proofs.YtclollnicbcooaaDoorW.PrintLast Go.Proofs.YtclollnicbcooaaDoorW.PrintMore St

def toJ (x : S39) : Itm := (x.f0, x.f1)
def ofJ (x : Itm) : S39 := ⟨x.1, x.2⟩
theorem toJ_ofJ (x : Itm) : toJ (ofJ x) = x := rfl
theorem ofJ_toJ (x : S39) : ofJ (toJ x) = x := rfl
theorem map_ofJ_toJ (l : List S39) : (l.map toJ).map ofJ = l := by
 rw [List.map_map]
 exact (List.map_congr_left (fun x _ => ofJ_toJ x)).trans (List.map_id l)
theorem map_toJ_ofJ (l : List Itm) : (l.map ofJ).map toJ = l := by
 rw [List.map_map]
 exact (List.map_congr_left (fun x _ => toJ_ofJ x)).trans (List.map_id l)
theorem rd39 (l : List S39) (i : Nat) (h : i < l.length) : rd_T39 l (i : Int) = l[i] := by
 unfold rd_T39
 rw [Int.toNat_natCast, List.getD_eq_getElem?_getD, List.getElem?_eq_getElem h]
 rfl
theorem wrap_up (i : Nat) (h : i < 9223372036854775807) : wrap64 ((i : Int) + 1) = ((i + 1 : Nat) : Int) := by unfold wrap64; omega

theorem has_l0 (l : List S39) (a b : Int) (hl : l.length < 4611686018427387904) : ∀ (m i : Nat), i + m = l.length → Ev (fun k => sr14_has.l0 k l i a b) (decide ((a, b) ∈ (l.drop i).map toJ))
 | 0, i, hi => by
  refine Ev.step (f := fun _ => some (decide ((a, b) ∈ (l.drop i).map toJ))) (fun k => ?_) (Ev.now _)
  rw [sr14_has.l0, if_neg (by omega), List.drop_eq_nil_of_le (by omega)]
  rfl
 | m + 1, i, hi => by
  have hlt : i < l.length := by omega
  have ih := has_l0 l a b hl m (i + 1) (by omega)
  rw [List.drop_eq_getElem_cons hlt, List.map_cons]
  by_cases h : (a, b) = toJ l[i]
  ·rw [decide_eq_true (show (a, b) ∈ toJ l[i] :: (l.drop (i + 1)).map toJ by rw [h]; exact List.mem_cons_self)]
   refine Ev.step (f := fun _ => some true) (fun k => ?_) (Ev.now _)
   have h1 : a = l[i].f0 := congrArg Prod.fst h
   have h2 : b = l[i].f1 := congrArg Prod.snd h
   rw [sr14_has.l0, if_pos (by omega), if_pos (by omega), rd39 l i hlt, if_pos (by rw [h1, h2]; simp)]
  ·have e : decide ((a, b) ∈ toJ l[i] :: (l.drop (i + 1)).map toJ) = decide ((a, b) ∈ (l.drop (i + 1)).map toJ) := by
    rw [decide_eq_decide, List.mem_cons]
    exact ⟨fun hh => hh.resolve_left h, .inr⟩
   rw [e]
   refine Ev.step (fun k => ?_) ih
   rw [sr14_has.l0, if_pos (by omega), if_pos (by omega), rd39 l i hlt, if_neg, wrap_up i (by omega)]
   intro hh
   rw [Bool.and_eq_true, beq_iff_eq, beq_iff_eq] at hh
   exact h (Prod.ext hh.1.symm hh.2.symm)
theorem has_ev (l : List S39) (a b : Int) (hl : l.length < 4611686018427387904) : Ev (fun k => sr14_has.f k l a b) (decide ((a, b) ∈ l.map toJ)) := has_l0 l a b hl l.length 0 (by omega)
theorem less_is (a b c d : Int) : sr14_less.f a b c d = some (decide (lt (a, b) (c, d))) := by
 have hl : lt (a, b) (c, d) ↔ (a < c ∨ a = c ∧ b < d) := Iff.rfl
 unfold sr14_less.f
 by_cases h : a < c
 ·rw [if_pos h, decide_eq_true (hl.2 (by omega))]
 ·rw [if_neg h]
  by_cases h2 : a = c
  ·rw [if_pos h2]
   congr 1
   rw [decide_eq_decide, hl]
   omega
  ·rw [if_neg h2, decide_eq_false (fun hh => by have := hl.1 hh; omega)]

def AtR (l : List S39) (a : Int) (r : Option Itm) : Prop := (a = -1 ∧ r = none) ∨ ∃ (j : Nat) (h : j < l.length), a = (j : Int) ∧ r = some (toJ l[j])
theorem rising_l1 (l out : List S39) (hl : l.length ≤ 4000000000000) (ho : out.length ≤ 4000000000000) (n : Nat) (hn : n ≤ l.length) (R : List S39)
  (hE : ∀ p, p = pickL (out.map toJ) (l.map toJ) none → Ev (fun k => sr14_rising.l0 k l (match p with | none => out | some x => out ++ [ofJ x]) ((n + 1 : Nat) : Int)) R) :
  ∀ (m i : Nat) (a : Int) (r : Option Itm), i + m = l.length → AtR l a r → pickL (out.map toJ) ((l.drop i).map toJ) r = pickL (out.map toJ) (l.map toJ) none → Ev (fun k => sr14_rising.l1 k l out n a i) R
 | 0, i, a, r, hi, hA, hp => by
  rw [List.drop_eq_nil_of_le (by omega), List.map_nil, pickL] at hp
  have h := hE r hp
  rcases hA with ⟨rfl, rfl⟩ | ⟨j, hj, rfl, rfl⟩
  ·refine Ev.step (fun k => ?_) h
   rw [sr14_rising.l1, if_neg (by omega), if_neg (by decide), wrap_up n (by omega)]
  ·refine Ev.step (fun k => ?_) h
   rw [sr14_rising.l1, if_neg (by omega), if_pos (by omega), if_pos (by omega), if_pos (by omega), if_pos (by omega), rd39 l j hj, wrap_up n (by omega)]
   rfl
 | m + 1, i, a, r, hi, hA, hp => by
  have hlt : i < l.length := by omega
  obtain ⟨K1, h1⟩ := has_ev out (l[i].f0) (l[i].f1) (by omega)
  rw [List.drop_eq_getElem_cons hlt, List.map_cons, pickL] at hp
  have hw := wrap_up i (by omega)
  by_cases hin : toJ l[i] ∈ out.map toJ
  ·rw [if_neg (fun h => h.1 hin)] at hp
   obtain ⟨K2, h2⟩ := rising_l1 l out hl ho n hn R hE m (i + 1) a r (by omega) hA hp
   refine ⟨max K1 K2 + 1, fun k hk => ?_⟩
   obtain ⟨k, rfl⟩ : ∃ j, k = j + 1 := ⟨k - 1, by omega⟩
   first | dsimp only at h1 h2 ⊢ | dsimp only at h2 ⊢
   rw [sr14_rising.l1, if_pos (by omega), if_pos (by omega), rd39 l i hlt, h1 k (by omega), Option.bind_some, decide_eq_true (show (l[i].f0, l[i].f1) ∈ out.map toJ from hin), if_pos rfl, hw]
   exact h2 k (by omega)
  ·have hd : decide ((l[i].f0, l[i].f1) ∈ out.map toJ) = false := decide_eq_false hin
   rcases hA with ⟨rfl, rfl⟩ | ⟨j, hj, rfl, rfl⟩
   ·rw [if_pos ⟨hin, rfl⟩] at hp
    obtain ⟨K2, h2⟩ := rising_l1 l out hl ho n hn R hE m (i + 1) i (some (toJ l[i])) (by omega) (.inr ⟨i, hlt, rfl, rfl⟩) hp
    refine ⟨max K1 K2 + 1, fun k hk => ?_⟩
    obtain ⟨k, rfl⟩ : ∃ j, k = j + 1 := ⟨k - 1, by omega⟩
    first | dsimp only at h1 h2 ⊢ | dsimp only at h2 ⊢
    rw [sr14_rising.l1, if_pos (by omega), if_pos (by omega), rd39 l i hlt, h1 k (by omega), Option.bind_some, hd, if_neg (by decide), if_pos (by decide), hw]
    exact h2 k (by omega)
   ·have hls : sr14_less.f l[i].f0 l[i].f1 l[j].f0 l[j].f1 = some (St.less (toJ l[i]) (some (toJ l[j]))) := less_is _ _ _ _
    cases hb : St.less (toJ l[i]) (some (toJ l[j])) with
    | true =>
     rw [if_pos ⟨hin, hb⟩] at hp
     rw [hb] at hls
     obtain ⟨K2, h2⟩ := rising_l1 l out hl ho n hn R hE m (i + 1) i (some (toJ l[i])) (by omega) (.inr ⟨i, hlt, rfl, rfl⟩) hp
     refine ⟨max K1 K2 + 1, fun k hk => ?_⟩
     obtain ⟨k, rfl⟩ : ∃ j, k = j + 1 := ⟨k - 1, by omega⟩
     first | dsimp only at h1 h2 ⊢ | dsimp only at h2 ⊢
     rw [sr14_rising.l1, if_pos (by omega), if_pos (by omega), rd39 l i hlt, h1 k (by omega), Option.bind_some, hd, if_neg (by decide), if_neg (by omega), if_pos (by omega), if_pos (by omega), rd39 l j hj, hls, Option.bind_some, if_pos rfl, hw]
     exact h2 k (by omega)
    | false =>
     rw [if_neg (fun h => by rw [hb] at h; exact absurd h.2 (by decide))] at hp
     rw [hb] at hls
     obtain ⟨K2, h2⟩ := rising_l1 l out hl ho n hn R hE m (i + 1) j (some (toJ l[j])) (by omega) (.inr ⟨j, hj, rfl, rfl⟩) hp
     refine ⟨max K1 K2 + 1, fun k hk => ?_⟩
     obtain ⟨k, rfl⟩ : ∃ j, k = j + 1 := ⟨k - 1, by omega⟩
     first | dsimp only at h1 h2 ⊢ | dsimp only at h2 ⊢
     rw [sr14_rising.l1, if_pos (by omega), if_pos (by omega), rd39 l i hlt, h1 k (by omega), Option.bind_some, hd, if_neg (by decide), if_neg (by omega), if_pos (by omega), if_pos (by omega), rd39 l j hj, hls, Option.bind_some, if_neg (by decide), hw]
     exact h2 k (by omega)
theorem rising_l0 (l : List S39) (hl : l.length ≤ 4000000000000) : ∀ (m n : Nat) (out : List S39), n + m = l.length → out.length ≤ n → Ev (fun k => sr14_rising.l0 k l out n) ((riseR (l.map toJ) m (out.map toJ)).map ofJ)
 | 0, n, out, hn, ho => by
  rw [riseR, map_ofJ_toJ]
  refine Ev.step (f := fun _ => some out) (fun k => ?_) (Ev.now _)
  rw [sr14_rising.l0, if_neg (by omega)]
 | m + 1, n, out, hn, ho => by
  have h := rising_l1 l out hl (by omega) n (by omega) ((riseR (l.map toJ) (m + 1) (out.map toJ)).map ofJ) (fun p hp => by
   rw [riseR, ← hp]
   cases p with
   | none => exact rising_l0 l hl m (n + 1) out (by omega) (by omega)
   | some x =>
    have := rising_l0 l hl m (n + 1) (out ++ [ofJ x]) (by omega) (by rw [List.length_append, List.length_singleton]; omega)
    rw [List.map_append, List.map_singleton, toJ_ofJ] at this
    exact this) l.length 0 (-1) none (by omega) (.inl ⟨rfl, rfl⟩) rfl
  refine Ev.step (fun k => ?_) h
  rw [sr14_rising.l0, if_pos (by omega)]
  rfl
theorem rising_ev (l : List S39) (hl : l.length ≤ 4000000000000) : Ev (fun k => sr14_rising.f k l) ((riseR (l.map toJ) l.length []).map ofJ) := rising_l0 l hl l.length 0 [] (by omega) (Nat.zero_le _)

/-! ### of a grammar that may be -/
theorem refv_ok {l0 : List S82} {l1 : List S101} {l2 : List ByteArray} {l3 : List S64} {st : Int} (h : ∀ p ∈ l3, ∀ s ∈ p.f2, -9223372036854775808 ≤ s ∧ s ≤ 9223372036854775807) : sr12_Valid.f l0 l1 l2 l3 st = some (validB l0 l1 l2 l3 st) := by
 unfold sr12_Valid.f
 rw [if_pos h]
theorem addL_app : ∀ (a b out : List Itm), addL (a ++ b) out = addL b (addL a out)
 | [], b, out => rfl
 | x :: a, b, out => by rw [List.cons_append, addL, addL, addL_app a b]
section
variable {l0 : List S82} {l1 : List S101} {l2 : List ByteArray} {l3 : List S64} {st : Int} (h : Fits l2 l3 st) (hv : validB l0 l1 l2 l3 st = true) (hr : ∀ p ∈ l3, ∀ s ∈ p.f2, -9223372036854775808 ≤ s ∧ s ≤ 9223372036854775807)
include h hv hr
theorem refright_is (a : Int) (r : List Int) (hq : rightL (gr st l3) a = some r) : sr14_Right.f l0 l1 l2 l3 st a = some r := by
 unfold sr14_Right.f
 unfold rightL at hq
 rw [gr_len] at hq
 rw [wrap_start h]
 by_cases h1 : a = -1
 ·rw [if_pos h1] at hq ⊢; exact hq
 ·rw [if_neg h1] at hq ⊢
  split at hq
  ·rename_i h2
   rw [if_pos h2.1, if_pos (by omega)]
   rw [gr_at st l3 a h2.1 h2.2] at hq
   exact hq
  ·cases hq
theorem refis_is (a b : Int) : sr14_Is.f l0 l1 l2 l3 st a b = some (isI (gr st l3) (a, b)) := by
 unfold sr14_Is.f isI
 rw [refv_ok hr, Option.bind_some, hv, if_pos rfl]
 cases hq : rightL (gr st l3) a with
 | none =>
  simp only
  unfold rightL at hq
  rw [gr_len] at hq
  split at hq
  ·cases hq
  ·split at hq
   ·cases hq
   ·by_cases h1 : a ≥ -1
    ·rw [if_pos h1, if_neg (by omega)]
    ·rw [if_neg h1]
 | some r =>
  simp only
  have h1 : a ≥ -1 ∧ a < (l3.length : Int) := by
   unfold rightL at hq
   rw [gr_len] at hq
   split at hq
   ·omega
   ·split at hq
    ·omega
    ·cases hq
  rw [if_pos h1.1, if_pos h1.2]
  by_cases h2 : b ≥ 0
  ·rw [if_pos h2, refright_is h hv hr a r hq, Option.bind_some]; simp [h2]
  ·rw [if_neg h2]; simp [h2]
theorem refbehind_is (a b : Int) : sr14_Behind.f l0 l1 l2 l3 st a b = some (match behindL (gr st l3) (a, b) with | some s => (s, true) | none => (0, false)) := by
 unfold sr14_Behind.f
 rw [refis_is h hv hr, Option.bind_some]
 unfold isI behindL
 cases hq : rightL (gr st l3) a with
 | none => simp
 | some r =>
  simp only
  by_cases h1 : 0 ≤ b ∧ b ≤ r.length
  ·rw [if_pos (decide_eq_true h1), refright_is h hv hr a r hq, Option.bind_some]
   by_cases h2 : b = (r.length : Int)
   ·rw [if_pos (by omega), if_neg (by omega)]
   ·rw [if_neg (by omega), Option.bind_some, if_pos h1.1, if_pos (by omega), if_pos (by omega)]
    rfl
  ·rw [if_neg (by simpa using h1), if_neg (by omega)]

theorem close_l2 (i : Nat) (hi : i < 4000000000000) (s : Int) (hs : s < 0) (hs2 : -9223372036854775808 ≤ s) (o0 : List Itm) (R : List S39) (hE : ∀ out : List S39, out.map toJ = addL (ofSort (gr st l3) (-1 - s) l3.length) o0 → Ev (fun k => sr14_Close.l1 k out ((i + 1 : Nat) : Int) l0 l1 l2 l3 st) R) :
  ∀ (m p : Nat) (out : List S39), p + m = l3.length → out.length ≤ 1000000 + p → out.map toJ = addL (ofSort (gr st l3) (-1 - s) p) o0 → Ev (fun k => sr14_Close.l2 k out i s true p l0 l1 l2 l3 st) R
 | 0, p, out, hp, ho, he => by
  have hpl : p = l3.length := by omega
  rw [hpl] at he
  have hj : Ev (fun k => sr14_Close.j3 k out i s true p false l0 l1 l2 l3 st) R := by
   refine Ev.step (fun k => ?_) (hE out he)
   rw [sr14_Close.j3, if_neg (by decide), wrap_up i (by omega)]
  refine Ev.step (fun k => ?_) hj
  rw [sr14_Close.l2, if_neg (by omega)]
 | m + 1, p, out, hp, ho, he => by
  have hlt : p < l3.length := by omega
  have hf := h.few
  have hps : (rd_T64 l3 (p : Int)).f1 = ((gr st l3).ps.getD p (0, [])).1 := by
   have := gr_at st l3 (p : Int) (by omega) (by omega)
   rw [Int.toNat_natCast] at this
   rw [this]
  have hwp := wrap_up p (by omega)
  have hws : wrap64 ((-1) - s) = -1 - s := IntWalk.wrap64_in _ (by omega)
  have main : Ev (fun k => sr14_Close.j3 k out i s true p true l0 l1 l2 l3 st) R := by
   have hsc := ofSort_succ (gr st l3) (-1 - s) p
   by_cases hq : ((gr st l3).ps.getD p (0, [])).1 = -1 - s
   ·rw [if_pos hq] at hsc
    obtain ⟨K1, h1⟩ := has_ev out (p : Int) 0 (by omega)
    by_cases hin : ((p : Int), (0 : Int)) ∈ out.map toJ
    ·have he2 : out.map toJ = addL (ofSort (gr st l3) (-1 - s) (p + 1)) o0 := by
      rw [hsc, addL_app, ← he, addL, if_pos hin, addL]
     obtain ⟨K2, h2⟩ := close_l2 i hi s hs hs2 o0 R hE m (p + 1) out (by omega) (by omega) he2
     refine ⟨max K1 K2 + 1, fun k hk => ?_⟩
     obtain ⟨k, rfl⟩ : ∃ j, k = j + 1 := ⟨k - 1, by omega⟩
     first | dsimp only at h1 h2 ⊢ | dsimp only at h2 ⊢
     rw [sr14_Close.j3, if_pos rfl, if_pos (by omega), if_pos (by omega), hps, hws, if_pos hq, h1 k (by omega), Option.bind_some, decide_eq_true hin, if_pos rfl, hwp]
     exact h2 k (by omega)
    ·have he2 : (out ++ [(⟨(p : Int), 0⟩ : S39)]).map toJ = addL (ofSort (gr st l3) (-1 - s) (p + 1)) o0 := by
      rw [hsc, addL_app, ← he, addL, if_neg hin, addL, List.map_append]
      rfl
     obtain ⟨K2, h2⟩ := close_l2 i hi s hs hs2 o0 R hE m (p + 1) _ (by omega) (by rw [List.length_append, List.length_singleton]; omega) he2
     refine ⟨max K1 K2 + 1, fun k hk => ?_⟩
     obtain ⟨k, rfl⟩ : ∃ j, k = j + 1 := ⟨k - 1, by omega⟩
     first | dsimp only at h1 h2 ⊢ | dsimp only at h2 ⊢
     rw [sr14_Close.j3, if_pos rfl, if_pos (by omega), if_pos (by omega), hps, hws, if_pos hq, h1 k (by omega), Option.bind_some, decide_eq_false hin, if_neg (by decide), if_pos (by omega), hwp]
     exact h2 k (by omega)
   ·rw [if_neg hq, List.append_nil] at hsc
    obtain ⟨K2, h2⟩ := close_l2 i hi s hs hs2 o0 R hE m (p + 1) out (by omega) (by omega) (by rw [hsc]; exact he)
    refine ⟨K2 + 1, fun k hk => ?_⟩
    obtain ⟨k, rfl⟩ : ∃ j, k = j + 1 := ⟨k - 1, by omega⟩
    first | dsimp only at h1 h2 ⊢ | dsimp only at h2 ⊢
    rw [sr14_Close.j3, if_pos rfl, if_pos (by omega), if_pos (by omega), hps, hws, if_neg hq, hwp]
    exact h2 k (by omega)
  refine Ev.step (fun k => ?_) main
  rw [sr14_Close.l2, if_pos (by omega), if_pos rfl, decide_eq_true hs]
theorem close_l1 : ∀ (K i : Nat) (out : List S39) (r : List Itm), growL (gr st l3) K i (out.map toJ) = some r → (out.map toJ).Nodup → (∀ x ∈ out.map toJ, isI (gr st l3) x = true) → i ≤ out.length → Ev (fun k => sr14_Close.l1 k out i l0 l1 l2 l3 st) ((riseR r r.length []).map ofJ)
 | 0, i, out, r, hg, hd, ha, hi => by cases hg
 | K + 1, i, out, r, hg, hd, ha, hi => by
  have hlen : out.length ≤ 1562 := by
   have h1 := few_of (allI (gr st l3)) (out.map toJ) hd (fun x hx => allI_has _ x (ha x hx))
   have h2 := allI_len h
   rw [List.length_map] at h1
   omega
  rw [growL, List.getElem?_map] at hg
  by_cases hlt : i < out.length
  ·rw [List.getElem?_eq_getElem hlt, Option.map_some] at hg
   simp only at hg
   have hbh := refbehind_is h hv hr out[i].f0 out[i].f1
   obtain ⟨⟨M, a1⟩, a2, a3⟩ := addL_is (nexts (gr st l3) (toJ out[i])) (out.map toJ)
   have hil : i < 4000000000000 := by omega
   -- what comes after
   have hE : ∀ out' : List S39, out'.map toJ = addL (nexts (gr st l3) (toJ out[i])) (out.map toJ) → Ev (fun k => sr14_Close.l1 k out' ((i + 1 : Nat) : Int) l0 l1 l2 l3 st) ((riseR r r.length []).map ofJ) := fun out' he => by
    refine close_l1 K (i + 1) out' r (by rw [he]; exact hg) (by rw [he]; exact a3 hd) (fun x hx => ?_) ?_
    ·rw [he] at hx
     rcases (a2 x).1 hx with e | e
     ·exact ha x e
     ·exact nexts_is _ _ x e
    ·have e := congrArg List.length he
     rw [a1, List.length_append, List.length_map, List.length_map] at e
     omega
   have stop : ∀ (s : Int) (ok : Bool), (ok && decide (s < 0)) = false → addL (nexts (gr st l3) (toJ out[i])) (out.map toJ) = out.map toJ → Ev (fun k => sr14_Close.l2 k out i s ok 0 l0 l1 l2 l3 st) ((riseR r r.length []).map ofJ) := fun s ok hsk he => by
    have hj : Ev (fun k => sr14_Close.j3 k out i s ok 0 false l0 l1 l2 l3 st) ((riseR r r.length []).map ofJ) := by
     refine Ev.step (fun k => ?_) (hE out he.symm)
     rw [sr14_Close.j3, if_neg (by decide), wrap_up i (by omega)]
    refine Ev.step (fun k => ?_) hj
    rw [sr14_Close.l2]
    split
    ·cases ok with
     | true =>
      rw [Bool.true_and] at hsk
      rw [if_pos rfl, hsk]
     | false => rw [if_neg (by decide)]
    ·rfl
   cases hb : behindL (gr st l3) (out[i].f0, out[i].f1) with
   | none =>
    rw [hb] at hbh
    have hn : nexts (gr st l3) (toJ out[i]) = [] := by
     unfold nexts toJ
     rw [hb]
    have hz := stop 0 false rfl (by rw [hn]; rfl)
    refine Ev.step (fun k => ?_) hz
    rw [sr14_Close.l1, if_pos (by omega), if_pos (by omega), rd39 out i hlt, hbh, Option.bind_some]
   | some s =>
    rw [hb] at hbh
    have hsr : -9223372036854775808 ≤ s := behind_rng h (fun p hp s hs => (hr p hp s hs).1) hb
    by_cases hs : s < 0
    ·have hn : nexts (gr st l3) (toJ out[i]) = ofSort (gr st l3) (-1 - s) l3.length := by
      rw [nexts_ofSort _ (toJ out[i]) s hb hs, gr_len]
     rw [hn] at hE
     have hz := close_l2 h hv hr i hil s hs hsr (out.map toJ) _ hE l3.length 0 out (by omega) (by omega) rfl
     refine Ev.step (fun k => ?_) hz
     rw [sr14_Close.l1, if_pos (by omega), if_pos (by omega), rd39 out i hlt, hbh, Option.bind_some]
     rfl
    ·have hn : nexts (gr st l3) (toJ out[i]) = [] := by
      unfold nexts toJ
      rw [hb]
      simp only
      rw [if_neg hs]
     have hz := stop s true (by rw [Bool.true_and]; exact decide_eq_false hs) (by rw [hn]; rfl)
     refine Ev.step (fun k => ?_) hz
     rw [sr14_Close.l1, if_pos (by omega), if_pos (by omega), rd39 out i hlt, hbh, Option.bind_some]
  ·rw [List.getElem?_eq_none (by omega), Option.map_none] at hg
   simp only at hg
   have hg := Option.some.inj hg
   have hz := rising_ev out (by omega)
   rw [hg, show out.length = r.length by rw [← hg, List.length_map]] at hz
   obtain ⟨K2, h2⟩ := hz
   refine ⟨K2 + 1, fun k hk => ?_⟩
   obtain ⟨k, rfl⟩ : ∃ j, k = j + 1 := ⟨k - 1, by omega⟩
   first | dsimp only at h1 h2 ⊢ | dsimp only at h2 ⊢
   rw [sr14_Close.l1, if_neg (by omega), h2 k (by omega), Option.bind_some]
end
end Go.Proofs.YtclollnicbcooaaDoor.P
end

section
namespace Go.Proofs.YtclollnicbcooaaDoor.P
open Go.RowKit Go.Proofs.YtclollnicbcooaaDoorW.PrintWords Go.Proofs.YtclollnicbcooaaDoorW.PrintLast Go.Proofs.YtclollnicbcooaaDoorW.PrintMore St

theorem rd37 (l : List S37) (i : Nat) (h : i < l.length) : rd_T37 l (i : Int) = l[i] := by
 unfold rd_T37
 rw [Int.toNat_natCast, List.getD_eq_getElem?_getD, List.getElem?_eq_getElem h]
 rfl
theorem lawrow_l0 (l : List S37) (hl : l.length ≤ 4000000000000) : ∀ (m i : Nat) (out : List S39), i + m = l.length → out.length = i → Ev (fun k => sl14_Row.l0 k l out i) (out ++ ((l.drop i).map toI).map ofJ)
 | 0, i, out, hi, ho => by
  refine Ev.step (f := fun _ => some out) (fun k => ?_) ?_
  ·rw [sl14_Row.l0, if_neg (by omega)]
  ·rw [List.drop_eq_nil_of_le (by omega), List.map_nil, List.map_nil, List.append_nil]
   exact Ev.now _
 | m + 1, i, out, hi, ho => by
  have hlt : i < l.length := by omega
  have ih := lawrow_l0 l hl m (i + 1) (out ++ [(⟨l[i].f0, l[i].f1⟩ : S39)]) (by omega) (by rw [List.length_append, List.length_singleton]; omega)
  rw [List.append_assoc] at ih
  rw [List.drop_eq_getElem_cons hlt]
  refine Ev.step (fun k => ?_) ih
  rw [sl14_Row.l0, if_pos (by omega), if_pos (by omega), if_pos (by omega), rd37 l i hlt, wrap_up i (by omega)]
theorem lawrow_ev (l : List S37) (hl : l.length ≤ 4000000000000) : Ev (fun k => sl14_Row.f k l) ((l.map toI).map ofJ) := by
 have := lawrow_l0 l hl l.length 0 [] (by omega) rfl
 rw [List.nil_append, List.drop_zero] at this
 exact this
theorem refrow_l0 (a b : List S39) (hl : a.length = b.length) (hs : a.length ≤ 4000000000000) : ∀ (m i : Nat), i + m = a.length → Ev (fun k => sr14_Row.l0 k a b i) (decide ((a.drop i).map toJ = (b.drop i).map toJ))
 | 0, i, hi => by
  refine Ev.step (f := fun _ => some true) (fun k => ?_) ?_
  ·rw [sr14_Row.l0, if_neg (by omega)]
  ·rw [List.drop_eq_nil_of_le (by omega), List.drop_eq_nil_of_le (by omega)]
   exact Ev.now _
 | m + 1, i, hi => by
  have hla : i < a.length := by omega
  have hlb : i < b.length := by omega
  have ih := refrow_l0 a b hl hs m (i + 1) (by omega)
  rw [List.drop_eq_getElem_cons hla, List.drop_eq_getElem_cons hlb, List.map_cons, List.map_cons]
  by_cases he : toJ a[i] = toJ b[i]
  ·have e : decide (toJ a[i] :: (a.drop (i + 1)).map toJ = toJ b[i] :: (b.drop (i + 1)).map toJ) = decide ((a.drop (i + 1)).map toJ = (b.drop (i + 1)).map toJ) := by
    rw [decide_eq_decide, List.cons.injEq]
    exact ⟨fun h => h.2, fun h => ⟨he, h⟩⟩
   rw [e]
   have h0 : a[i].f0 = b[i].f0 := congrArg Prod.fst he
   have h1 : a[i].f1 = b[i].f1 := congrArg Prod.snd he
   refine Ev.step (fun k => ?_) ih
   rw [sr14_Row.l0, if_pos (by omega), if_pos (by omega), if_pos (by omega), rd39 a i hla, rd39 b i hlb, h0, h1, if_neg (by simp), wrap_up i (by omega)]
  ·rw [decide_eq_false (fun h => he (List.cons.inj h).1)]
   refine Ev.step (f := fun _ => some false) (fun k => ?_) (Ev.now _)
   rw [sr14_Row.l0, if_pos (by omega), if_pos (by omega), if_pos (by omega), rd39 a i hla, rd39 b i hlb, if_pos]
   rw [Bool.or_eq_true, Bool.not_eq_true', Bool.not_eq_true', beq_eq_false_iff_ne, beq_eq_false_iff_ne]
   by_cases h0 : a[i].f0 = b[i].f0
   ·exact .inr fun h1 => he (Prod.ext h0 h1)
   ·exact .inl h0
theorem refrow_ev (a b : List Itm) (hs : a.length ≤ 4000000000000) : Ev (fun k => sr14_Row.f k (a.map ofJ) (b.map ofJ)) (decide (a = b)) := by
 by_cases hl : a.length = b.length
 ·have hz := refrow_l0 (a.map ofJ) (b.map ofJ) (by rw [List.length_map, List.length_map]; exact hl) (by rw [List.length_map]; exact hs) (a.map ofJ).length 0 (by omega)
  rw [List.drop_zero, List.drop_zero, map_toJ_ofJ, map_toJ_ofJ] at hz
  refine Ev.congr (fun k => ?_) hz
  unfold sr14_Row.f
  rw [if_pos (by rw [List.length_map, List.length_map, hl])]
  rfl
 ·rw [decide_eq_false (fun h => hl (congrArg List.length h))]
  refine Ev.congr (f := fun _ => some false) (fun k => ?_) (Ev.now _)
  unfold sr14_Row.f
  rw [if_neg (by rw [List.length_map, List.length_map]; omega)]

section
variable {l0 : List S82} {l1 : List S101} {l2 : List ByteArray} {l3 : List S64} {st : Int} (h : Fits l2 l3 st) (hv : validB l0 l1 l2 l3 st = true) (hr : ∀ p ∈ l3, ∀ s ∈ p.f2, -9223372036854775808 ≤ s ∧ s ≤ 9223372036854775807)
include h hv hr
theorem close_l0 (l : List S39) (hl : l.length ≤ 1000000) (K : Nat) (r : List Itm) (hg : growL (gr st l3) K 0 (baseL (gr st l3) (l.map toJ)) = some r) : ∀ (m i : Nat) (out : List S39), i + m = l.length → out.length ≤ i → addL (((l.drop i).map toJ).filter fun x => isI (gr st l3) x) (out.map toJ) = baseL (gr st l3) (l.map toJ) → Ev (fun k => sr14_Close.l0 k l out i l0 l1 l2 l3 st) ((riseR r r.length []).map ofJ)
 | 0, i, out, hi, ho, he => by
  rw [List.drop_eq_nil_of_le (by omega), List.map_nil, List.filter_nil, addL] at he
  obtain ⟨b1, b2, b3⟩ := baseL_is (gr st l3) (l.map toJ)
  refine Ev.step (fun k => ?_) (close_l1 h hv hr K 0 out r (by rw [he]; exact hg) (by rw [he]; exact b1) (by rw [he]; exact b2) (Nat.zero_le _))
  rw [sr14_Close.l0, if_neg (by omega)]
  rfl
 | m + 1, i, out, hi, ho, he => by
  have hlt : i < l.length := by omega
  have hw := wrap_up i (by omega)
  rw [List.drop_eq_getElem_cons hlt, List.map_cons] at he
  have his := refis_is h hv hr l[i].f0 l[i].f1
  cases hI : isI (gr st l3) (l[i].f0, l[i].f1) with
  | false =>
   rw [List.filter_cons_of_neg (by rw [show toJ l[i] = (l[i].f0, l[i].f1) from rfl, hI]; decide)] at he
   rw [hI] at his
   refine Ev.step (fun k => ?_) (close_l0 l hl K r hg m (i + 1) out (by omega) (by omega) he)
   rw [sr14_Close.l0, if_pos (by omega), if_pos (by omega), rd39 l i hlt, his, Option.bind_some, if_neg (by decide), hw]
  | true =>
   rw [List.filter_cons_of_pos (by rw [show toJ l[i] = (l[i].f0, l[i].f1) from rfl, hI]), addL] at he
   rw [hI] at his
   obtain ⟨K1, h1⟩ := has_ev out l[i].f0 l[i].f1 (by omega)
   by_cases hin : toJ l[i] ∈ out.map toJ
   ·rw [if_pos hin] at he
    obtain ⟨K2, h2⟩ := close_l0 l hl K r hg m (i + 1) out (by omega) (by omega) he
    refine ⟨max K1 K2 + 1, fun k hk => ?_⟩
    obtain ⟨k, rfl⟩ : ∃ j, k = j + 1 := ⟨k - 1, by omega⟩
    first | dsimp only at h1 h2 ⊢ | dsimp only at h2 ⊢
    rw [sr14_Close.l0, if_pos (by omega), if_pos (by omega), rd39 l i hlt, his, Option.bind_some, if_pos rfl, h1 k (by omega), Option.bind_some, decide_eq_true (show (l[i].f0, l[i].f1) ∈ out.map toJ from hin), if_pos rfl, hw]
    exact h2 k (by omega)
   ·rw [if_neg hin] at he
    obtain ⟨K2, h2⟩ := close_l0 l hl K r hg m (i + 1) (out ++ [(⟨l[i].f0, l[i].f1⟩ : S39)]) (by omega) (by rw [List.length_append, List.length_singleton]; omega) (by rw [List.map_append]; exact he)
    refine ⟨max K1 K2 + 1, fun k hk => ?_⟩
    obtain ⟨k, rfl⟩ : ∃ j, k = j + 1 := ⟨k - 1, by omega⟩
    first | dsimp only at h1 h2 ⊢ | dsimp only at h2 ⊢
    rw [sr14_Close.l0, if_pos (by omega), if_pos (by omega), rd39 l i hlt, his, Option.bind_some, if_pos rfl, h1 k (by omega), Option.bind_some, decide_eq_false (show ¬ (l[i].f0, l[i].f1) ∈ out.map toJ from hin), if_neg (by decide), if_pos (by omega), hw]
    exact h2 k (by omega)
theorem refclose_ev (l : List Itm) (hl : l.length ≤ 1000000) : Ev (fun k => sr14_Close.f k l0 l1 l2 l3 st (l.map ofJ)) ((risen (closedL (gr st l3) l)).map ofJ) := by
 obtain ⟨r, hg, hR⟩ := refClose_is (gr st l3) l ((allI (gr st l3)).length + 1) (Nat.lt_succ_self _)
 have e := hR.one (closedL_rise h l) (fun _ => Iff.rfl)
 rw [← e]
 exact close_l0 h hv hr (l.map ofJ) (by rw [List.length_map]; exact hl) _ r (by rw [map_toJ_ofJ]; exact hg) (l.map ofJ).length 0 [] (by omega) (Nat.zero_le _) (by rw [List.drop_zero]; rfl)
theorem refstep_l0 (c : List S39) (s : Int) (hc : c.length ≤ 1562) (hci : ∀ x ∈ c, isI (gr st l3) (toJ x) = true) (T : List Itm) : ∀ (m i : Nat) (out : List S39), i + m = c.length → out.length ≤ i → out.map toJ ++ stepL (gr st l3) ((c.drop i).map toJ) s = T → Ev (fun k => sr14_Step.l0 k s out c i l0 l1 l2 l3 st) ((riseR T T.length []).map ofJ)
 | 0, i, out, hi, ho, he => by
  rw [List.drop_eq_nil_of_le (by omega), List.map_nil, show stepL (gr st l3) [] s = [] from rfl, List.append_nil] at he
  obtain ⟨K2, h2⟩ := rising_ev out (by omega)
  rw [he, show out.length = T.length by rw [← he, List.length_map]] at h2
  refine ⟨K2 + 1, fun k hk => ?_⟩
  obtain ⟨k, rfl⟩ : ∃ j, k = j + 1 := ⟨k - 1, by omega⟩
  first | dsimp only at h1 h2 ⊢ | dsimp only at h2 ⊢
  rw [sr14_Step.l0, if_neg (by omega), h2 k (by omega), Option.bind_some]
 | m + 1, i, out, hi, ho, he => by
  have hlt : i < c.length := by omega
  have hw := wrap_up i (by omega)
  rw [List.drop_eq_getElem_cons hlt, List.map_cons] at he
  have hb := refbehind_is h hv hr c[i].f0 c[i].f1
  have hi2 := isI_rng h (hci _ (List.getElem_mem hlt))
  have hu : wrap64 (c[i].f1 + 1) = c[i].f1 + 1 := IntWalk.wrap64_in _ (by have e : (toJ c[i]).2 = c[i].f1 := rfl; rw [e] at hi2; omega)
  have go (he' : out.map toJ ++ stepL (gr st l3) ((c.drop (i + 1)).map toJ) s = T) := refstep_l0 c s hc hci T m (i + 1) out (by omega) (by omega) he'
  cases hB : behindL (gr st l3) (c[i].f0, c[i].f1) with
  | none =>
   rw [hB] at hb
   have e : stepL (gr st l3) (toJ c[i] :: (c.drop (i + 1)).map toJ) s = stepL (gr st l3) ((c.drop (i + 1)).map toJ) s := by
    unfold stepL
    rw [List.filterMap_cons_none]
    rw [show toJ c[i] = (c[i].f0, c[i].f1) from rfl, hB]
    rfl
   rw [e] at he
   refine Ev.step (fun k => ?_) (go he)
   rw [sr14_Step.l0, if_pos (by omega), if_pos (by omega), rd39 c i hlt, hb, Option.bind_some]
   simp only
   rw [if_neg (by decide), hw]
  | some t =>
   rw [hB] at hb
   by_cases ht : t = s
   ·have e : stepL (gr st l3) (toJ c[i] :: (c.drop (i + 1)).map toJ) s = (c[i].f0, c[i].f1 + 1) :: stepL (gr st l3) ((c.drop (i + 1)).map toJ) s := by
     unfold stepL
     rw [List.filterMap_cons_some]
     rw [show toJ c[i] = (c[i].f0, c[i].f1) from rfl, hB, ht, if_pos rfl]
    rw [e] at he
    have ih := refstep_l0 c s hc hci T m (i + 1) (out ++ [(⟨c[i].f0, c[i].f1 + 1⟩ : S39)]) (by omega) (by rw [List.length_append, List.length_singleton]; omega) (by rw [List.map_append, List.append_assoc]; exact he)
    refine Ev.step (fun k => ?_) ih
    rw [sr14_Step.l0, if_pos (by omega), if_pos (by omega), rd39 c i hlt, hb, Option.bind_some]
    simp only
    rw [if_pos trivial, if_pos ht, if_pos (by omega), hw, hu]
   ·have e : stepL (gr st l3) (toJ c[i] :: (c.drop (i + 1)).map toJ) s = stepL (gr st l3) ((c.drop (i + 1)).map toJ) s := by
     unfold stepL
     rw [List.filterMap_cons_none]
     rw [show toJ c[i] = (c[i].f0, c[i].f1) from rfl, hB, if_neg (fun e => ht (Option.some.inj e))]
    rw [e] at he
    refine Ev.step (fun k => ?_) (go he)
    rw [sr14_Step.l0, if_pos (by omega), if_pos (by omega), rd39 c i hlt, hb, Option.bind_some]
    simp only
    rw [if_pos trivial, if_neg ht, hw]
theorem refstep_ev (l : List Itm) (s : Int) (hl : l.length ≤ 1000000) : Ev (fun k => sr14_Step.f k l0 l1 l2 l3 st (l.map ofJ) s) ((Sg (gr st l3) l s).map ofJ) := by
 unfold sr14_Step.f
 refine Ev.bind (f := fun k t => sr14_Step.l0 k s ([] : List S39) t 0 l0 l1 l2 l3 st) (refclose_ev h hv hr l hl) ?_
 have hz := refstep_l0 h hv hr ((risen (closedL (gr st l3) l)).map ofJ) s (by rw [List.length_map]; exact closed_small h l) (fun x hx => by
  obtain ⟨y, hy, rfl⟩ := List.mem_map.1 hx
  exact cl_is _ _ _ ((closedL_rise h l).mem y |>.1 hy)) _ _ 0 [] (Nat.zero_add _) (Nat.zero_le _) rfl
 rw [List.drop_zero, map_toJ_ofJ, List.map_nil, List.nil_append] at hz
 unfold Sg
 rw [← risen_one (riseR_all (stepL (gr st l3) (risen (closedL (gr st l3) l)) s))]
 exact hz
end

/-! ### of a grammar that may not be -/
section
variable {l0 : List S82} {l1 : List S101} {l2 : List ByteArray} {l3 : List S64} {st : Int} (hv : validB l0 l1 l2 l3 st = false) (hr : ∀ p ∈ l3, ∀ s ∈ p.f2, -9223372036854775808 ≤ s ∧ s ≤ 9223372036854775807)
include hv hr
end
end Go.Proofs.YtclollnicbcooaaDoor.P
end

section
namespace Go.Proofs.YtclollnicbcooaaDoor.P
open Go.RowKit Go.Proofs.YtclollnicbcooaaDoorW.PrintWords Go.Proofs.YtclollnicbcooaaDoorW.PrintLast Go.Proofs.YtclollnicbcooaaDoorW.PrintMore

theorem few_end (l0 : List S82) (l1 : List S101) (l2 : List ByteArray) (l3 : List S64) (st : Int) (k : Nat) (i : Int) :
  ∃ b, sl13_Few.j1 (k + 1) i false l0 l1 l2 l3 st = some b ∧ (b = true → l0.length ≤ 10 ∧ l2.length ≤ 8 ∧ l3.length ≤ 14 ∧ l1.length ≤ 30) := by
 unfold sl13_Few.j1
 rw [if_neg (by decide)]
 split
 ·split
  ·split
   ·exact ⟨_, rfl, fun h => by have := of_decide_eq_true h; omega⟩
   ·exact ⟨_, rfl, fun h => by cases h⟩
  ·exact ⟨_, rfl, fun h => by cases h⟩
 ·exact ⟨_, rfl, fun h => by cases h⟩

theorem few_l0 (l0 : List S82) (l1 : List S101) (l2 : List ByteArray) (l3 : List S64) (st : Int) : ∀ (m i : Nat), i + m = 15 → ∀ k, 2 * m + 2 ≤ k →
  ∃ b, sl13_Few.l0 k i l0 l1 l2 l3 st = some b ∧ (b = true → l0.length ≤ 10 ∧ l2.length ≤ 8 ∧ l3.length ≤ 14 ∧ l1.length ≤ 30)
 | m, i, hi, 0, hk => by omega
 | m, i, hi, 1, hk => by omega
 | 0, i, hi, k + 2, hk => by
  unfold sl13_Few.l0
  have e : decide ((i : Int) < 15) = false := decide_eq_false (by omega)
  rw [e]
  split
  ·exact few_end l0 l1 l2 l3 st k i
  ·exact few_end l0 l1 l2 l3 st k i
 | m + 1, i, hi, k + 2, hk => by
  unfold sl13_Few.l0
  have e : decide ((i : Int) < 15) = true := decide_eq_true (by omega)
  rw [e]
  split
  ·unfold sl13_Few.j1
   rw [if_pos rfl, if_pos (by omega), if_pos (by assumption)]
   split
   ·exact ⟨_, rfl, fun h => by cases h⟩
   ·have w : wrap64 ((i : Int) + 1) = ((i + 1 : Nat) : Int) := by unfold wrap64; omega
    rw [w]
    exact few_l0 l0 l1 l2 l3 st m (i + 1) (by omega) k (by omega)
  ·exact few_end l0 l1 l2 l3 st k i

theorem few_is (l0 : List S82) (l1 : List S101) (l2 : List ByteArray) (l3 : List S64) (st : Int) (k : Nat) (hk : 32 ≤ k) :
  ∃ b, sl13_Few.f k l0 l1 l2 l3 st = some b ∧ (b = true → l0.length ≤ 10 ∧ l2.length ≤ 8 ∧ l3.length ≤ 14 ∧ l1.length ≤ 30) :=
 few_l0 l0 l1 l2 l3 st 15 0 rfl k (by omega)

end Go.Proofs.YtclollnicbcooaaDoor.P
end

section
namespace Go.Proofs.YtclollnicbcooaaDoor.P
open Go.RowKit Go.Proofs.YtclollnicbcooaaDoorW.PrintWords Go.Proofs.YtclollnicbcooaaDoorW.PrintLast Go.Proofs.YtclollnicbcooaaDoorW.PrintMore St

theorem i64_range {x : Int} (h : (Lit.int .i64 x).wf = true) : -9223372036854775808 ≤ x ∧ x ≤ 9223372036854775807 := by
 have := bounds_i64 h
 omega
theorem prods_range {x : S27} (h : wf27 x) : ∀ p ∈ x.f3, ∀ s ∈ p.f2, -9223372036854775808 ≤ s ∧ s ≤ 9223372036854775807 :=
 fun p hp s hs => i64_range ((h.2.2.2.1.2 p hp).2.2.1.2 s hs)
theorem okP_of {l3 : List S64} (hr : ∀ p ∈ l3, ∀ s ∈ p.f2, -9223372036854775808 ≤ s ∧ s ≤ 9223372036854775807) : l3.all okP = true :=
 List.all_eq_true.2 fun p hp => List.all_eq_true.2 fun s hs => decide_eq_true (hr p hp s hs).1
/-! ### the program and the document -/
section
variable {l0 : List S82} {l1 : List S101} {l2 : List ByteArray} {l3 : List S64} {st : Int} (hr : ∀ p ∈ l3, ∀ s ∈ p.f2, -9223372036854775808 ≤ s ∧ s ≤ 9223372036854775807)
include hr
/-- The automaton is built, or has too many states. -/
theorem build_ok (hv : validB l0 l1 l2 l3 st = true) : (∃ R, builtL l0.length l2.length (gr st l3) = some R ∧ states_Build.f l0 l1 l2 l3 st = some (outB R)) := by
 obtain ⟨R, hR⟩ := buildL_ends (Sg (gr st l3)) (symsL l0.length l2.length) 2000 2001 2003 0 [[(-1, 0)]] [] (by omega) (by omega) (by simp)
 refine ⟨R, hR, ?_⟩
 unfold states_Build.f
 rw [if_pos hv, if_pos (okP_of hr)]
 show Option.map outB (builtL l0.length l2.length (gr st l3)) = _
 unfold builtL
 rw [hR]
 rfl
omit hr in
theorem build_not (hv : validB l0 l1 l2 l3 st = false) : states_Build.f l0 l1 l2 l3 st = some ([], [], 1) := by
 unfold states_Build.f
 rw [hv, if_neg (by decide)]
end
theorem built_is {T S : Nat} {g : Gr} {K : List (List Itm)} {N : List (List Int)} (h : builtL T S g = some (some (K, N))) : Built (Sg g) (symsL T S) [(-1, 0)] K N ∧ N.length = K.length :=
 buildL_is (Sg g) (symsL T S) 2000 [(-1, 0)] 2003 [[(-1, 0)]] [] (K, N) (Built.start _ _ _) h
theorem symsL_at (T S j : Nat) (h : j < T + S) : (symsL T S)[j]? = some (if T ≤ j then -1 - ((j : Int) - T) else (j : Int)) := by
 unfold symsL
 by_cases hT : j < T
 ·rw [List.getElem?_append_left (by simpa using hT), List.getElem?_map, List.getElem?_range hT, if_neg (by omega)]
  rfl
 ·rw [List.getElem?_append_right (by simpa using Nat.le_of_not_lt hT), List.length_map, List.length_range, List.getElem?_map, List.getElem?_range (by omega), if_pos (by omega), Option.map_some]
  congr 1
  omega
end Go.Proofs.YtclollnicbcooaaDoor.P
end

section
namespace Go.Proofs.YtclollnicbcooaaDoor.P
open Go.RowKit Go.Proofs.YtclollnicbcooaaDoorW.PrintWords Go.Proofs.YtclollnicbcooaaDoorW.PrintLast Go.Proofs.YtclollnicbcooaaDoorW.PrintMore St

theorem works_true : sl14_works.f = some true := by
 have h1 := e_build
 have h2 := e_close
 have h3 := e_step
 have h4 : states_Behind.f e0 [] e2 e3 0 0 0 = some (0, true) := by kernel_rfl
 unfold e0 e2 e3 at h1 h2 h3 h4
 unfold sl14_works.f
 rw [Option.bind_some, Option.bind_some, Option.bind_some, h1, Option.bind_some, h2, Option.bind_some, h3, Option.bind_some, h4, Option.bind_some]
 show _ = some true
 kernel_rfl

end Go.Proofs.YtclollnicbcooaaDoor.P
end

section
namespace Go.Proofs.YtclollnicbcooaaDoor.P
open Go.RowKit Go.Proofs.YtclollnicbcooaaDoorW.PrintWords Go.Proofs.YtclollnicbcooaaDoorW.PrintLast Go.Proofs.YtclollnicbcooaaDoorW.PrintMore St

theorem little_l0 (x3 : Bool) (l0 : List S82) (l1 : List S101) (l2 : List ByteArray) (l3 : List S64) (st : Int) : ∀ (m i : Nat), i + m = 15 → ∃ b, Ev (fun k => sl14_Little.l0 k x3 i l0 l1 l2 l3 st) b
 | 0, i, hi => by
  refine ⟨if x3 = true then decide ((l3.length : Int) ≤ 10) else false, ?_⟩
  have hj : Ev (fun k => sl14_Little.j1 k x3 i false l0 l1 l2 l3 st) (if x3 = true then decide ((l3.length : Int) ≤ 10) else false) := by
   refine Ev.step (f := fun _ => some (if x3 = true then decide ((l3.length : Int) ≤ 10) else false)) (fun k => ?_) (Ev.now _)
   rw [sl14_Little.j1, if_neg (by decide)]
   split <;> rfl
  refine Ev.step (fun k => ?_) hj
  rw [sl14_Little.l0, decide_eq_false (by omega)]
  split <;> rfl
 | m + 1, i, hi => by
  have hw := wrap_up i (by omega)
  by_cases hlt : i < l3.length
  ·by_cases h5 : (((rd_T64 l3 (i : Int)).f2).length : Int) > 5
   ·refine ⟨false, ?_⟩
    have hj : Ev (fun k => sl14_Little.j1 k x3 i true l0 l1 l2 l3 st) false := by
     refine Ev.step (f := fun _ => some false) (fun k => ?_) (Ev.now _)
     rw [sl14_Little.j1, if_pos rfl, if_pos (by omega), if_pos (by omega), if_pos h5]
    refine Ev.step (fun k => ?_) hj
    rw [sl14_Little.l0, if_pos (by omega), decide_eq_true (by omega)]
   ·obtain ⟨b, ih⟩ := little_l0 x3 l0 l1 l2 l3 st m (i + 1) (by omega)
    refine ⟨b, ?_⟩
    have hj : Ev (fun k => sl14_Little.j1 k x3 i true l0 l1 l2 l3 st) b := by
     refine Ev.step (fun k => ?_) ih
     rw [sl14_Little.j1, if_pos rfl, if_pos (by omega), if_pos (by omega), if_neg h5, hw]
    refine Ev.step (fun k => ?_) hj
    rw [sl14_Little.l0, if_pos (by omega), decide_eq_true (by omega)]
  ·refine ⟨if x3 = true then decide ((l3.length : Int) ≤ 10) else false, ?_⟩
   have hj : Ev (fun k => sl14_Little.j1 k x3 i false l0 l1 l2 l3 st) (if x3 = true then decide ((l3.length : Int) ≤ 10) else false) := by
    refine Ev.step (f := fun _ => some (if x3 = true then decide ((l3.length : Int) ≤ 10) else false)) (fun k => ?_) (Ev.now _)
    rw [sl14_Little.j1, if_neg (by decide)]
    split <;> rfl
   refine Ev.step (fun k => ?_) hj
   rw [sl14_Little.l0, if_neg (by omega)]
theorem little_ev (l0 : List S82) (l1 : List S101) (l2 : List ByteArray) (l3 : List S64) (st : Int) : ∃ b, Ev (fun k => sl14_Little.f k l0 l1 l2 l3 st) b := by
 obtain ⟨b0, hf, -⟩ := few_is l0 l1 l2 l3 st 32 (Nat.le_refl _)
 obtain ⟨b, hb⟩ := little_l0 b0 l0 l1 l2 l3 st 15 0 rfl
 refine ⟨b, ?_⟩
 unfold sl14_Little.f
 exact Ev.bind (f := fun k t => sl14_Little.l0 k t 0 l0 l1 l2 l3 st) (Ev.of (fun k => sl13_Few.mono _ _ _ _ _ k) hf) hb

theorem rdL15 (K : List (List Itm)) (i : Nat) (h : i < K.length) : rd_L15 (K.map (·.map ofI)) (i : Int) = K[i].map ofI := by
 unfold rd_L15
 rw [Int.toNat_natCast, List.getD_eq_getElem?_getD, List.getElem?_map, List.getElem?_eq_getElem h]
 rfl
theorem rdL17 (N : List (List Int)) (i : Nat) (h : i < N.length) : rd_L17 N (i : Int) = N[i] := by
 unfold rd_L17
 rw [Int.toNat_natCast, List.getD_eq_getElem?_getD, List.getElem?_eq_getElem h]
 rfl
section
variable {l0 : List S82} {l1 : List S101} {l2 : List ByteArray} {l3 : List S64} {st : Int} (hv : validB l0 l1 l2 l3 st = true) (hr : ∀ p ∈ l3, ∀ s ∈ p.f2, -9223372036854775808 ≤ s ∧ s ≤ 9223372036854775807)
include hv
theorem built_small {K : List (List Itm)} {N : List (List Int)} (h : Built (Sg (gr st l3)) (symsL l0.length l2.length) [(-1, 0)] K N) : ∀ c ∈ K, c.length ≤ 1562 ∧ ∀ x ∈ c, rngI x := by
 intro c hc
 obtain ⟨j, hj, rfl⟩ := List.mem_iff_getElem.1 hc
 have hx : K[j]? = some K[j] := List.getElem?_eq_getElem hj
 by_cases h0 : j = 0
 ·subst h0
  have := h.first
  rw [hx] at this
  rw [Option.some.inj this]
  refine ⟨by simp, fun x hx => ?_⟩
  rw [List.mem_singleton] at hx
  subst hx
  unfold rngI
  simp only
  omega
 ·obtain ⟨i, d, s, _, _, _, _, e⟩ := h.come j _ hx h0
  rw [e]
  exact Sg_small (fits_of hv) d s
end
end Go.Proofs.YtclollnicbcooaaDoor.P
end

section
namespace Go.Proofs.YtclollnicbcooaaDoor.P
open Go.RowKit Go.Proofs.YtclollnicbcooaaDoorW.PrintWords Go.Proofs.YtclollnicbcooaaDoorW.PrintLast Go.Proofs.YtclollnicbcooaaDoorW.PrintMore St

def outR : Option (List (List Itm) × List (List Int)) → List (List S39) × List (List Int) × Int
 | none => ([], [], 4)
 | some (K, N) => (K.map (·.map ofJ), N, 0)
theorem numb_new {K : List (List Itm)} {l : List Itm} (hl : l ≠ []) (h : ∀ c ∈ K, c ≠ l) : numb K l = ((K.length : Int), K ++ [l]) := by
 rcases numb_cases K l hl with ⟨j, hj, _⟩ | ⟨_, e⟩
 ·exact absurd rfl (h l (List.mem_of_getElem? hj))
 ·exact e
theorem numb_at {K : List (List Itm)} {l : List Itm} (hl : l ≠ []) {i : Nat} (hi : i < K.length) (he : K[i] = l) (h : ∀ (j : Nat) (hj : j < K.length), j < i → K[j] ≠ l) : numb K l = ((i : Int), K) := by
 rcases numb_cases K l hl with ⟨j, hj, e⟩ | ⟨hn, _⟩
 ·unfold numb at e ⊢
  rw [if_neg hl] at e ⊢
  have hf : K.findIdx? (fun k => decide (k = l)) = some i := by
   rw [List.findIdx?_eq_some_iff_getElem]
   exact ⟨hi, decide_eq_true he, fun j hj => by simpa using h j (by omega) hj⟩
  rw [hf]
 ·exact absurd (he ▸ List.getElem_mem hi) hn
theorem rdL21 (K : List (List Itm)) (i : Nat) (h : i < K.length) : rd_L21 (K.map (·.map ofJ)) (i : Int) = K[i].map ofJ := by
 unfold rd_L21
 rw [Int.toNat_natCast, List.getD_eq_getElem?_getD, List.getElem?_map, List.getElem?_eq_getElem h]
 rfl
section
variable {l0 : List S82} {l1 : List S101} {l2 : List ByteArray} {l3 : List S64} {st : Int} (hv : validB l0 l1 l2 l3 st = true) (hr : ∀ p ∈ l3, ∀ s ∈ p.f2, -9223372036854775808 ≤ s ∧ s ≤ 9223372036854775807) {R : List (List S39) × List (List Int) × Int}
include hv hr
theorem refb_l2 (i : Int) (nums : List Int) (hn : nums.length ≤ 1000) (j : Nat) (hj : j ≤ 1000) (l : List Itm) (hl : l.length ≤ 1562) (K : List (List Itm)) (N : List (List Int)) (hK : K.length ≤ 4000) (hs : ∀ c ∈ K, c.length ≤ 1562 ∧ c ≠ [])
  (hE : Ev (fun k => sr14_Build.l1 k i (nums ++ [(numb K l).1]) ((j + 1 : Nat) : Int) l0 l1 l2 l3 st ((numb K l).2.map (·.map ofJ)) N) R) :
  ∀ (m x : Nat), x + m = K.length → (∀ (y : Nat) (hy : y < K.length), y < x → K[y] ≠ l) → Ev (fun k => sr14_Build.l2 k i nums j (l.map ofJ) (-1) x l0 l1 l2 l3 st (K.map (·.map ofJ)) N) R
 | 0, x, hx, hne => by
  have hj4 : Ev (fun k => sr14_Build.j4 k i nums j (l.map ofJ) (-1) x false l0 l1 l2 l3 st (K.map (·.map ofJ)) N) R := by
   by_cases hl0 : l = []
   ·have e : numb K l = (-1, K) := by unfold numb; rw [if_pos hl0]
    rw [e] at hE
    refine Ev.step (fun k => ?_) hE
    rw [sr14_Build.j4, if_neg (by decide), if_neg (by rw [hl0]; simp), if_pos (by omega), wrap_up j (by omega)]
   ·have hpos : 0 < l.length := List.length_pos_iff.2 hl0
    have e := numb_new hl0 (fun c hc he => by
     obtain ⟨y, hy, rfl⟩ := List.mem_iff_getElem.1 hc
     exact hne y hy (by omega) he)
    rw [e] at hE
    refine Ev.step (fun k => ?_) hE
    rw [sr14_Build.j4, if_neg (by decide), if_pos (by rw [List.length_map]; omega), if_pos (by decide), if_pos (by rw [List.length_map]; omega), if_pos (by omega), wrap_up j (by omega), List.length_map, List.map_append]
    rfl
  refine Ev.step (fun k => ?_) hj4
  rw [sr14_Build.l2, if_neg (by rw [List.length_map]; omega)]
 | m + 1, x, hx, hne => by
  have hlt : x < K.length := by omega
  have hxw := wrap_up x (by omega)
  obtain ⟨K1, h1⟩ := refrow_ev K[x] l (by have := (hs _ (List.getElem_mem hlt)).1; omega)
  by_cases he : K[x] = l
  ·have hl0 : l ≠ [] := fun e => (hs _ (List.getElem_mem hlt)).2 (he.trans e)
   have hpos : 0 < l.length := List.length_pos_iff.2 hl0
   have e := numb_at hl0 hlt he (fun y hy hyx => hne y hy hyx)
   rw [e] at hE
   obtain ⟨K2, h2⟩ := hE
   dsimp only at h1 h2
   rw [decide_eq_true he] at h1
   refine ⟨K1 + K2 + 4, fun k hk => ?_⟩
   obtain ⟨k, rfl⟩ : ∃ q, k = q + 4 := ⟨k - 4, by omega⟩
   dsimp only
   rw [sr14_Build.l2, if_pos (by rw [List.length_map]; omega), show decide ((-1 : Int) < 0) = true from rfl, sr14_Build.j4, if_pos rfl, if_pos (by omega), if_pos (by rw [List.length_map]; omega), rdL21 K x hlt, h1 _ (by omega), Option.bind_some, if_pos rfl, hxw, sr14_Build.l2]
   have e2 : decide ((x : Int) < 0) = false := decide_eq_false (by omega)
   have hz : sr14_Build.j4 (k + 1) i nums j (l.map ofJ) x ((x + 1 : Nat) : Int) false l0 l1 l2 l3 st (K.map (·.map ofJ)) N = some R := by
    rw [sr14_Build.j4, if_neg (by decide), if_pos (by rw [List.length_map]; omega), if_neg (by omega), if_pos (by omega), wrap_up j (by omega)]
    exact h2 k (by omega)
   rw [e2, hz]
   split <;> rfl
  ·obtain ⟨K2, h2⟩ := refb_l2 i nums hn j hj l hl K N hK hs hE m (x + 1) (by omega) (fun y hy hyx => by
    by_cases hyx2 : y = x
    ·subst hyx2; exact he
    ·exact hne y hy (by omega))
   dsimp only at h1 h2
   rw [decide_eq_false he] at h1
   refine ⟨K1 + K2 + 2, fun k hk => ?_⟩
   obtain ⟨k, rfl⟩ : ∃ q, k = q + 2 := ⟨k - 2, by omega⟩
   dsimp only
   rw [sr14_Build.l2, if_pos (by rw [List.length_map]; omega), show decide ((-1 : Int) < 0) = true from rfl, sr14_Build.j4, if_pos rfl, if_pos (by omega), if_pos (by rw [List.length_map]; omega), rdL21 K x hlt, h1 _ (by omega), Option.bind_some, if_neg (by decide), hxw]
   exact h2 _ (by omega)
theorem refb_l1 {Ro : Option (List (List Itm) × List (List Int))} {n : Nat} {K0 : List (List Itm)} {N : List (List Int)} {c : List Itm} (hX : Bx l0.length l2.length (gr st l3) Ro (n + 1) K0 N) (hc : K0[N.length]? = some c)
  (ih : ∀ (K : List (List Itm)) (N : List (List Int)), Bx l0.length l2.length (gr st l3) Ro n K N → (∀ c ∈ K, c ≠ []) → Ev (fun k => sr14_Build.l0 k N.length l0 l1 l2 l3 st (K.map (·.map ofJ)) N) (outR Ro)) :
  ∀ (m j : Nat) (nums : List Int) (K : List (List Itm)), j + m = l0.length + l2.length → Rx (Sg (gr st l3) c) (symsL l0.length l2.length) (rowL (Sg (gr st l3) c) (symsL l0.length l2.length) K0) j nums K → (∀ c ∈ K, c ≠ []) → K[N.length]? = some c →
   Ev (fun k => sr14_Build.l1 k N.length nums j l0 l1 l2 l3 st (K.map (·.map ofJ)) N) (outR Ro)
 | 0, j, nums, K, hj, hRx, hne, hcK => by
  have hT := terms_few hv
  have hS := (fits_of hv).sorts
  have hn3 := hX.n3
  have hdone := hRx.done (by rw [symsL_len]; omega)
  obtain ⟨ha, hb⟩ := hX.on hc (K' := K) (nums := nums) hdone hRx.small
  have hfew := hRx.few
  have hw : wrap64 ((l0.length : Int) + (l2.length : Int)) = (l0.length : Int) + l2.length := by unfold wrap64; omega
  by_cases hm : 2000 < K.length
  ·rw [ha hm]
   refine Ev.step (f := fun _ => some (outR none)) (fun k => ?_) (Ev.now _)
   rw [sr14_Build.l1, hw, if_neg (by omega), if_pos (by omega), if_pos (by rw [List.length_map]; omega)]
   rfl
  ·have hz := ih K (N ++ [nums]) (hb hm) hne
   rw [List.length_append, List.length_singleton] at hz
   refine Ev.step (fun k => ?_) hz
   rw [sr14_Build.l1, hw, if_neg (by omega), if_pos (by omega), if_neg (by rw [List.length_map]; omega), wrap_up N.length (by omega)]
 | m + 1, j, nums, K, hj, hRx, hne, hcK => by
  have hT := terms_few hv
  have hS := (fits_of hv).sorts
  have hn3 := hX.n3
  have hfew := hRx.few
  have hnl := hRx.len
  have hw : wrap64 ((l0.length : Int) + (l2.length : Int)) = (l0.length : Int) + l2.length := by unfold wrap64; omega
  have hlt : j < (symsL l0.length l2.length).length := by rw [symsL_len]; omega
  obtain ⟨hNl, hNe⟩ := List.getElem?_eq_some_iff.1 hcK
  have hsy := symsL_at l0.length l2.length j (by omega)
  obtain ⟨s, hs⟩ : ∃ s, s = (if l0.length ≤ j then -1 - ((j : Int) - l0.length) else (j : Int)) := ⟨_, rfl⟩
  rw [← hs] at hsy
  have hrd : Go.Proofs.YtclollnicbcooaaDoorW.PrintWords.rd (symsL l0.length l2.length) j = s := by
   unfold Go.Proofs.YtclollnicbcooaaDoorW.PrintWords.rd
   rw [Int.toNat_natCast, List.getD_eq_getElem?_getD, hsy]
   rfl
  have hsm := Sg_small (fits_of hv) c s
  have hRn := hRx.next hlt hrd hsm
  obtain ⟨M, hM, _, hM2, _, hM4⟩ := numb_is K (Sg (gr st l3) c s)
  have hE := refb_l1 hX hc ih m (j + 1) _ _ (by omega) hRn (fun d hd => by
   rw [hM] at hd
   rcases List.mem_append.1 hd with h1 | h1
   ·exact hne d h1
   ·exact hM4 d h1) (by rw [hM, List.getElem?_append_left hNl]; exact hcK)
  obtain ⟨K2, h2⟩ := refb_l2 hv hr N.length nums (by omega) j (by omega) _ hsm.1 K N (by omega) (fun d hd => ⟨(hRx.small d hd).1, hne d hd⟩) hE K.length 0 (by omega) (fun y hy h => absurd h (Nat.not_lt_zero _))
  obtain ⟨K1, h1⟩ := refstep_ev (fits_of hv) hv hr c s (by have := (hRx.small c (List.mem_of_getElem? hcK)).1; omega)
  dsimp only at h1 h2
  refine ⟨K1 + K2 + 2, fun k hk => ?_⟩
  obtain ⟨k, rfl⟩ : ∃ q, k = q + 2 := ⟨k - 2, by omega⟩
  dsimp only
  have hj2 : sr14_Build.j2 (k + 1) N.length nums j s l0 l1 l2 l3 st (K.map (·.map ofJ)) N = some (outR Ro) := by
   rw [sr14_Build.j2, if_pos (by omega), if_pos (by rw [List.length_map]; omega), rdL21 K N.length hNl, hNe, h1 k (by omega), Option.bind_some]
   exact h2 k (by omega)
  rw [sr14_Build.l1, hw, if_pos (by omega)]
  by_cases hjT : l0.length ≤ j
  ·rw [if_pos hjT] at hs
   have hws : wrap64 ((-1) - (wrap64 ((j : Int) - (l0.length : Int)))) = s := by rw [hs]; unfold wrap64; omega
   rw [if_pos (by omega), hws]
   exact hj2
  ·rw [if_neg hjT] at hs
   rw [if_neg (by omega)]
   rw [hs] at hj2
   exact hj2
theorem refb_l0 {Ro : Option (List (List Itm) × List (List Int))} : ∀ (n : Nat) (K : List (List Itm)) (N : List (List Int)), Bx l0.length l2.length (gr st l3) Ro n K N → (∀ c ∈ K, c ≠ []) → Ev (fun k => sr14_Build.l0 k N.length l0 l1 l2 l3 st (K.map (·.map ofJ)) N) (outR Ro) := by
 intro n
 induction n with
 | zero =>
  intro K N hX _
  obtain ⟨m, hm⟩ := hX.pos
  cases hm
 | succ n ih =>
  intro K N hX hne
  have hfew := hX.few
  cases hc : K[N.length]? with
  | none =>
   have hle := List.getElem?_eq_none_iff.1 hc
   rw [hX.fine hc]
   refine Ev.step (f := fun _ => some (outR (some (K, N)))) (fun k => ?_) (Ev.now _)
   rw [sr14_Build.l0, if_neg (by rw [List.length_map]; omega)]
   rfl
  | some c =>
   obtain ⟨hlt, _⟩ := List.getElem?_eq_some_iff.1 hc
   have hz := refb_l1 hv hr hX hc ih (l0.length + l2.length) 0 [] K (by omega) (Rx.start hX _ _) hne hc
   refine Ev.step (fun k => ?_) hz
   rw [sr14_Build.l0, if_pos (by rw [List.length_map]; omega)]
   rfl
theorem refbuild_ev {Ro : Option (List (List Itm) × List (List Int))} (h : builtL l0.length l2.length (gr st l3) = some Ro) : Ev (fun k => sr14_Build.f k l0 l1 l2 l3 st) (outR Ro) := by
 have hz := refb_l0 hv hr 2003 [[(-1, 0)]] [] (Bx.start h) (by simp)
 refine Ev.congr (fun k => ?_) hz
 unfold sr14_Build.f
 rw [refv_ok hr, Option.bind_some, hv, if_pos rfl]
 rfl
end
theorem refbuild_not {l0 : List S82} {l1 : List S101} {l2 : List ByteArray} {l3 : List S64} {st : Int} (hv : validB l0 l1 l2 l3 st = false) (hr : ∀ p ∈ l3, ∀ s ∈ p.f2, -9223372036854775808 ≤ s ∧ s ≤ 9223372036854775807) : Ev (fun k => sr14_Build.f k l0 l1 l2 l3 st) ([], [], 1) := by
 refine Ev.congr (f := fun _ => some ([], [], 1)) (fun k => ?_) (Ev.now _)
 unfold sr14_Build.f
 rw [refv_ok hr, Option.bind_some, hv, if_neg (by decide)]
end Go.Proofs.YtclollnicbcooaaDoor.P
end

section
namespace Go.Proofs.YtclollnicbcooaaDoor.P
open Go.RowKit Go.Proofs.YtclollnicbcooaaDoorW.PrintWords Go.Proofs.YtclollnicbcooaaDoorW.PrintLast Go.Proofs.YtclollnicbcooaaDoorW.PrintMore

/-- Where it goes: the program's answer is the document's. -/
theorem go_both (l0 : List S82) (l1 : List S101) (l2 : List ByteArray) (l3 : List S64) (st : Int) (Ka : List (List S37)) (Kb : List (List S39)) (N : List (List Int)) (a s : Int) : ∃ v, states_Go.f l0 l1 l2 l3 st Ka N a s = some v ∧ sr14_Go.f l0 l1 l2 l3 st Kb N a s = some v := by
 unfold states_Go.f sr14_Go.f
 generalize wrap64 ((l0.length : Int) + (wrap64 ((-1) - s))) = w
 by_cases h1 : a < 0
 ·simp only [if_pos h1]
  by_cases hs : s < 0
  ·simp only [if_pos hs]; exact ⟨_, rfl, rfl⟩
  ·simp only [if_neg hs]
   refine ⟨-1, ?_, rfl⟩
   split <;> rfl
 ·have c1 : 0 ≤ a := by omega
  simp only [if_neg h1, if_pos c1]
  by_cases h2 : a ≥ (N.length : Int)
  ·simp only [if_pos h2]
   by_cases hs : s < 0
   ·simp only [if_pos hs]; exact ⟨_, rfl, rfl⟩
   ·simp only [if_neg hs]
    refine ⟨-1, ?_, rfl⟩
    split <;> rfl
  ·have c2 : a < (N.length : Int) := by omega
   simp only [if_neg h2, if_pos c2]
   by_cases hs : s < 0
   ·have c0 : ¬ s ≥ (l0.length : Int) := by omega
    simp only [if_pos hs, if_neg c0]
    by_cases h3 : w < 0
    ·simp only [if_pos h3]; exact ⟨_, rfl, rfl⟩
    ·have c3 : 0 ≤ w := by omega
     simp only [if_neg h3, if_pos c3]
     by_cases h4 : w ≥ ((rd_L17 N a).length : Int)
     ·simp only [if_pos h4]; exact ⟨_, rfl, rfl⟩
     ·have c4 : w < ((rd_L17 N a).length : Int) := by omega
      simp only [if_neg h4, if_pos c4]; exact ⟨_, rfl, rfl⟩
   ·have c5 : 0 ≤ s := by omega
    simp only [if_neg hs, if_pos c5]
    by_cases h0 : s ≥ (l0.length : Int)
    ·simp only [if_pos h0]
     refine ⟨-1, rfl, ?_⟩
     split <;> rfl
    ·simp only [if_neg h0]
     by_cases h4 : s ≥ ((rd_L17 N a).length : Int)
     ·simp only [if_pos h4]; exact ⟨_, rfl, rfl⟩
     ·have c4 : s < ((rd_L17 N a).length : Int) := by omega
      simp only [if_neg h4, if_pos c4]; exact ⟨_, rfl, rfl⟩
end Go.Proofs.YtclollnicbcooaaDoor.P
end

section
namespace Go.Proofs.YtclollnicbcooaaDoor.Pure
open Go.RowKit Go.Proofs.YtclollnicbcooaaDoor.P Go.Proofs.YtclollnicbcooaaDoorW.PrintWords Go.Proofs.YtclollnicbcooaaDoorW.PrintLast Go.Proofs.YtclollnicbcooaaDoorW.PrintMore St

section
variable {l0 : List S82} {l1 : List S101} {l2 : List ByteArray} {l3 : List S64} {st : Int} {K : List (List Itm)} {N : List (List Int)} (hN : N.length = K.length) (hs : ∀ c ∈ K, c.length ≤ 1562) (hK : K.length ≤ 1000000) (hR : ∀ r ∈ N, r.length ≤ 1000000) (a s : Int)
include hN hs hK hR
theorem build_l1 (i : Nat) (hi : i < K.length) (hE : Ev (fun k => sl14_StatesBuild.l0 k a s true ((i + 1 : Nat) : Int) l0 l1 l2 l3 st (K.map (·.map ofI)) N (K.map (·.map ofJ)) N) true) :
  ∀ (m j : Nat), j + m = (N[i]'(by omega)).length → Ev (fun k => sl14_StatesBuild.l1 k a s true i j l0 l1 l2 l3 st (K.map (·.map ofI)) N (K.map (·.map ofJ)) N) true
 | 0, j, hj => by
  refine Ev.step (fun k => ?_) hE
  rw [sl14_StatesBuild.l1, if_pos (by omega), if_pos (by omega), rdL17 N i (by omega), if_neg (by omega), wrap_up i (by omega)]
 | m + 1, j, hj => by
  have hr := hR _ (List.getElem_mem (show i < N.length by omega))
  refine Ev.step (fun k => ?_) (build_l1 i hi hE m (j + 1) (by omega))
  rw [sl14_StatesBuild.l1, if_pos (by omega), if_pos (by omega), rdL17 N i (by omega), if_pos (by omega), if_pos (by omega), if_pos (by omega), if_pos (by omega), if_pos rfl, wrap_up j (by omega)]
theorem build_l0 : ∀ (m i : Nat), i + m = K.length → Ev (fun k => sl14_StatesBuild.l0 k a s true i l0 l1 l2 l3 st (K.map (·.map ofI)) N (K.map (·.map ofJ)) N) true
 | 0, i, hi => by
  obtain ⟨v, h1, h2⟩ := go_both l0 l1 l2 l3 st (K.map (·.map ofI)) (K.map (·.map ofJ)) N a s
  refine Ev.step (f := fun _ => some true) (fun k => ?_) (Ev.now _)
  rw [sl14_StatesBuild.l0, if_neg (by rw [List.length_map]; omega), if_pos rfl, h1, Option.bind_some, h2, Option.bind_some]
  simp
 | m + 1, i, hi => by
  have hlt : i < K.length := by omega
  have hz := build_l1 (l0 := l0) (l1 := l1) (l2 := l2) (l3 := l3) (st := st) hN hs hK hR a s i hlt (build_l0 m (i + 1) (by omega)) (N[i]'(by omega)).length 0 (by omega)
  have hj : Ev (fun k => sl14_StatesBuild.j2 k a s true i false l0 l1 l2 l3 st (K.map (·.map ofI)) N (K.map (·.map ofJ)) N) true := by
   refine Ev.step (fun k => ?_) hz
   rw [sl14_StatesBuild.j2, if_neg (by decide)]
   rfl
  have hci := hs _ (List.getElem_mem hlt)
  obtain ⟨K1, h1⟩ := lawrow_ev (K[i].map ofI) (by rw [List.length_map]; omega)
  obtain ⟨K2, h2⟩ := refrow_ev K[i] K[i] (by omega)
  obtain ⟨K3, h3⟩ := hj
  rw [map_toI_ofI] at h1
  rw [decide_eq_true rfl] at h2
  refine ⟨K1 + K2 + K3 + 1, fun k hk => ?_⟩
  obtain ⟨k, rfl⟩ : ∃ j, k = j + 1 := ⟨k - 1, by omega⟩
  dsimp only at h1 h2 h3 ⊢
  rw [sl14_StatesBuild.l0, if_pos (by rw [List.length_map]; omega), if_pos (by omega), rdL15 K i hlt, h1 k (by omega), Option.bind_some, if_pos (by rw [List.length_map]; omega), rdL21 K i hlt, h2 k (by omega), Option.bind_some, if_pos rfl, if_pos (by omega), if_pos (by omega), show (((rd_L17 N (i : Int)).length : Int) != ((rd_L17 N (i : Int)).length : Int)) = false by simp]
  exact h3 k (by omega)
theorem build_j0 : Ev (fun k => sl14_StatesBuild.j0 k a s true false l0 l1 l2 l3 st (K.map (·.map ofI)) N (K.map (·.map ofJ)) N) true := by
 refine Ev.step (fun k => ?_) (build_l0 (l0 := l0) (l1 := l1) (l2 := l2) (l3 := l3) (st := st) hN hs hK hR a s K.length 0 (by omega))
 rw [sl14_StatesBuild.j0, if_neg (by decide)]
 rfl
end
theorem buildL_rows (S : List Itm → Int → List Itm) (syms : List Int) (most : Nat) : ∀ (n i : Nat) (K : List (List Itm)) (N : List (List Int)) (R : List (List Itm) × List (List Int)), buildL S syms most n i K N = some (some R) → R.2.length ≤ N.length + n := by
 intro n
 induction n with
 | zero => intro i K N R h; cases h
 | succ n ih =>
  intro i K N R h
  rw [buildL] at h
  split at h
  ·have h := Option.some.inj (Option.some.inj h)
   rw [← h]
   simp only
   omega
  ·split at h
   ·cases h
   ·have := ih _ _ _ _ h
    rw [List.length_append, List.length_singleton] at this
    omega
theorem StatesBuild (x0 : S27) (a1 : Int) (a2 : Int) (w0 : wf27 x0) (w1 : (Lit.int .i64 a1).wf = true) (w2 : (Lit.int .i64 a2).wf = true) : ∃ k, sl14_StatesBuild.f k x0.f0 x0.f1 x0.f2 x0.f3 x0.f4 a1 a2 = some true := by
 have hr := prods_range w0
 obtain ⟨b, Kb, hb⟩ := little_ev x0.f0 x0.f1 x0.f2 x0.f3 x0.f4
 obtain ⟨K, N, e, hN, hs, hK, hR, h1, K2, h2⟩ : ∃ (K : List (List Itm)) (N : List (List Int)) (e : Int), N.length = K.length ∧ (∀ c ∈ K, c.length ≤ 1562) ∧ K.length ≤ 1000000 ∧ (∀ r ∈ N, r.length ≤ 1000000) ∧ states_Build.f x0.f0 x0.f1 x0.f2 x0.f3 x0.f4 = some (K.map (·.map ofI), N, e) ∧ Ev (fun k => sr14_Build.f k x0.f0 x0.f1 x0.f2 x0.f3 x0.f4) (K.map (·.map ofJ), N, e) := by
  cases hv : validB x0.f0 x0.f1 x0.f2 x0.f3 x0.f4 with
  | false => exact ⟨[], [], 1, rfl, by simp, by simp, by simp, build_not hv, refbuild_not hv hr⟩
  | true =>
   obtain ⟨R, hR, hf⟩ := build_ok hr hv
   have hg := refbuild_ev hv hr hR
   cases R with
   | none => exact ⟨[], [], 4, rfl, by simp, by simp, by simp, hf, hg⟩
   | some KN =>
    obtain ⟨K, N⟩ := KN
    obtain ⟨hBu, hN⟩ := built_is hR
    refine ⟨K, N, 0, hN, fun c hc => (built_small hv hBu c hc).1, ?_, fun r hr' => ?_, hf, hg⟩
    ·have := buildL_rows _ _ _ _ _ _ _ _ hR
     simp only [List.length_nil] at this
     omega
    ·obtain ⟨i, hi, rfl⟩ := List.mem_iff_getElem.1 hr'
     obtain ⟨row, h1, h2, _⟩ := hBu.goes i K[i] hi (List.getElem?_eq_getElem (by omega))
     rw [List.getElem?_eq_getElem hi] at h1
     rw [Option.some.inj h1, h2, symsL_len]
     have := terms_few hv
     have := (fits_of hv).sorts
     omega
 obtain ⟨K3, h3⟩ := build_j0 (l0 := x0.f0) (l1 := x0.f1) (l2 := x0.f2) (l3 := x0.f3) (st := x0.f4) hN hs hK hR a1 a2
 refine ⟨Kb + K2 + K3, ?_⟩
 have h2' := h2 (Kb + K2 + K3) (by omega)
 have h3' := h3 (Kb + K2 + K3) (by omega)
 have h4' := hb (Kb + K2 + K3) (by omega)
 dsimp only at h2' h3' h4'
 unfold sl14_StatesBuild.f
 rw [works_true, Option.bind_some, if_pos rfl, h4', Option.bind_some]
 cases b with
 | false => rw [if_neg (by decide)]
 | true =>
  rw [if_pos rfl, h1, Option.bind_some, h2', Option.bind_some, if_pos rfl]
  dsimp only
  rw [List.length_map, List.length_map, if_pos rfl, show ((N.length : Int) != (N.length : Int)) = false by simp]
  exact h3'
end Go.Proofs.YtclollnicbcooaaDoor.Pure
end

section
namespace Go.Proofs.YtclollnicbcooaaDoor.Glob
open Go.ChangeShapes Go.WideShapes Go.ChangeAt Go.RowKit

def laidL : List (String × DataW Unit) := [("math/bits.deBruijn32tab", Rows.laid_math_bits_deBruijn32tab), ("math/bits.deBruijn64tab", Rows.laid_math_bits_deBruijn64tab), ("internal/strconv.uint64pow10", Rows.laid_internal_strconv_uint64pow10)]
theorem named : Tryd.prog.globalNamed "internal/strconv.uint64pow10" = some 0 := by kernel_rfl
theorem typed : (Tryd.prog.globals[0]?).map (·.type) = some 172 := by kernel_rfl
theorem und172 : Tryd.prog.underlying 172 = some (.array 20 75) := by kernel_rfl
theorem und75 : Tryd.prog.underlying 75 = some (.int .u64) := by kernel_rfl
theorem cells172 : Tryd.prog.cellsOf 172 = 20 := by kernel_rfl
theorem cells75 : Tryd.prog.cellsOf 75 = 1 := by kernel_rfl
theorem table_is : (Rows.laid_internal_strconv_uint64pow10 : DataW Unit) = Lib.tabData .u64 Lib.pow10Tab := by rfl
theorem of_laid {W : World} (h : laidMet Tryd.prog laidL W) : P.GTab W := by
 obtain ⟨g', t', cs, fuel, p, hg', ht', hvar, hd⟩ := Lib.laidMet.reads h (n := "internal/strconv.uint64pow10") (d := Rows.laid_internal_strconv_uint64pow10) (List.mem_cons_of_mem _ (List.mem_cons_of_mem _ List.mem_cons_self))
 obtain rfl := Option.some.inj (named.symm.trans hg')
 obtain rfl := Option.some.inj (typed.symm.trans ht')
 rw [table_is] at hd
 unfold P.GTab Lib.TabIs
 rw [hvar, ← Lib.cells_of_tab und172 und75 cells75 cells172 hd]

/-- A row of literals as cells. -/
def litCells : DataW Unit → Array Value
 | .agg l => (l.map fun | .lit (.int k z) => Value.int k z | _ => Value.int .i64 0).toArray
 | _ => #[]
noncomputable def laidWorld (os : Os) : World :=
 let w := World.holding Tryd.prog os ⟨#[], #[], []⟩
 let put (b : Nat) (cs : Array Value) (h : Array Obj) : Array Obj := h.modify b fun
   | .cells _ t frozen => .cells cs t frozen
   | o => o
 { w with heap := put 0 (litCells Rows.laid_internal_strconv_uint64pow10) (put 1 (litCells Rows.laid_math_bits_deBruijn32tab) (put 2 (litCells Rows.laid_math_bits_deBruijn64tab) w.heap)) }
theorem laid_met (os : Os) (args : Array Value) : laidMet Tryd.prog laidL ((laidWorld os).forCall (fun _ _ => 0) ⟨#[], args, []⟩).memory :=
 laidMet_of_run' 8 (by kernel_rfl) (by kernel_rfl)
end Go.Proofs.YtclollnicbcooaaDoor.Glob
end
