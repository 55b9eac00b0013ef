/- bits.List of the given program's dump: for every set its numbers, rising, in a slice of the call's own. Condition: the library's table lies in its variable. -/
import Derived.Test.YtknkgponjjghcaaDoorBEach
import Derived.Maps.AppendAt
set_option linter.unusedVariables false
set_option linter.unusedSimpArgs false
namespace Go.Proofs.YtknkgponjjghcaaDoor.P
open Go.RowKit Go.Shelf Go.Proofs.YtknkgponjjghcaaDoorW.PrintWords Go.Proofs.YtknkgponjjghcaaDoorW.PrintLast Go.Proofs.YtknkgponjjghcaaDoorW.PrintMore
attribute [local go_sem] Oper.semAt_some

def ints (l : List Nat) : List Int := l.map (fun n : Nat => (n : Int))
def bits_List.f (a0 : Int) : Option (List Int) := if 0 ≤ a0 then if a0 < 18446744073709551616 then some (ints (bitsOf a0.toNat)) else none else none

def enc (l : List Nat) : List Value := l.map (fun n : Nat => Value.int .i64 (n : Int))
theorem enc_snoc (l : List Nat) (x : Nat) : enc (l ++ [x]) = enc l ++ [Value.int .i64 (x : Int)] := by simp [enc]

/-- What holds between two rounds: the variable's box holds a row of the call's own. -/
def Has (w : World) (pre : List Nat) (W : World) : Prop :=
  (∃ v, Boxed W w.heap.size 24 v ∧ W.ownsRow (w.heap.size + 2) 3 1 v pre.length (enc pre)) ∧ Below w.heap.size w W ∧ w.heap.size + 2 ≤ W.heap.size ∧ GTab w
theorem has_bears (w : World) : Bears (w.heap.size + 2) (w.heap.size + 1) (Has w) := by
  rintro s W W' row ⟨⟨v, hv, hr⟩, hB, hsz, hG⟩ hg hrow
  refine ⟨⟨v, hv.kept hg (fun e => ?_), hr.kept hg ?_⟩, hB.trans ⟨hg.os, hg.tape, hg.output, hg.size, fun i hi => hg.block i (by omega) (fun e => ?_)⟩, Nat.le_trans hsz hg.size, hG⟩
  · rcases hrow _ e.symm with h1 | ⟨_, o, ho, hc⟩
    · omega
    · rw [show W.heap[w.heap.size]? = _ from hv] at ho
      cases ho; cases hc
  · rcases hr.2 with ⟨rfl, _⟩ | ⟨g, cap, cur, rfl, hb, hgb, _⟩
    · exact .inl rfl
    · refine .inr fun e => ?_
      have e1 : (Value.slice (some ⟨g, 0, none⟩) s.length cap).ownBlock = some g := rfl
      rcases hrow g (e.symm.trans e1) with h1 | ⟨_, o, ho, hc⟩
      · omega
      · rw [hgb] at ho
        cases ho; cases hc
  · rcases hrow _ e.symm with h1 | ⟨h1, _⟩ <;> omega

theorem info3' : (Tryd.prog.info? 3).map (fun i => (i.zero, i.size, i.bytes)) = some (some (.int .i64 0), 1, 8) := by kernel_rfl

theorem each_calls (s : Nat) (w : World) : CallsIn Fence.wide 2 Tryd.prog 29 #[.int .u64 s] w fun e w' => e = .returned (.func (.func 32) #[] #[.pointer (some ⟨w.heap.size, 0, none⟩)]) ∧ w' = w.alloc (.cells #[.int .u64 s] 23) := by
  refine callsIn_of_wp Tryd.func29 rfl trivial ?_ rfl
  simp only [Tryd.ntmps29, List.size_toArray, List.length_cons, List.length_nil, Nat.reduceAdd, Nat.reduceSub, Array.replicate_succ, Array.replicate_zero, List.push_toArray, List.append_toArray, List.nil_append, List.cons_append]
  gi_wp2
  go_ret
  exact ⟨rfl, rfl⟩

set_option maxRecDepth 100000 in
set_option maxHeartbeats 2000000 in
theorem list_in (s : Nat) (hs : s < 18446744073709551616) (w : World) (hG : GTab w) :
    CallsIn Fence.wide 3 Tryd.prog 13 #[.int .u64 s] w fun e w' => ∃ v, e = .returned v ∧ w'.ownsRow w.heap.size 3 1 v (bitsOf s).length (enc (bitsOf s)) ∧ Below w.heap.size w w' := by
  obtain ⟨i0, hi, hz0, hz1, hz2⟩ := info_parts info3'
  have HG := Aside0.mk hG
  clear hG
  refine callsIn_of_wp_marks Tryd.func13 rfl trivial ?_ rfl
  simp only [Tryd.ntmps13, List.size_toArray, List.length_cons, List.length_nil, Nat.reduceAdd, Nat.reduceSub, Array.replicate_succ, Array.replicate_zero, List.push_toArray, List.append_toArray, List.nil_append, List.cons_append]
  gi_wp2_with (refine ⟨trivial, ?_⟩; gi_at_call 29; refine (each_calls s _).mono ?_; rintro e w' ⟨rfl, rfl⟩)
  have bO := Boxed.new w 24 (.slice none 0 0)
  have bN := Boxed.new (w.alloc (.cells #[.slice none 0 0] 24)) 23 (.int .u64 s)
  rw [World.size_alloc] at bN
  have hB0 : Below w.heap.size w ((w.alloc (.cells #[.slice none 0 0] 24)).alloc (.cells #[.int .u64 s] 23)) := ((Below.refl _ w).alloc (Nat.le_refl _) _).alloc (by simp) _
  have hsz0 : ((w.alloc (.cells #[.slice none 0 0] 24)).alloc (.cells #[.int .u64 s] 23)).heap.size = w.heap.size + 2 := by simp
  refine range_cell (F := Fence.wide) (n := 3) rfl (by omega) (gf := 32) (lb := #[.pointer (some ⟨w.heap.size + 1, 0, none⟩)]) rfl trivial (enters_of Tryd.func32 (by kernel_rfl) rfl)
    (b := w.heap.size + 1) (t := 23) (by rw [hsz0]; omega) (each1 2 (by omega) (w.heap.size + 1) s hs _ bN) (fun _ => rfl)
    (Has w) (by rw [hsz0]; exact has_bears w) (fun s W h => h.2.2.2.below h.2.1)
    ⟨⟨_, bO.alloc _, World.ownsRow_nil _ _ _ _⟩, hB0, Nat.le_of_eq hsz0.symm, HG.out⟩
    (fun x => { tmps := #[.int .u64 s, undef, .slice none 0 0, .pointer (some ⟨w.heap.size, 0, none⟩), .int .i64 (x : Nat), .int .u64 s, .func (.func 32) #[] #[.pointer (some ⟨w.heap.size + 1, 0, none⟩)], .int .i64 (x : Nat), undef, undef, undef, undef, undef], defers := [] }) ?assign ?body ?done
  case assign =>
    intro l x W K hK
    gi_wp2
    exact hK
  case body =>
    rintro l pre x W ⟨⟨v, hv, hrow⟩, hB, hsz, hG⟩ hlt
    have hc := hv.cell
    have hpl : pre.length < 64 := Nat.lt_of_lt_of_le hlt (bitsOf_length s)
    have HG2 := Aside0.mk hG
    clear hG
    gi_wp2_with (gi_at_builtin; refine wpListIn_append_own _ rfl _ _ 24 rfl (w.heap.size + 2) 3 i0 (.int .i64 0) 1 8 Tryd.underlying24 hi hz0 hz1 hz2 rfl (by decide) _ _ _ rfl (hrow.alloc _) ⟨W.heap.size, 0, none⟩ 1 1 [.int .i64 (x : Nat)] rfl rfl (cell_one_new _ _ _) (by simp [Value.oneCell']) (by unfold maxLen; omega) (by omega) (by simp; omega) ?_; intro v' w1 hown' hgrow _; obtain ⟨g', cap', rfl⟩ := ownsRow_succ hown'; obtain ⟨hv1, hv2, hr2, hk2, hb2⟩ := hv.appended (by decide) (own_weaken hrow (show w.heap.size ≤ w.heap.size + 2 by omega)) (by omega) (Nat.le_refl _) (own_weaken hown' (show w.heap.size ≤ w.heap.size + 2 by omega)) hgrow; have hc1 := hv1.cell; have hf1 := hv1.frozen)
    have hne : some (w.heap.size + 1) ≠ v.ownBlock := fun e => by have := own_base hrow _ e.symm; omega
    refine ⟨hk2.from _, fun u hu => ?_, ⟨_, hv2, ?_⟩, hB.trans hb2, Nat.le_trans hsz hb2.size, HG2.out⟩
    · exact Boxed.other ((hu.alloc _).kept hgrow hne) (by omega) _
    · rw [enc_snoc, List.length_append, List.length_singleton]
      exact hown'.kept (grownBy_setCell' w1 _ _) (.inr (hv1.not_row (by decide) hown').symm)
  case done =>
    rintro D W hD ⟨⟨v, hv, hrow⟩, hB, hsz, hG⟩ hK
    have hc := hv.cell
    clear hG
    gi_wp2
    refine ⟨by simp, .inl ⟨_, _, rfl, run_takeDeferred hK, ?_⟩⟩
    exact ⟨_, results_tmp rfl _ _ _, v, rfl, own_weaken (ownsRow_putObj hrow _ hK rfl) (by omega), hB.trans (belowK_b (w := w) (Nat.le_refl _) W D _ _ (by rw [hsz0] at hD; omega) hK rfl rfl)⟩

theorem bits_List.calls (a0 : Int) (r : List Int) (w : World) (hG : GTab w) (h : bits_List.f a0 = some r) :
    Calls Tryd.prog 13 #[.int .u64 a0] w fun e w' => ∃ v0_ : Value, e = .returned (v0_) ∧ Kd.R (Kd.int .i64) 3 w' w.heap.size (fun _ => True) v0_ r ∧ Below w.heap.size w w' := by
  unfold bits_List.f at h
  by_cases h0 : 0 ≤ a0
  · rw [if_pos h0] at h
    by_cases h1 : a0 < 18446744073709551616
    · rw [if_pos h1] at h
      obtain rfl := Option.some.inj h
      obtain ⟨s, rfl⟩ : ∃ s : Nat, a0 = s := ⟨a0.toNat, by omega⟩
      simp only [Int.toNat_natCast]
      refine (callsIn_wide.1 (list_in s (by omega) w hG)).mono ?_
      rintro e w' ⟨v, rfl, ho, hb⟩
      refine ⟨v, rfl, Kd.R_of_own ?_ (fun _ _ => trivial), hb⟩
      have e1 : (ints (bitsOf s)).length = (bitsOf s).length := by simp [ints]
      have e2 : encs (Value.int .i64) (ints (bitsOf s)) = enc (bitsOf s) := by simp [encs, ints, enc]
      rw [e1, e2]
      exact ho
    · rw [if_neg h1] at h; cases h
  · rw [if_neg h0] at h; cases h

end Go.Proofs.YtknkgponjjghcaaDoor.P
