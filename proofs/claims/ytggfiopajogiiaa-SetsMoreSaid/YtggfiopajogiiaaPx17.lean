/- Functions of the given program as plain Lean functions, each with the proof that its call comes to that function's answer (conditions: the hypotheses of each '.calls'). Printed by wip/tools/pw.py, a wrapper round the kit's print. -/
import Derived.Test.YtggfiopajogiiaaPx0
import Derived.Test.YtggfiopajogiiaaPx1
import Derived.Test.YtggfiopajogiiaaPx3
import Derived.Test.YtggfiopajogiiaaPx4
import Derived.Test.YtggfiopajogiiaaSOf
import Derived.Test.YtggfiopajogiiaaSVal
namespace Go.Proofs.Ytggfiopajogiiaa.P
open Go.RowKit Go.Proofs.YtggfiopajogiiaaW.PrintWords Go.Proofs.YtggfiopajogiiaaW.PrintLast Go.Proofs.YtggfiopajogiiaaW.PrintMore
attribute [local go_sem] max2_int min2_int max_two min_two max_three min_three max_four min_four   -- for this text's walks alone
set_option linter.unusedVariables false
set_option linter.unusedSimpArgs false

/-! ### syntagmlaw13_SetsAlone: function 6 -/
def syntagmlaw13_SetsAlone.j0 : Nat → Int → List Int → Int → Bool → Bool → List (S51) → List (S63) → List ByteArray → List (S45) → Int → Option (Bool)
  | 0, _, _, _, _, _, _, _, _, _, _ => none
  | k + 1, x1, x2, x3, x9, x39, x338000, x338001, x338002, x338003, x338004 => if x39 = true then (some x9) else (if ([] : List Int).length < 17592186044416 then ((some (([] : List Int) ++ [x1] : List Int)).bind fun y341 => (if y341.length + x2.length < 17592186044416 then (if x9 = true then ((sets_Of.f k x338000 x338001 x338002 x338003 x338004 (y341 ++ x2) x3).bind fun t347 => ((bits_Of.f k (([x1] : List Int))).bind fun t351 => (some (t347 == t351)))) else (some false)) else (none))) else (none))
def syntagmlaw13_SetsAlone.f (k : Nat) (l0_0 : List (S51)) (l0_1 : List (S63)) (l0_2 : List ByteArray) (l0_3 : List (S45)) (a0_4 : Int) (a1 : Int) (l2 : List Int) (a3 : Int) : Option (Bool) := (syntagmlaw13_works.f k).bind fun t338 => (if t338 = true then ((syntagmlaw13_Few.f k l0_0 l0_1 l0_2 l0_3 a0_4).bind fun t339 => (if t339 = true then (if (l2.length : Int) > 30 then (syntagmlaw13_SetsAlone.j0 k a1 l2 a3 t338 true l0_0 l0_1 l0_2 l0_3 a0_4) else ((inst_Valid.f l0_0 l0_1 l0_2 l0_3 a0_4).bind fun t340 => (if t340 = true then (if a1 < 0 then (syntagmlaw13_SetsAlone.j0 k a1 l2 a3 t338 true l0_0 l0_1 l0_2 l0_3 a0_4) else (syntagmlaw13_SetsAlone.j0 k a1 l2 a3 t338 (decide (a1 ≥ (l0_0.length : Int))) l0_0 l0_1 l0_2 l0_3 a0_4)) else (syntagmlaw13_SetsAlone.j0 k a1 l2 a3 t338 true l0_0 l0_1 l0_2 l0_3 a0_4)))) else (syntagmlaw13_SetsAlone.j0 k a1 l2 a3 t338 true l0_0 l0_1 l0_2 l0_3 a0_4))) else (some false))
theorem syntagmlaw13_SetsAlone.mono_l : ∀ k, (∀ y0 y1 y2 y3 y4 y5 y6 y7 y8 y9, LeO (syntagmlaw13_SetsAlone.j0 k y0 y1 y2 y3 y4 y5 y6 y7 y8 y9) (syntagmlaw13_SetsAlone.j0 (k + 1) y0 y1 y2 y3 y4 y5 y6 y7 y8 y9))
  | 0 => fun _ _ _ _ _ _ _ _ _ _ r h => by simp [syntagmlaw13_SetsAlone.j0] at h
  | k + 1 => by
    have ih0 := syntagmlaw13_SetsAlone.mono_l k
    · intro y0 y1 y2 y3 y4 y5 y6 y7 y8 y9
      unfold syntagmlaw13_SetsAlone.j0
      repeat' first
      | (with_reducible exact ih0 _ _ _ _ _ _ _ _ _ _)
      | (with_reducible exact bits_Of.mono _ _)
      | (with_reducible exact sets_Of.mono _ _ _ _ _ _ _ _)
      | (with_reducible exact syntagmlaw13_Few.mono _ _ _ _ _ _)
      | (with_reducible exact syntagmlaw13_works.mono _)
      | (with_reducible exact LeO.refl _)
      | (with_reducible exact LeO.none _)
      | (with_reducible refine LeO.ite ?_ ?_)
      | (with_reducible refine LeO.bind ?_ (fun _ => ?_))
      | exact ih0 _ _ _ _ _ _ _ _ _ _
      | exact bits_Of.mono _ _
      | exact sets_Of.mono _ _ _ _ _ _ _ _
      | exact syntagmlaw13_Few.mono _ _ _ _ _ _
      | exact syntagmlaw13_works.mono _
      | exact LeO.none _
      | refine LeO.ite ?_ ?_
      | refine LeO.bind ?_ (fun _ => ?_)
theorem syntagmlaw13_SetsAlone.mono : ∀ a0 a1 a2 a3 a4 a5 a6 a7 k, LeO (syntagmlaw13_SetsAlone.f k a0 a1 a2 a3 a4 a5 a6 a7) (syntagmlaw13_SetsAlone.f (k + 1) a0 a1 a2 a3 a4 a5 a6 a7) := by
  intro a0 a1 a2 a3 a4 a5 a6 a7 k
  have ih0 := syntagmlaw13_SetsAlone.mono_l k
  unfold syntagmlaw13_SetsAlone.f
  repeat' first
      | (with_reducible exact ih0 _ _ _ _ _ _ _ _ _ _)
      | (with_reducible exact bits_Of.mono _ _)
      | (with_reducible exact sets_Of.mono _ _ _ _ _ _ _ _)
      | (with_reducible exact syntagmlaw13_Few.mono _ _ _ _ _ _)
      | (with_reducible exact syntagmlaw13_works.mono _)
      | (with_reducible exact LeO.refl _)
      | (with_reducible exact LeO.none _)
      | (with_reducible refine LeO.ite ?_ ?_)
      | (with_reducible refine LeO.bind ?_ (fun _ => ?_))
      | exact ih0 _ _ _ _ _ _ _ _ _ _
      | exact bits_Of.mono _ _
      | exact sets_Of.mono _ _ _ _ _ _ _ _
      | exact syntagmlaw13_Few.mono _ _ _ _ _ _
      | exact syntagmlaw13_works.mono _
      | exact LeO.none _
      | refine LeO.ite ?_ ?_
      | refine LeO.bind ?_ (fun _ => ?_)
set_option maxHeartbeats 8000000 in
set_option maxRecDepth 100000 in
theorem syntagmlaw13_SetsAlone.calls (k : Nat) (A0_0 : Option Addr) (c0_0 : Nat) (l0_0 : List (S51)) (A0_1 : Option Addr) (c0_1 : Nat) (l0_1 : List (S63)) (A0_2 : Option Addr) (c0_2 : Nat) (l0_2 : List ByteArray) (A0_3 : Option Addr) (c0_3 : Nat) (l0_3 : List (S45)) (a0_4 : Int) (a1 : Int) (A2 : Option Addr) (c2 : Nat) (l2 : List Int) (a3 : Int) (r : Bool) (w : World) (hT : r = true) (hr0_0 : Kd.C k51 w A0_0 l0_0.length l0_0) (hc0_0 : l0_0.length ≤ c0_0) (hr0_1 : Kd.C k63 w A0_1 l0_1.length l0_1) (hc0_1 : l0_1.length ≤ c0_1) (hr0_2 : Kd.C Kd.string w A0_2 l0_2.length l0_2) (hc0_2 : l0_2.length ≤ c0_2) (hr0_3 : Kd.C k45 w A0_3 l0_3.length l0_3) (hc0_3 : l0_3.length ≤ c0_3) (hr2 : Kd.C (Kd.int .i64) w A2 l2.length l2) (hc2 : l2.length ≤ c2) (h : syntagmlaw13_SetsAlone.f k l0_0 l0_1 l0_2 l0_3 a0_4 a1 l2 a3 = some r) :
    Calls Try.prog 6 #[.agg #[.slice A0_0 l0_0.length c0_0, .slice A0_1 l0_1.length c0_1, .slice A0_2 l0_2.length c0_2, .slice A0_3 l0_3.length c0_3, .int .i64 a0_4], .int .i64 a1, .slice A2 l2.length c2, .int .u64 a3] w fun e w' => e = .returned (.bool r) ∧ Below w.heap.size w w' := by
  have hu27 := Try.underlying27
  have HT := Aside0.mk hT
  clear hT
  have HR0_0 := Aside0.mk hr0_0
  have HC0_0 := Aside0.mk hc0_0
  clear hr0_0 hc0_0
  have HR0_1 := Aside0.mk hr0_1
  have HC0_1 := Aside0.mk hc0_1
  clear hr0_1 hc0_1
  have HR0_2 := Aside0.mk hr0_2
  have HC0_2 := Aside0.mk hc0_2
  clear hr0_2 hc0_2
  have HR0_3 := Aside0.mk hr0_3
  have HC0_3 := Aside0.mk hc0_3
  clear hr0_3 hc0_3
  have HR2 := Aside0.mk hr2
  have HC2 := Aside0.mk hc2
  clear hr2 hc2
  have HB := Aside0.mk (Below.refl w.heap.size w)
  have H : ((syntagmlaw13_works.f k).bind fun t338 => (if t338 = true then ((syntagmlaw13_Few.f k l0_0 l0_1 l0_2 l0_3 a0_4).bind fun t339 => (if t339 = true then (if (l2.length : Int) > 30 then (syntagmlaw13_SetsAlone.j0 k a1 l2 a3 t338 true l0_0 l0_1 l0_2 l0_3 a0_4) else ((inst_Valid.f l0_0 l0_1 l0_2 l0_3 a0_4).bind fun t340 => (if t340 = true then (if a1 < 0 then (syntagmlaw13_SetsAlone.j0 k a1 l2 a3 t338 true l0_0 l0_1 l0_2 l0_3 a0_4) else (syntagmlaw13_SetsAlone.j0 k a1 l2 a3 t338 (decide (a1 ≥ (l0_0.length : Int))) l0_0 l0_1 l0_2 l0_3 a0_4)) else (syntagmlaw13_SetsAlone.j0 k a1 l2 a3 t338 true l0_0 l0_1 l0_2 l0_3 a0_4)))) else (syntagmlaw13_SetsAlone.j0 k a1 l2 a3 t338 true l0_0 l0_1 l0_2 l0_3 a0_4))) else (some false))) = some r := h
  clear h
  replace H := Option.bind_eq_some_iff.mp H
  obtain ⟨t338, A50, H⟩ := H
  replace H : (if t338 = true then ((syntagmlaw13_Few.f k l0_0 l0_1 l0_2 l0_3 a0_4).bind fun t339 => (if t339 = true then (if (l2.length : Int) > 30 then (syntagmlaw13_SetsAlone.j0 k a1 l2 a3 t338 true l0_0 l0_1 l0_2 l0_3 a0_4) else ((inst_Valid.f l0_0 l0_1 l0_2 l0_3 a0_4).bind fun t340 => (if t340 = true then (if a1 < 0 then (syntagmlaw13_SetsAlone.j0 k a1 l2 a3 t338 true l0_0 l0_1 l0_2 l0_3 a0_4) else (syntagmlaw13_SetsAlone.j0 k a1 l2 a3 t338 (decide (a1 ≥ (l0_0.length : Int))) l0_0 l0_1 l0_2 l0_3 a0_4)) else (syntagmlaw13_SetsAlone.j0 k a1 l2 a3 t338 true l0_0 l0_1 l0_2 l0_3 a0_4)))) else (syntagmlaw13_SetsAlone.j0 k a1 l2 a3 t338 true l0_0 l0_1 l0_2 l0_3 a0_4))) else (some false)) = some r := H
  have A5 := Aside0.mk A50
  clear A50
  by_cases c6 : t338 = true
  · subst c6
    have H1 : ((syntagmlaw13_Few.f k l0_0 l0_1 l0_2 l0_3 a0_4).bind fun t339 => (if t339 = true then (if (l2.length : Int) > 30 then (syntagmlaw13_SetsAlone.j0 k a1 l2 a3 true true l0_0 l0_1 l0_2 l0_3 a0_4) else ((inst_Valid.f l0_0 l0_1 l0_2 l0_3 a0_4).bind fun t340 => (if t340 = true then (if a1 < 0 then (syntagmlaw13_SetsAlone.j0 k a1 l2 a3 true true l0_0 l0_1 l0_2 l0_3 a0_4) else (syntagmlaw13_SetsAlone.j0 k a1 l2 a3 true (decide (a1 ≥ (l0_0.length : Int))) l0_0 l0_1 l0_2 l0_3 a0_4)) else (syntagmlaw13_SetsAlone.j0 k a1 l2 a3 true true l0_0 l0_1 l0_2 l0_3 a0_4)))) else (syntagmlaw13_SetsAlone.j0 k a1 l2 a3 true true l0_0 l0_1 l0_2 l0_3 a0_4))) = some r := by rw [if_pos rfl] at H; exact H
    clear H
    have H := H1
    clear H1
    replace H := Option.bind_eq_some_iff.mp H
    obtain ⟨t339, A70, H⟩ := H
    replace H : (if t339 = true then (if (l2.length : Int) > 30 then (syntagmlaw13_SetsAlone.j0 k a1 l2 a3 true true l0_0 l0_1 l0_2 l0_3 a0_4) else ((inst_Valid.f l0_0 l0_1 l0_2 l0_3 a0_4).bind fun t340 => (if t340 = true then (if a1 < 0 then (syntagmlaw13_SetsAlone.j0 k a1 l2 a3 true true l0_0 l0_1 l0_2 l0_3 a0_4) else (syntagmlaw13_SetsAlone.j0 k a1 l2 a3 true (decide (a1 ≥ (l0_0.length : Int))) l0_0 l0_1 l0_2 l0_3 a0_4)) else (syntagmlaw13_SetsAlone.j0 k a1 l2 a3 true true l0_0 l0_1 l0_2 l0_3 a0_4)))) else (syntagmlaw13_SetsAlone.j0 k a1 l2 a3 true true l0_0 l0_1 l0_2 l0_3 a0_4)) = some r := H
    have A7 := Aside0.mk A70
    clear A70
    have HC8 := Aside0.mk H
    clear H
    go_enter Try.func6, Try.ntmps6
    go_upto_region 5 with (first | ((with_reducible refine gate_dst (N := 4) rfl ?_); (try (refine gate_guard (by rfl) ?_; dsimp only)); refine box_event ?hg (N := 4) ?hd (cs := #[.slice A0_0 l0_0.length c0_0, .slice A0_1 l0_1.length c0_1, .slice A0_2 l0_2.length c0_2, .slice A0_3 l0_3.length c0_3, .int .i64 a0_4]) (t := 27) ?hr ?_; (case hd => rfl); (case hg => rfl); (case hr => first | (go_simp; done) | (go_simp; rfl)); intro gb337 hg w9 hbox hb; have n0_ := Aside0.mk (below_step (by repeat (first | (with_reducible first | exact HB.out | apply below_alloc | apply pw_below_drewN | apply below_drew1) | exact HB.out)) hb); have n1_ := Aside0.mk (hbox); have n2_ := Aside0.mk ((by rw [hg]; exact (below_size (by repeat (first | (with_reducible first | exact HB.out | apply below_alloc | apply pw_below_drewN | apply below_drew1) | exact HB.out))) : w.heap.size ≤ gb337)); have n3_ := Aside0.mk ((by rw [hg]; exact (below_size (by repeat (first | (with_reducible first | exact HB.out | apply below_alloc | apply pw_below_drewN | apply below_drew1) | exact HB.out))) : w.heap.size ≤ gb337)); clear HB; have HB := n0_; have BK337 := n1_; have GW337 := n2_; have GE337 := n3_; clear n0_ n1_ n2_ n3_; clear hb hbox hg) | ((with_reducible refine gate_callee (f := 10) rfl ?_); refine goesL_ (some 12) rfl rfl Try.func10 (by kernel_rfl) rfl #[] rfl (by (try simp only [List.map_toArray, List.map_cons, List.map_nil]); first | done | rfl | (simp only [List.length_drop, List.length_take]; rfl)) ?_; (with_reducible refine (syntagmlaw13_works.calls k  true _ ?side1 A5.out).mono ?_); (case side1 => rfl); rintro e w10 ⟨rfl, hb⟩; refine ⟨_, rfl, ?_⟩; have n0_ := Aside0.mk (blk_below (g := gb337) (o := .cells #[.slice A0_0 l0_0.length c0_0, .slice A0_1 l0_1.length c0_1, .slice A0_2 l0_2.length c0_2, .slice A0_3 l0_3.length c0_3, .int .i64 a0_4] 27 (0, 0)) (by (with_reducible repeat (first | refine blk_drewN ?_ _ | refine blk_drew ?_ | refine blk_alloc ?_ _)); exact BK337.out) hb); have n1_ := Aside0.mk (below_step (by repeat (first | (with_reducible first | exact HB.out | apply below_alloc | apply pw_below_drewN | apply below_drew1 | refine below_set ?_ GE337.out) | exact HB.out)) hb); clear BK337; clear HB; have BK337 := n0_; have HB := n1_; clear n0_ n1_; (try clear hb); (try clear hb2); (try clear hk); (try clear hi); have hcz11_0 : w10.cell? ⟨gb337, 0, none⟩ = some (.slice A0_0 l0_0.length c0_0) := (blk_cell BK337.out 0).trans rfl; have hcz11_1 : w10.cell? ⟨gb337, 1, none⟩ = some (.slice A0_1 l0_1.length c0_1) := (blk_cell BK337.out 1).trans rfl; have hcz11_2 : w10.cell? ⟨gb337, 2, none⟩ = some (.slice A0_2 l0_2.length c0_2) := (blk_cell BK337.out 2).trans rfl; have hcz11_3 : w10.cell? ⟨gb337, 3, none⟩ = some (.slice A0_3 l0_3.length c0_3) := (blk_cell BK337.out 3).trans rfl; have hcz11_4 : w10.cell? ⟨gb337, 4, none⟩ = some (.int .i64 a0_4) := (blk_cell BK337.out 4).trans rfl; have hfz11_0 := blk_frozen BK337.out 0; have hfz11_1 := blk_frozen BK337.out 1; have hfz11_2 := blk_frozen BK337.out 2; have hfz11_3 := blk_frozen BK337.out 3; have hfz11_4 := blk_frozen BK337.out 4) | ((with_reducible refine gate_callee (f := 11) rfl ?_); refine goesL_ (some 16) rfl rfl Try.func11 (by kernel_rfl) rfl #[.agg #[.slice A0_0 l0_0.length c0_0, .slice A0_1 l0_1.length c0_1, .slice A0_2 l0_2.length c0_2, .slice A0_3 l0_3.length c0_3, .int .i64 a0_4]] rfl (by (try simp only [List.map_toArray, List.map_cons, List.map_nil]); first | done | rfl | (simp only [List.length_drop, List.length_take]; rfl)) ?_; (with_reducible refine (syntagmlaw13_Few.calls k _ _ l0_0 _ _ l0_1 _ _ l0_2 _ _ l0_3 a0_4 t339 _ ?side1 ?side2 ?side3 ?side4 ?side5 ?side6 ?side7 ?side8 A7.out).mono ?_); (case side1 => repeat (first | exact (Kd.C_below HR0_0.out HB.out) | (with_reducible refine Kd.C_alloc ?_ _) | (with_reducible refine Kd.C_drewN ?_ _) | (with_reducible refine Kd.C_drew ?_))); (case side2 => exact HC0_0.out); (case side3 => repeat (first | exact (Kd.C_below HR0_1.out HB.out) | (with_reducible refine Kd.C_alloc ?_ _) | (with_reducible refine Kd.C_drewN ?_ _) | (with_reducible refine Kd.C_drew ?_))); (case side4 => exact HC0_1.out); (case side5 => repeat (first | exact (Kd.C_below HR0_2.out HB.out) | (with_reducible refine Kd.C_alloc ?_ _) | (with_reducible refine Kd.C_drewN ?_ _) | (with_reducible refine Kd.C_drew ?_))); (case side6 => exact HC0_2.out); (case side7 => repeat (first | exact (Kd.C_below HR0_3.out HB.out) | (with_reducible refine Kd.C_alloc ?_ _) | (with_reducible refine Kd.C_drewN ?_ _) | (with_reducible refine Kd.C_drew ?_))); (case side8 => exact HC0_3.out); rintro e w12 ⟨rfl, hb⟩; refine ⟨_, rfl, ?_⟩; have n0_ := Aside0.mk (blk_below (g := gb337) (o := .cells #[.slice A0_0 l0_0.length c0_0, .slice A0_1 l0_1.length c0_1, .slice A0_2 l0_2.length c0_2, .slice A0_3 l0_3.length c0_3, .int .i64 a0_4] 27 (0, 0)) (by (with_reducible repeat (first | refine blk_drewN ?_ _ | refine blk_drew ?_ | refine blk_alloc ?_ _)); exact BK337.out) hb); have n1_ := Aside0.mk (below_step (by repeat (first | (with_reducible first | exact HB.out | apply below_alloc | apply pw_below_drewN | apply below_drew1 | refine below_set ?_ GE337.out) | exact HB.out)) hb); clear BK337; clear HB; have BK337 := n0_; have HB := n1_; clear n0_ n1_; (try clear hb); (try clear hb2); (try clear hk); (try clear hi)))
    (try simp only [Act.put, List.setIfInBounds_toArray, List.set_cons_zero, List.set_cons_succ])
    go_cut [39] (fun v39 wc => ∃ (kq : Nat) (x39_7 : Bool), v39 = .bool x39_7 ∧ Aside0 (syntagmlaw13_SetsAlone.j0 kq a1 l2 a3 true x39_7 l0_0 l0_1 l0_2 l0_3 a0_4 = some r) ∧ Aside0 (kq ≤ k) ∧ Aside0 (wc.heap[gb337]? = some (.cells #[(.slice A0_0 l0_0.length c0_0), (.slice A0_1 l0_1.length c0_1), (.slice A0_2 l0_2.length c0_2), (.slice A0_3 l0_3.length c0_3), .int .i64 a0_4] 27 (0, 0))) ∧ Aside0 (Below w.heap.size w wc))
    case first =>
      have H := HC8.out
      clear HC8
      by_cases c13 : t339 = true
      · subst c13
        have H1 : (if (l2.length : Int) > 30 then (syntagmlaw13_SetsAlone.j0 k a1 l2 a3 true true l0_0 l0_1 l0_2 l0_3 a0_4) else ((inst_Valid.f l0_0 l0_1 l0_2 l0_3 a0_4).bind fun t340 => (if t340 = true then (if a1 < 0 then (syntagmlaw13_SetsAlone.j0 k a1 l2 a3 true true l0_0 l0_1 l0_2 l0_3 a0_4) else (syntagmlaw13_SetsAlone.j0 k a1 l2 a3 true (decide (a1 ≥ (l0_0.length : Int))) l0_0 l0_1 l0_2 l0_3 a0_4)) else (syntagmlaw13_SetsAlone.j0 k a1 l2 a3 true true l0_0 l0_1 l0_2 l0_3 a0_4)))) = some r := by rw [if_pos rfl] at H; exact H
        clear H
        have H := H1
        clear H1
        by_cases c14 : (l2.length : Int) > 30
        · rw [if_pos c14] at H
          have c14b0 : decide (30 < (l2.length : Int)) = true := decide_eq_true c14
          have c14b1 : decide (30 < l2.length) = true := decide_eq_true (by omega)
          clear c14
          (first | rw [c14b0] | (simp only [i64_w, i32_w]; rw [c14b0]) | skip)
          have H' := Aside0.mk H
          clear H
          go_wp2
          go_meet
          case rel => exact ⟨_, (true), (by first | rfl | (simp; done) | (simp [*]; done)), H', ⟨by first | omega | exact Nat.le_refl _⟩, ⟨by (with_reducible repeat (first | refine blk_drewN ?_ _ | refine blk_drew ?_ | refine blk_alloc ?_ _)); exact BK337.out⟩, ⟨by repeat (first | (with_reducible first | exact HB.out | apply below_alloc | apply pw_below_drewN | apply below_drew1 | refine below_set ?_ GE337.out) | exact HB.out)⟩⟩
        · rw [if_neg c14] at H
          have c14b0 : decide (30 < (l2.length : Int)) = false := decide_eq_false c14
          have c14b1 : decide (30 < l2.length) = false := decide_eq_false (by omega)
          clear c14
          (first | rw [c14b0] | (simp only [i64_w, i32_w]; rw [c14b0]) | skip)
          replace H := Option.bind_eq_some_iff.mp H
          obtain ⟨t340, A150, H⟩ := H
          replace H : (if t340 = true then (if a1 < 0 then (syntagmlaw13_SetsAlone.j0 k a1 l2 a3 true true l0_0 l0_1 l0_2 l0_3 a0_4) else (syntagmlaw13_SetsAlone.j0 k a1 l2 a3 true (decide (a1 ≥ (l0_0.length : Int))) l0_0 l0_1 l0_2 l0_3 a0_4)) else (syntagmlaw13_SetsAlone.j0 k a1 l2 a3 true true l0_0 l0_1 l0_2 l0_3 a0_4)) = some r := H
          have A15 := Aside0.mk A150
          clear A150
          by_cases c16 : t340 = true
          · subst c16
            have H1 : (if a1 < 0 then (syntagmlaw13_SetsAlone.j0 k a1 l2 a3 true true l0_0 l0_1 l0_2 l0_3 a0_4) else (syntagmlaw13_SetsAlone.j0 k a1 l2 a3 true (decide (a1 ≥ (l0_0.length : Int))) l0_0 l0_1 l0_2 l0_3 a0_4)) = some r := by rw [if_pos rfl] at H; exact H
            clear H
            have H := H1
            clear H1
            by_cases c17 : a1 < 0
            · rw [if_pos c17] at H
              have c17b0 : decide (a1 < 0) = true := decide_eq_true c17
              clear c17
              have H' := Aside0.mk H
              clear H
              have hcz18_0 : w12.cell? ⟨gb337, 0, none⟩ = some (.slice A0_0 l0_0.length c0_0) := (blk_cell BK337.out 0).trans rfl
              have hcz18_1 : w12.cell? ⟨gb337, 1, none⟩ = some (.slice A0_1 l0_1.length c0_1) := (blk_cell BK337.out 1).trans rfl
              have hcz18_2 : w12.cell? ⟨gb337, 2, none⟩ = some (.slice A0_2 l0_2.length c0_2) := (blk_cell BK337.out 2).trans rfl
              have hcz18_3 : w12.cell? ⟨gb337, 3, none⟩ = some (.slice A0_3 l0_3.length c0_3) := (blk_cell BK337.out 3).trans rfl
              have hcz18_4 : w12.cell? ⟨gb337, 4, none⟩ = some (.int .i64 a0_4) := (blk_cell BK337.out 4).trans rfl
              have hfz18_0 := blk_frozen BK337.out 0
              have hfz18_1 := blk_frozen BK337.out 1
              have hfz18_2 := blk_frozen BK337.out 2
              have hfz18_3 := blk_frozen BK337.out 3
              have hfz18_4 := blk_frozen BK337.out 4
              go_wp2_with (first | (go_at_call 23; (with_reducible refine (inst_Valid.calls _ _ l0_0 _ _ l0_1 _ _ l0_2 _ _ l0_3 a0_4 true _ ?side1 ?side2 ?side3 ?side4 ?side5 ?side6 ?side7 ?side8 A15.out).mono ?_); (case side1 => repeat (first | exact (Kd.C_below HR0_0.out HB.out) | (with_reducible refine Kd.C_alloc ?_ _) | (with_reducible refine Kd.C_drewN ?_ _) | (with_reducible refine Kd.C_drew ?_))); (case side2 => exact HC0_0.out); (case side3 => repeat (first | exact (Kd.C_below HR0_1.out HB.out) | (with_reducible refine Kd.C_alloc ?_ _) | (with_reducible refine Kd.C_drewN ?_ _) | (with_reducible refine Kd.C_drew ?_))); (case side4 => exact HC0_1.out); (case side5 => repeat (first | exact (Kd.C_below HR0_2.out HB.out) | (with_reducible refine Kd.C_alloc ?_ _) | (with_reducible refine Kd.C_drewN ?_ _) | (with_reducible refine Kd.C_drew ?_))); (case side6 => exact HC0_2.out); (case side7 => repeat (first | exact (Kd.C_below HR0_3.out HB.out) | (with_reducible refine Kd.C_alloc ?_ _) | (with_reducible refine Kd.C_drewN ?_ _) | (with_reducible refine Kd.C_drew ?_))); (case side8 => exact HC0_3.out); rintro e w19 ⟨rfl, hb⟩; have n0_ := Aside0.mk (blk_below (g := gb337) (o := .cells #[.slice A0_0 l0_0.length c0_0, .slice A0_1 l0_1.length c0_1, .slice A0_2 l0_2.length c0_2, .slice A0_3 l0_3.length c0_3, .int .i64 a0_4] 27 (0, 0)) (by (with_reducible repeat (first | refine blk_drewN ?_ _ | refine blk_drew ?_ | refine blk_alloc ?_ _)); exact BK337.out) hb); have n1_ := Aside0.mk (below_step (by repeat (first | (with_reducible first | exact HB.out | apply below_alloc | apply pw_below_drewN | apply below_drew1 | refine below_set ?_ GE337.out) | exact HB.out)) hb); clear BK337; clear HB; have BK337 := n0_; have HB := n1_; clear n0_ n1_; (try clear hb); (try clear hb2); (try clear hk); (try clear hi)))
              go_meet
              case rel => exact ⟨_, (true), (by first | rfl | (simp; done) | (simp [*]; done)), H', ⟨by first | omega | exact Nat.le_refl _⟩, ⟨by (with_reducible repeat (first | refine blk_drewN ?_ _ | refine blk_drew ?_ | refine blk_alloc ?_ _)); exact BK337.out⟩, ⟨by repeat (first | (with_reducible first | exact HB.out | apply below_alloc | apply pw_below_drewN | apply below_drew1 | refine below_set ?_ GE337.out) | exact HB.out)⟩⟩
            · rw [if_neg c17] at H
              have c17b0 : decide (a1 < 0) = false := decide_eq_false c17
              clear c17
              have H' := Aside0.mk H
              clear H
              have hcz20_0 : w12.cell? ⟨gb337, 0, none⟩ = some (.slice A0_0 l0_0.length c0_0) := (blk_cell BK337.out 0).trans rfl
              have hcz20_1 : w12.cell? ⟨gb337, 1, none⟩ = some (.slice A0_1 l0_1.length c0_1) := (blk_cell BK337.out 1).trans rfl
              have hcz20_2 : w12.cell? ⟨gb337, 2, none⟩ = some (.slice A0_2 l0_2.length c0_2) := (blk_cell BK337.out 2).trans rfl
              have hcz20_3 : w12.cell? ⟨gb337, 3, none⟩ = some (.slice A0_3 l0_3.length c0_3) := (blk_cell BK337.out 3).trans rfl
              have hcz20_4 : w12.cell? ⟨gb337, 4, none⟩ = some (.int .i64 a0_4) := (blk_cell BK337.out 4).trans rfl
              have hfz20_0 := blk_frozen BK337.out 0
              have hfz20_1 := blk_frozen BK337.out 1
              have hfz20_2 := blk_frozen BK337.out 2
              have hfz20_3 := blk_frozen BK337.out 3
              have hfz20_4 := blk_frozen BK337.out 4
              go_wp2_with (first | (go_at_call 23; (with_reducible refine (inst_Valid.calls _ _ l0_0 _ _ l0_1 _ _ l0_2 _ _ l0_3 a0_4 true _ ?side1 ?side2 ?side3 ?side4 ?side5 ?side6 ?side7 ?side8 A15.out).mono ?_); (case side1 => repeat (first | exact (Kd.C_below HR0_0.out HB.out) | (with_reducible refine Kd.C_alloc ?_ _) | (with_reducible refine Kd.C_drewN ?_ _) | (with_reducible refine Kd.C_drew ?_))); (case side2 => exact HC0_0.out); (case side3 => repeat (first | exact (Kd.C_below HR0_1.out HB.out) | (with_reducible refine Kd.C_alloc ?_ _) | (with_reducible refine Kd.C_drewN ?_ _) | (with_reducible refine Kd.C_drew ?_))); (case side4 => exact HC0_1.out); (case side5 => repeat (first | exact (Kd.C_below HR0_2.out HB.out) | (with_reducible refine Kd.C_alloc ?_ _) | (with_reducible refine Kd.C_drewN ?_ _) | (with_reducible refine Kd.C_drew ?_))); (case side6 => exact HC0_2.out); (case side7 => repeat (first | exact (Kd.C_below HR0_3.out HB.out) | (with_reducible refine Kd.C_alloc ?_ _) | (with_reducible refine Kd.C_drewN ?_ _) | (with_reducible refine Kd.C_drew ?_))); (case side8 => exact HC0_3.out); rintro e w21 ⟨rfl, hb⟩; have n0_ := Aside0.mk (blk_below (g := gb337) (o := .cells #[.slice A0_0 l0_0.length c0_0, .slice A0_1 l0_1.length c0_1, .slice A0_2 l0_2.length c0_2, .slice A0_3 l0_3.length c0_3, .int .i64 a0_4] 27 (0, 0)) (by (with_reducible repeat (first | refine blk_drewN ?_ _ | refine blk_drew ?_ | refine blk_alloc ?_ _)); exact BK337.out) hb); have n1_ := Aside0.mk (below_step (by repeat (first | (with_reducible first | exact HB.out | apply below_alloc | apply pw_below_drewN | apply below_drew1 | refine below_set ?_ GE337.out) | exact HB.out)) hb); clear BK337; clear HB; have BK337 := n0_; have HB := n1_; clear n0_ n1_; (try clear hb); (try clear hb2); (try clear hk); (try clear hi); have hcz22_0 : w21.cell? ⟨gb337, 0, none⟩ = some (.slice A0_0 l0_0.length c0_0) := (blk_cell BK337.out 0).trans rfl; have hcz22_1 : w21.cell? ⟨gb337, 1, none⟩ = some (.slice A0_1 l0_1.length c0_1) := (blk_cell BK337.out 1).trans rfl; have hcz22_2 : w21.cell? ⟨gb337, 2, none⟩ = some (.slice A0_2 l0_2.length c0_2) := (blk_cell BK337.out 2).trans rfl; have hcz22_3 : w21.cell? ⟨gb337, 3, none⟩ = some (.slice A0_3 l0_3.length c0_3) := (blk_cell BK337.out 3).trans rfl; have hcz22_4 : w21.cell? ⟨gb337, 4, none⟩ = some (.int .i64 a0_4) := (blk_cell BK337.out 4).trans rfl; have hfz22_0 := blk_frozen BK337.out 0; have hfz22_1 := blk_frozen BK337.out 1; have hfz22_2 := blk_frozen BK337.out 2; have hfz22_3 := blk_frozen BK337.out 3; have hfz22_4 := blk_frozen BK337.out 4))
              go_meet
              case rel => exact ⟨_, (decide (a1 ≥ (l0_0.length : Int))), (by first | rfl | (simp; done) | (simp [*]; done)), H', ⟨by first | omega | exact Nat.le_refl _⟩, ⟨by (with_reducible repeat (first | refine blk_drewN ?_ _ | refine blk_drew ?_ | refine blk_alloc ?_ _)); exact BK337.out⟩, ⟨by repeat (first | (with_reducible first | exact HB.out | apply below_alloc | apply pw_below_drewN | apply below_drew1 | refine below_set ?_ GE337.out) | exact HB.out)⟩⟩
          · replace c16 := Bool.eq_false_iff.mpr c16
            subst c16
            have H1 : (syntagmlaw13_SetsAlone.j0 k a1 l2 a3 true true l0_0 l0_1 l0_2 l0_3 a0_4) = some r := by rw [if_neg (show ¬ (false = true) by decide)] at H; exact H
            clear H
            have H := H1
            clear H1
            have H' := Aside0.mk H
            clear H
            have hcz23_0 : w12.cell? ⟨gb337, 0, none⟩ = some (.slice A0_0 l0_0.length c0_0) := (blk_cell BK337.out 0).trans rfl
            have hcz23_1 : w12.cell? ⟨gb337, 1, none⟩ = some (.slice A0_1 l0_1.length c0_1) := (blk_cell BK337.out 1).trans rfl
            have hcz23_2 : w12.cell? ⟨gb337, 2, none⟩ = some (.slice A0_2 l0_2.length c0_2) := (blk_cell BK337.out 2).trans rfl
            have hcz23_3 : w12.cell? ⟨gb337, 3, none⟩ = some (.slice A0_3 l0_3.length c0_3) := (blk_cell BK337.out 3).trans rfl
            have hcz23_4 : w12.cell? ⟨gb337, 4, none⟩ = some (.int .i64 a0_4) := (blk_cell BK337.out 4).trans rfl
            have hfz23_0 := blk_frozen BK337.out 0
            have hfz23_1 := blk_frozen BK337.out 1
            have hfz23_2 := blk_frozen BK337.out 2
            have hfz23_3 := blk_frozen BK337.out 3
            have hfz23_4 := blk_frozen BK337.out 4
            go_wp2_with (first | (go_at_call 23; (with_reducible refine (inst_Valid.calls _ _ l0_0 _ _ l0_1 _ _ l0_2 _ _ l0_3 a0_4 false _ ?side1 ?side2 ?side3 ?side4 ?side5 ?side6 ?side7 ?side8 A15.out).mono ?_); (case side1 => repeat (first | exact (Kd.C_below HR0_0.out HB.out) | (with_reducible refine Kd.C_alloc ?_ _) | (with_reducible refine Kd.C_drewN ?_ _) | (with_reducible refine Kd.C_drew ?_))); (case side2 => exact HC0_0.out); (case side3 => repeat (first | exact (Kd.C_below HR0_1.out HB.out) | (with_reducible refine Kd.C_alloc ?_ _) | (with_reducible refine Kd.C_drewN ?_ _) | (with_reducible refine Kd.C_drew ?_))); (case side4 => exact HC0_1.out); (case side5 => repeat (first | exact (Kd.C_below HR0_2.out HB.out) | (with_reducible refine Kd.C_alloc ?_ _) | (with_reducible refine Kd.C_drewN ?_ _) | (with_reducible refine Kd.C_drew ?_))); (case side6 => exact HC0_2.out); (case side7 => repeat (first | exact (Kd.C_below HR0_3.out HB.out) | (with_reducible refine Kd.C_alloc ?_ _) | (with_reducible refine Kd.C_drewN ?_ _) | (with_reducible refine Kd.C_drew ?_))); (case side8 => exact HC0_3.out); rintro e w24 ⟨rfl, hb⟩; have n0_ := Aside0.mk (blk_below (g := gb337) (o := .cells #[.slice A0_0 l0_0.length c0_0, .slice A0_1 l0_1.length c0_1, .slice A0_2 l0_2.length c0_2, .slice A0_3 l0_3.length c0_3, .int .i64 a0_4] 27 (0, 0)) (by (with_reducible repeat (first | refine blk_drewN ?_ _ | refine blk_drew ?_ | refine blk_alloc ?_ _)); exact BK337.out) hb); have n1_ := Aside0.mk (below_step (by repeat (first | (with_reducible first | exact HB.out | apply below_alloc | apply pw_below_drewN | apply below_drew1 | refine below_set ?_ GE337.out) | exact HB.out)) hb); clear BK337; clear HB; have BK337 := n0_; have HB := n1_; clear n0_ n1_; (try clear hb); (try clear hb2); (try clear hk); (try clear hi)))
            go_meet
            case rel => exact ⟨_, (true), (by first | rfl | (simp; done) | (simp [*]; done)), H', ⟨by first | omega | exact Nat.le_refl _⟩, ⟨by (with_reducible repeat (first | refine blk_drewN ?_ _ | refine blk_drew ?_ | refine blk_alloc ?_ _)); exact BK337.out⟩, ⟨by repeat (first | (with_reducible first | exact HB.out | apply below_alloc | apply pw_below_drewN | apply below_drew1 | refine below_set ?_ GE337.out) | exact HB.out)⟩⟩
      · replace c13 := Bool.eq_false_iff.mpr c13
        subst c13
        have H1 : (syntagmlaw13_SetsAlone.j0 k a1 l2 a3 true true l0_0 l0_1 l0_2 l0_3 a0_4) = some r := by rw [if_neg (show ¬ (false = true) by decide)] at H; exact H
        clear H
        have H := H1
        clear H1
        have H' := Aside0.mk H
        clear H
        go_wp2
        go_meet
        case rel => exact ⟨_, (true), (by first | rfl | (simp; done) | (simp [*]; done)), H', ⟨by first | omega | exact Nat.le_refl _⟩, ⟨by (with_reducible repeat (first | refine blk_drewN ?_ _ | refine blk_drew ?_ | refine blk_alloc ?_ _)); exact BK337.out⟩, ⟨by repeat (first | (with_reducible first | exact HB.out | apply below_alloc | apply pw_below_drewN | apply below_drew1 | refine below_set ?_ GE337.out) | exact HB.out)⟩⟩
    case rest =>
      clear HC8
      try clear c1
      try clear c2
      try clear p2
      try clear c6
      try clear c10
      try clear c11
      try clear c13
      try clear c14
      try clear c14b0
      try clear c14b1
      try clear c16
      try clear c17
      try clear c17b0
      try clear hcz11_0
      try clear hcz11_1
      try clear hcz11_2
      try clear hcz11_3
      try clear hcz11_4
      try clear hcz18_0
      try clear hcz18_1
      try clear hcz18_2
      try clear hcz18_3
      try clear hcz18_4
      try clear hcz20_0
      try clear hcz20_1
      try clear hcz20_2
      try clear hcz20_3
      try clear hcz20_4
      try clear hcz22_0
      try clear hcz22_1
      try clear hcz22_2
      try clear hcz22_3
      try clear hcz22_4
      try clear hcz23_0
      try clear hcz23_1
      try clear hcz23_2
      try clear hcz23_3
      try clear hcz23_4
      try clear hfz11_0
      try clear hfz11_1
      try clear hfz11_2
      try clear hfz11_3
      try clear hfz11_4
      try clear hfz18_0
      try clear hfz18_1
      try clear hfz18_2
      try clear hfz18_3
      try clear hfz18_4
      try clear hfz20_0
      try clear hfz20_1
      try clear hfz20_2
      try clear hfz20_3
      try clear hfz20_4
      try clear hfz22_0
      try clear hfz22_1
      try clear hfz22_2
      try clear hfz22_3
      try clear hfz22_4
      try clear hfz23_0
      try clear hfz23_1
      try clear hfz23_2
      try clear hfz23_3
      try clear hfz23_4
      obtain ⟨kq, x39_7, rfl, HA, HJ7, BK337, HB⟩ := hcut
      cases kq with
      | zero => exact absurd HA.out (by simp [syntagmlaw13_SetsAlone.j0])
      | succ kj7 =>
        have H := HA.out
        clear HA
        simp only [syntagmlaw13_SetsAlone.j0] at H
        by_cases c25 : x39_7 = true
        · subst c25
          have H1 : (some true) = some r := by rw [if_pos rfl] at H; exact H
          clear H
          have H := H1
          clear H1
          obtain rfl := Option.some.inj H
          go_wp2
          go_ret
          exact ⟨by first | rfl | (simp [errW_none, errW_some] <;> rfl) | (simp [*, errW_none, errW_some] <;> rfl), by repeat (first | (with_reducible first | exact HB.out | apply below_alloc | apply pw_below_drewN | apply below_drew1 | refine below_set ?_ GE337.out) | exact HB.out)⟩
        · replace c25 := Bool.eq_false_iff.mpr c25
          subst c25
          have H1 : (if ([] : List Int).length < 17592186044416 then ((some (([] : List Int) ++ [a1] : List Int)).bind fun y341 => (if y341.length + l2.length < 17592186044416 then (if true = true then ((sets_Of.f kj7 l0_0 l0_1 l0_2 l0_3 a0_4 (y341 ++ l2) a3).bind fun t347 => ((bits_Of.f kj7 (([a1] : List Int))).bind fun t351 => (some (t347 == t351)))) else (some false)) else (none))) else (none)) = some r := by rw [if_neg (show ¬ (false = true) by decide)] at H; exact H
          clear H
          have H := H1
          clear H1
          by_cases c26 : ([] : List Int).length < 17592186044416
          · rw [if_pos c26] at H
            have LMc26 := Aside0.mk c26
            clear c26
            obtain ⟨y341, hy341⟩ : ∃ y_ : List Int, y_ = (([] : List Int) ++ [a1]) := ⟨_, rfl⟩
            replace H : (if y341.length + l2.length < 17592186044416 then (if true = true then ((sets_Of.f kj7 l0_0 l0_1 l0_2 l0_3 a0_4 (y341 ++ l2) a3).bind fun t347 => ((bits_Of.f kj7 (([a1] : List Int))).bind fun t351 => (some (t347 == t351)))) else (some false)) else (none)) = some r := by first | (rw [hy341]; with_reducible exact H) | (have H2_ := (Option.bind_some _ _).symm.trans H; rw [hy341]; with_reducible exact H2_) | (have H2_ := (Option.bind_some _ _).symm.trans H; with_reducible exact H2_) | with_reducible exact H | (rw [hy341]; exact H) | exact H
            have Ny341 := Aside0.mk hy341
            clear hy341
            by_cases c27 : y341.length + l2.length < 17592186044416
            · rw [if_pos c27] at H
              have LMc27 := Aside0.mk c27
              clear c27
              obtain ⟨y344, hy344⟩ : ∃ y_ : List Int, y_ = (y341 ++ l2) := ⟨_, rfl⟩
              replace H : (if true = true then ((sets_Of.f kj7 l0_0 l0_1 l0_2 l0_3 a0_4 y344 a3).bind fun t347 => ((bits_Of.f kj7 (([a1] : List Int))).bind fun t351 => (some (t347 == t351)))) else (some false)) = some r := by first | (rw [hy344]; with_reducible exact H) | (have H2_ := (Option.bind_some _ _).symm.trans H; rw [hy344]; with_reducible exact H2_) | (have H2_ := (Option.bind_some _ _).symm.trans H; with_reducible exact H2_) | with_reducible exact H | (rw [hy344]; exact H) | exact H
              have Ny344 := Aside0.mk hy344
              clear hy344
              replace H : ((sets_Of.f kj7 l0_0 l0_1 l0_2 l0_3 a0_4 y344 a3).bind fun t347 => ((bits_Of.f kj7 (([a1] : List Int))).bind fun t351 => (some (t347 == t351)))) = some r := by first | (rw [if_pos rfl] at H; exact H) | (rw [if_pos trivial] at H; exact H)
              replace H := Option.bind_eq_some_iff.mp H
              obtain ⟨t347, A280, H⟩ := H
              replace H : ((bits_Of.f kj7 (([a1] : List Int))).bind fun t351 => (some (t347 == t351))) = some r := H
              have A28 := Aside0.mk A280
              clear A280
              obtain ⟨y348, hy348⟩ : ∃ y_ : List Int, y_ = (([a1] : List Int)) := ⟨_, rfl⟩
              replace H : ((bits_Of.f kj7 y348).bind fun t351 => (some (t347 == t351))) = some r := by first | (rw [hy348]; with_reducible exact H) | (have H2_ := (Option.bind_some _ _).symm.trans H; rw [hy348]; with_reducible exact H2_) | (have H2_ := (Option.bind_some _ _).symm.trans H; with_reducible exact H2_) | with_reducible exact H | (rw [hy348]; exact H) | exact H
              have Ny348 := Aside0.mk hy348
              clear hy348
              replace H := Option.bind_eq_some_iff.mp H
              obtain ⟨t351, A290, H⟩ := H
              replace H : (some (t347 == t351)) = some r := H
              have A29 := Aside0.mk A290
              clear A290
              obtain rfl := Option.some.inj H
              go_wp2_with (first | ((with_reducible refine gate_builtin (b := .append) (xs := #[.tmp 41, .tmp 43]) rfl ?_); (try (refine gate_guard (by rfl) ?_; dsimp only)); at_builtin; refine Kd.R_append (Kd.int .i64) (w0 := w) w.heap.size rfl (.tmp 41) (.tmp 43) 28 41 (.int .i64 0) 8 rfl Try.underlying28 info41 rfl (by decide) (by omega) (.slice none 0 0) ([] : List Int) a1 [.int .i64 a1] (fun _ => True) (fun _ => False) rfl rfl ?aP (fun _ hk => hk.elim) ?aF ?aO ?aB ?aS ?aL ?_; (case aP => exact rfl); (case aB => exact (by repeat (first | (with_reducible first | exact HB.out | apply below_alloc | apply pw_below_drewN | apply below_drew1 | refine below_set ?_ GE337.out) | exact HB.out))); (case aF => exact (fun _ _ => trivial)); (case aO => exact ((Kd.R_nil _ _ _ _ (fun _ => True)))); (case aS => exact (below_size (by repeat (first | (with_reducible first | exact HB.out | apply below_alloc | apply pw_below_drewN | apply below_drew1 | refine below_set ?_ GE337.out) | exact HB.out)))); (case aL => have := LMc26.out; omega); intro v342 w30 ho hb hg hat; rw [← Ny341.out] at ho; have n0_ := Aside0.mk (blk_grown (g := gb337) (o := .cells #[.slice A0_0 l0_0.length c0_0, .slice A0_1 l0_1.length c0_1, .slice A0_2 l0_2.length c0_2, .slice A0_3 l0_3.length c0_3, .int .i64 a0_4] 27 (0, 0)) (by (with_reducible repeat (first | refine blk_drewN ?_ _ | refine blk_drew ?_ | refine blk_alloc ?_ _)); exact BK337.out) hg (by simp [Value.ownBlock])); have n1_ := Aside0.mk (hb); have n2_ := Aside0.mk (ho); clear BK337; clear HB; have BK337 := n0_; have HB := n1_; have HO343 := n2_; clear n0_ n1_ n2_; clear ho hb hg hat) | ((with_reducible refine gate_builtin (b := .append) (xs := #[.tmp 45, .tmp 46]) rfl ?_); (try (refine gate_guard (by rfl) ?_; dsimp only)); at_builtin; refine Kd.R_append_rows (Kd.int .i64) (w0 := w) w.heap.size rfl (.tmp 45) (.tmp 46) 28 41 (.int .i64 0) 8 rfl Try.underlying28 info41 rfl (by decide) (by omega) v342 y341 l2 _ _ _ (fun _ => True) (fun _ => False) rfl rfl ?aO ?aR (fun _ _ h => h) (fun _ h => h.elim) ?aF ?aB ?aS ?aL ?_; (case aR => repeat (first | exact (Kd.C_below HR2.out HB.out) | (with_reducible refine Kd.C_alloc ?_ _) | (with_reducible refine Kd.C_drewN ?_ _) | (with_reducible refine Kd.C_drew ?_))); (case aB => exact (by repeat (first | (with_reducible first | exact HB.out | apply below_alloc | apply pw_below_drewN | apply below_drew1 | refine below_set ?_ GE337.out) | exact HB.out))); (case aF => exact (fun _ _ => trivial)); (case aO => exact (by (with_reducible repeat (first | apply Kd.R_alloc | apply Kd.R_drewN | apply Kd.R_drew)); exact HO343.out)); (case aS => exact (below_size (by repeat (first | (with_reducible first | exact HB.out | apply below_alloc | apply pw_below_drewN | apply below_drew1 | refine below_set ?_ GE337.out) | exact HB.out)))); (case aL => have := LMc27.out; omega); intro v345 w31 ho hb hg hat; rw [← Ny344.out] at ho; have n0_ := Aside0.mk (blk_grown (g := gb337) (o := .cells #[.slice A0_0 l0_0.length c0_0, .slice A0_1 l0_1.length c0_1, .slice A0_2 l0_2.length c0_2, .slice A0_3 l0_3.length c0_3, .int .i64 a0_4] 27 (0, 0)) (by (with_reducible repeat (first | refine blk_drewN ?_ _ | refine blk_drew ?_ | refine blk_alloc ?_ _)); exact BK337.out) hg (Kd.R_ne HO343.out BK337.out (by decide))); have n1_ := Aside0.mk (hb); have n2_ := Aside0.mk (ho); clear BK337; clear HB; clear HO343; have BK337 := n0_; have HB := n1_; have HO346 := n2_; clear n0_ n1_ n2_; clear ho hb hg hat; have hcz32_0 : w31.cell? ⟨gb337, 0, none⟩ = some (.slice A0_0 l0_0.length c0_0) := (blk_cell BK337.out 0).trans rfl; have hcz32_1 : w31.cell? ⟨gb337, 1, none⟩ = some (.slice A0_1 l0_1.length c0_1) := (blk_cell BK337.out 1).trans rfl; have hcz32_2 : w31.cell? ⟨gb337, 2, none⟩ = some (.slice A0_2 l0_2.length c0_2) := (blk_cell BK337.out 2).trans rfl; have hcz32_3 : w31.cell? ⟨gb337, 3, none⟩ = some (.slice A0_3 l0_3.length c0_3) := (blk_cell BK337.out 3).trans rfl; have hcz32_4 : w31.cell? ⟨gb337, 4, none⟩ = some (.int .i64 a0_4) := (blk_cell BK337.out 4).trans rfl; have hfz32_0 := blk_frozen BK337.out 0; have hfz32_1 := blk_frozen BK337.out 1; have hfz32_2 := blk_frozen BK337.out 2; have hfz32_3 := blk_frozen BK337.out 3; have hfz32_4 := blk_frozen BK337.out 4; obtain ⟨Ao33, co33, eo33⟩ := Kd.R_slice HO346.out; subst eo33) | (go_at_call 21; (with_reducible refine (sets_Of.calls kj7 _ _ l0_0 _ _ l0_1 _ _ l0_2 _ _ l0_3 a0_4 _ _ y344 a3 t347 _ ?side1 ?side2 ?side3 ?side4 ?side5 ?side6 ?side7 ?side8 ?side9 ?side10 A28.out).mono ?_); (case side1 => repeat (first | exact (Kd.C_below HR0_0.out HB.out) | (with_reducible refine Kd.C_alloc ?_ _) | (with_reducible refine Kd.C_drewN ?_ _) | (with_reducible refine Kd.C_drew ?_))); (case side2 => exact HC0_0.out); (case side3 => repeat (first | exact (Kd.C_below HR0_1.out HB.out) | (with_reducible refine Kd.C_alloc ?_ _) | (with_reducible refine Kd.C_drewN ?_ _) | (with_reducible refine Kd.C_drew ?_))); (case side4 => exact HC0_1.out); (case side5 => repeat (first | exact (Kd.C_below HR0_2.out HB.out) | (with_reducible refine Kd.C_alloc ?_ _) | (with_reducible refine Kd.C_drewN ?_ _) | (with_reducible refine Kd.C_drew ?_))); (case side6 => exact HC0_2.out); (case side7 => repeat (first | exact (Kd.C_below HR0_3.out HB.out) | (with_reducible refine Kd.C_alloc ?_ _) | (with_reducible refine Kd.C_drewN ?_ _) | (with_reducible refine Kd.C_drew ?_))); (case side8 => exact HC0_3.out); (case side9 => repeat (first | exact (Kd.R_reads' HO346.out).2.2 | (with_reducible refine Kd.C_alloc ?_ _) | (with_reducible refine Kd.C_drewN ?_ _) | (with_reducible refine Kd.C_drew ?_))); (case side10 => exact (Kd.R_reads' HO346.out).2.1); rintro e w34 ⟨rfl, hb⟩; have n0_ := Aside0.mk (Kd.R_below (by (with_reducible repeat (first | apply Kd.R_alloc | apply Kd.R_drewN | apply Kd.R_drew)); exact HO346.out) hb); have n1_ := Aside0.mk (blk_below (g := gb337) (o := .cells #[.slice A0_0 l0_0.length c0_0, .slice A0_1 l0_1.length c0_1, .slice A0_2 l0_2.length c0_2, .slice A0_3 l0_3.length c0_3, .int .i64 a0_4] 27 (0, 0)) (by (with_reducible repeat (first | refine blk_drewN ?_ _ | refine blk_drew ?_ | refine blk_alloc ?_ _)); exact BK337.out) hb); have n2_ := Aside0.mk (below_step (by repeat (first | (with_reducible first | exact HB.out | apply below_alloc | apply pw_below_drewN | apply below_drew1 | refine below_set ?_ GE337.out) | exact HB.out)) hb); clear HO346; clear BK337; clear HB; have HO346 := n0_; have BK337 := n1_; have HB := n2_; clear n0_ n1_ n2_; (try clear hb); (try clear hb2); (try clear hk); (try clear hi)) | ((with_reducible refine gate_dst (N := 55) rfl ?_); (try (refine gate_guard (by rfl) ?_; dsimp only)); refine Kd.R_lit (Kd.int .i64) _ 3 ?hg (N := 55) ?hd (xs := ([a1] : List Int)) (inner := [.int .i64 a1]) (ok := fun _ => True) (okp := fun _ => True) ?hr ?hp (fun _ hk => hk) trivial (Below.refl _ _) (Nat.le_refl _) (by simp) ?_; (case hd => rfl); (case hg => rfl); (case hr => first | (go_simp; done) | (go_simp; rfl)); (case hp => exact (Reps.one (show Kd.M (Kd.int .i64) _ _ _ a1 [.int .i64 a1] from rfl) (Reps.none _ _))); intro v349 w35 ho36 hb hg_ hnew_; clear hg_ hnew_; (first | rw [← Ny348.out] at ho36 | (simp only [Int.reduceToNat] at ho36; rw [← Ny348.out] at ho36)); have n0_ := Aside0.mk (Kd.R_below (by (with_reducible repeat (first | apply Kd.R_alloc | apply Kd.R_drewN | apply Kd.R_drew)); exact HO346.out) hb); have n1_ := Aside0.mk (Kd.R_lower ho36 (below_size (by repeat (first | (with_reducible first | exact HB.out | apply below_alloc | apply pw_below_drewN | apply below_drew1 | refine below_set ?_ GE337.out) | exact HB.out)))); have n2_ := Aside0.mk (blk_below (g := gb337) (o := .cells #[.slice A0_0 l0_0.length c0_0, .slice A0_1 l0_1.length c0_1, .slice A0_2 l0_2.length c0_2, .slice A0_3 l0_3.length c0_3, .int .i64 a0_4] 27 (0, 0)) (by (with_reducible repeat (first | refine blk_drewN ?_ _ | refine blk_drew ?_ | refine blk_alloc ?_ _)); exact BK337.out) hb); have n3_ := Aside0.mk (below_step (by repeat (first | (with_reducible first | exact HB.out | apply below_alloc | apply pw_below_drewN | apply below_drew1 | refine below_set ?_ GE337.out) | exact HB.out)) hb); clear HO346; clear BK337; clear HB; have HO346 := n0_; have HO350 := n1_; have BK337 := n2_; have HB := n3_; clear n0_ n1_ n2_ n3_; clear hb ho36; obtain ⟨Ao37, co37, eo37⟩ := Kd.R_slice HO350.out; subst eo37) | (go_at_call 24; (with_reducible refine (bits_Of.calls kj7 _ _ y348 t351 _ ?side1 ?side2 A29.out).mono ?_); (case side1 => repeat (first | exact (Kd.R_reads' HO350.out).2.2 | (with_reducible refine Kd.C_alloc ?_ _) | (with_reducible refine Kd.C_drewN ?_ _) | (with_reducible refine Kd.C_drew ?_))); (case side2 => exact (Kd.R_reads' HO350.out).2.1); rintro e w' ⟨rfl, ⟨nd, rfl⟩⟩))
              go_ret
              exact ⟨by first | rfl | (simp [errW_none, errW_some] <;> rfl) | (simp [*, errW_none, errW_some] <;> rfl), by repeat (first | (with_reducible first | exact HB.out | apply below_alloc | apply pw_below_drewN | apply below_drew1 | refine below_set ?_ GE337.out) | exact HB.out)⟩
            · rw [if_neg c27] at H
              exact absurd H (by simp)
          · rw [if_neg c26] at H
            exact absurd H (by simp)
  · replace c6 := Bool.eq_false_iff.mpr c6
    subst c6
    have H1 : (some false) = some r := by rw [if_neg (show ¬ (false = true) by decide)] at H; exact H
    clear H
    have H := H1
    clear H1
    exact absurd ((Option.some.inj H).trans HT.out) (by decide)

/-! ### bits_Less: function 45 -/
def bits_Less.f (a0 : Int) (a1 : Int) : Option (Int) := some (Go.bits .andNot .u64 a0 a1)
set_option maxHeartbeats 8000000 in
set_option maxRecDepth 100000 in
theorem bits_Less.calls (a0 : Int) (a1 : Int) (r : Int) (w : World) (h : bits_Less.f a0 a1 = some r) :
    Calls Try.prog 45 #[.int .u64 a0, .int .u64 a1] w fun e w' => e = .returned (.int .u64 r) ∧ Drawn0 w w' := by
  have H : (some (Go.bits .andNot .u64 a0 a1)) = some r := h
  clear h
  obtain rfl := Option.some.inj H
  go_enter Try.func45, Try.ntmps45
  go_wp2
  go_ret
  exact ⟨by first | rfl | (simp; done) | (simp [*]; done), by repeat (first | exact Drawn0.refl _ | apply Drawn0.step)⟩

/-! ### bits_In: function 25 -/
def bits_In.f (a0 : Int) (a1 : Int) : Option (Bool) := (bits_Less.f a0 a1).bind fun t352 => (some (t352 == 0))
set_option maxHeartbeats 8000000 in
set_option maxRecDepth 100000 in
theorem bits_In.calls (a0 : Int) (a1 : Int) (r : Bool) (w : World) (h : bits_In.f a0 a1 = some r) :
    Calls Try.prog 25 #[.int .u64 a0, .int .u64 a1] w fun e w' => e = .returned (.bool r) ∧ Drawn0 w w' := by
  have H : ((bits_Less.f a0 a1).bind fun t352 => (some (t352 == 0))) = some r := h
  clear h
  replace H := Option.bind_eq_some_iff.mp H
  obtain ⟨t352, A30, H⟩ := H
  replace H : (some (t352 == 0)) = some r := H
  have A3 := Aside0.mk A30
  clear A30
  obtain rfl := Option.some.inj H
  go_enter Try.func25, Try.ntmps25
  go_wp2_with (first | ((with_reducible refine gate_callee (f := 45) rfl ?_); refine goesL_ (some 7) rfl rfl Try.func45 (by kernel_rfl) rfl #[.int .u64 a0, .int .u64 a1] rfl (by (try simp only [List.map_toArray, List.map_cons, List.map_nil]); first | done | rfl | (simp only [List.length_drop, List.length_take]; rfl)) ?_; (with_reducible refine (bits_Less.calls a0 a1 t352 _ A3.out).mono ?_); rintro e w' ⟨rfl, ⟨nd, rfl⟩⟩; refine ⟨_, rfl, ?_⟩))
  go_ret
  exact ⟨by first | rfl | (simp; done) | (simp [*]; done), by repeat (first | exact Drawn0.refl _ | apply Drawn0.step)⟩

-- NOT PRINTED: function 7 (syntagmlaw13_SetsMore)

/-! ### bits_Has: function 26 -/
def bits_Has.f (a0 : Int) (a1 : Int) : Option (Bool) := (bits_bit.f a1).bind fun t414 => (some ((Go.bits .and .u64 a0 t414) != 0))
set_option maxHeartbeats 8000000 in
set_option maxRecDepth 100000 in
theorem bits_Has.calls (a0 : Int) (a1 : Int) (r : Bool) (w : World) (h : bits_Has.f a0 a1 = some r) :
    Calls Try.prog 26 #[.int .u64 a0, .int .i64 a1] w fun e w' => e = .returned (.bool r) ∧ Drawn0 w w' := by
  have H : ((bits_bit.f a1).bind fun t414 => (some ((Go.bits .and .u64 a0 t414) != 0))) = some r := h
  clear h
  replace H := Option.bind_eq_some_iff.mp H
  obtain ⟨t414, A30, H⟩ := H
  replace H : (some ((Go.bits .and .u64 a0 t414) != 0)) = some r := H
  have A3 := Aside0.mk A30
  clear A30
  obtain rfl := Option.some.inj H
  go_enter Try.func26, Try.ntmps26
  go_wp2_with (first | ((with_reducible refine gate_callee (f := 44) rfl ?_); refine goesL_ (some 7) rfl rfl Try.func44 (by kernel_rfl) rfl #[.int .i64 a1] rfl (by (try simp only [List.map_toArray, List.map_cons, List.map_nil]); first | done | rfl | (simp only [List.length_drop, List.length_take]; rfl)) ?_; (with_reducible refine (bits_bit.calls a1 t414 _ A3.out).mono ?_); rintro e w' ⟨rfl, ⟨nd, rfl⟩⟩; refine ⟨_, rfl, ?_⟩))
  go_ret
  exact ⟨by first | rfl | (simp; done) | (simp [*]; done), by repeat (first | exact Drawn0.refl _ | apply Drawn0.step)⟩

-- NOT PRINTED: function 8 (syntagmlaw13_SetsClosed)

end Go.Proofs.Ytggfiopajogiiaa.P
