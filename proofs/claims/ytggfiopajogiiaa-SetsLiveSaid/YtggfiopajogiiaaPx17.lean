/- Functions of the given program as plain Lean functions, each with the proof that its call comes to that function's answer (conditions: the hypotheses of each '.calls'). Printed by wip/tools/pw.py, a wrapper round the kit's print. -/
import Derived.Test.YtggfiopajogiiaaPx0
import Derived.Test.YtggfiopajogiiaaPx1
import Derived.Test.YtggfiopajogiiaaPx3
import Derived.Test.YtggfiopajogiiaaPx4
import Derived.Test.YtggfiopajogiiaaSFirst
import Derived.Test.YtggfiopajogiiaaSVal
namespace Go.Proofs.Ytggfiopajogiiaa.P
open Go.RowKit Go.Proofs.YtggfiopajogiiaaW.PrintWords Go.Proofs.YtggfiopajogiiaaW.PrintLast Go.Proofs.YtggfiopajogiiaaW.PrintMore
attribute [local go_sem] max2_int min2_int max_two min_two max_three min_three max_four min_four   -- for this text's walks alone
set_option linter.unusedVariables false
set_option linter.unusedSimpArgs false

/-! ### syntagmlaw13_SetsLive: function 5 -/
mutual
def syntagmlaw13_SetsLive.j0 : Nat → Bool → Bool → List (S51) → List (S63) → List ByteArray → List (S45) → Int → Option (Bool)
  | 0, _, _, _, _, _, _, _ => none
  | k + 1, x3, x20, x332000, x332001, x332002, x332003, x332004 => if x20 = true then (some x3) else ((sets_Empty.f k x332000 x332001 x332002 x332003 x332004).bind fun t335 => ((sets_Lives.f k x332000 x332001 x332002 x332003 x332004).bind fun t338 => ((sets_First.f k x332000 x332001 x332002 x332003 x332004).bind fun t341 => (syntagmlaw13_SetsLive.l0 k x3 t335 t338 t341 0 x332000 x332001 x332002 x332003 x332004))))
def syntagmlaw13_SetsLive.l0 : Nat → Bool → List Bool → List Bool → List Int → Int → List (S51) → List (S63) → List ByteArray → List (S45) → Int → Option (Bool)
  | 0, _, _, _, _, _, _, _, _, _, _ => none
  | k + 1, x3, x5, x6, x7, x8, x332000, x332001, x332002, x332003, x332004 => if x8 < (x332002.length : Int) then (if 0 ≤ x8 then (if x8 < (x5.length : Int) then (if rdOf false x5 x8 = true then (if x8 < (x6.length : Int) then (if rdOf false x6 x8 = true then (syntagmlaw13_SetsLive.l0 k x3 x5 x6 x7 (wrap64 (x8 + 1)) x332000 x332001 x332002 x332003 x332004) else (some false)) else (none)) else (if x8 < (x6.length : Int) then (if rdOf false x6 x8 = true then (if x8 < (x7.length : Int) then (if (rd x7 x8) = 0 then (some false) else (syntagmlaw13_SetsLive.l0 k x3 x5 x6 x7 (wrap64 (x8 + 1)) x332000 x332001 x332002 x332003 x332004)) else (none)) else (syntagmlaw13_SetsLive.l0 k x3 x5 x6 x7 (wrap64 (x8 + 1)) x332000 x332001 x332002 x332003 x332004)) else (none))) else (none)) else (none)) else (some x3)
end
def syntagmlaw13_SetsLive.f (k : Nat) (l0_0 : List (S51)) (l0_1 : List (S63)) (l0_2 : List ByteArray) (l0_3 : List (S45)) (a0_4 : Int) : Option (Bool) := (syntagmlaw13_works.f k).bind fun t332 => (if t332 = true then ((syntagmlaw13_Few.f k l0_0 l0_1 l0_2 l0_3 a0_4).bind fun t333 => (if t333 = true then ((inst_Valid.f l0_0 l0_1 l0_2 l0_3 a0_4).bind fun t334 => (syntagmlaw13_SetsLive.j0 k t332 (!t334) l0_0 l0_1 l0_2 l0_3 a0_4)) else (syntagmlaw13_SetsLive.j0 k t332 true l0_0 l0_1 l0_2 l0_3 a0_4))) else (some false))
theorem syntagmlaw13_SetsLive.mono_l : ∀ k, (∀ y0 y1 y2 y3 y4 y5 y6, LeO (syntagmlaw13_SetsLive.j0 k y0 y1 y2 y3 y4 y5 y6) (syntagmlaw13_SetsLive.j0 (k + 1) y0 y1 y2 y3 y4 y5 y6)) ∧ (∀ y0 y1 y2 y3 y4 y5 y6 y7 y8 y9, LeO (syntagmlaw13_SetsLive.l0 k y0 y1 y2 y3 y4 y5 y6 y7 y8 y9) (syntagmlaw13_SetsLive.l0 (k + 1) y0 y1 y2 y3 y4 y5 y6 y7 y8 y9))
  | 0 => ⟨fun _ _ _ _ _ _ _ r h => by simp [syntagmlaw13_SetsLive.j0] at h, fun _ _ _ _ _ _ _ _ _ _ r h => by simp [syntagmlaw13_SetsLive.l0] at h⟩
  | k + 1 => by
    obtain ⟨ih0, ih1⟩ := syntagmlaw13_SetsLive.mono_l k
    refine ⟨?_, ?_⟩
    · intro y0 y1 y2 y3 y4 y5 y6
      unfold syntagmlaw13_SetsLive.j0
      repeat' first
      | (with_reducible exact ih0 _ _ _ _ _ _ _)
      | (with_reducible exact ih1 _ _ _ _ _ _ _ _ _ _)
      | (with_reducible exact sets_Empty.mono _ _ _ _ _ _)
      | (with_reducible exact sets_First.mono _ _ _ _ _ _)
      | (with_reducible exact sets_Lives.mono _ _ _ _ _ _)
      | (with_reducible exact syntagmlaw13_Few.mono _ _ _ _ _ _)
      | (with_reducible exact syntagmlaw13_works.mono _)
      | (with_reducible exact LeO.refl _)
      | (with_reducible exact LeO.none _)
      | (with_reducible refine LeO.ite ?_ ?_)
      | (with_reducible refine LeO.bind ?_ (fun _ => ?_))
      | exact ih0 _ _ _ _ _ _ _
      | exact ih1 _ _ _ _ _ _ _ _ _ _
      | exact sets_Empty.mono _ _ _ _ _ _
      | exact sets_First.mono _ _ _ _ _ _
      | exact sets_Lives.mono _ _ _ _ _ _
      | exact syntagmlaw13_Few.mono _ _ _ _ _ _
      | exact syntagmlaw13_works.mono _
      | exact LeO.none _
      | refine LeO.ite ?_ ?_
      | refine LeO.bind ?_ (fun _ => ?_)
    · intro y0 y1 y2 y3 y4 y5 y6 y7 y8 y9
      unfold syntagmlaw13_SetsLive.l0
      repeat' first
      | (with_reducible exact ih0 _ _ _ _ _ _ _)
      | (with_reducible exact ih1 _ _ _ _ _ _ _ _ _ _)
      | (with_reducible exact sets_Empty.mono _ _ _ _ _ _)
      | (with_reducible exact sets_First.mono _ _ _ _ _ _)
      | (with_reducible exact sets_Lives.mono _ _ _ _ _ _)
      | (with_reducible exact syntagmlaw13_Few.mono _ _ _ _ _ _)
      | (with_reducible exact syntagmlaw13_works.mono _)
      | (with_reducible exact LeO.refl _)
      | (with_reducible exact LeO.none _)
      | (with_reducible refine LeO.ite ?_ ?_)
      | (with_reducible refine LeO.bind ?_ (fun _ => ?_))
      | exact ih0 _ _ _ _ _ _ _
      | exact ih1 _ _ _ _ _ _ _ _ _ _
      | exact sets_Empty.mono _ _ _ _ _ _
      | exact sets_First.mono _ _ _ _ _ _
      | exact sets_Lives.mono _ _ _ _ _ _
      | exact syntagmlaw13_Few.mono _ _ _ _ _ _
      | exact syntagmlaw13_works.mono _
      | exact LeO.none _
      | refine LeO.ite ?_ ?_
      | refine LeO.bind ?_ (fun _ => ?_)
theorem syntagmlaw13_SetsLive.mono : ∀ a0 a1 a2 a3 a4 k, LeO (syntagmlaw13_SetsLive.f k a0 a1 a2 a3 a4) (syntagmlaw13_SetsLive.f (k + 1) a0 a1 a2 a3 a4) := by
  intro a0 a1 a2 a3 a4 k
  obtain ⟨ih0, ih1⟩ := syntagmlaw13_SetsLive.mono_l k
  unfold syntagmlaw13_SetsLive.f
  repeat' first
      | (with_reducible exact ih0 _ _ _ _ _ _ _)
      | (with_reducible exact ih1 _ _ _ _ _ _ _ _ _ _)
      | (with_reducible exact sets_Empty.mono _ _ _ _ _ _)
      | (with_reducible exact sets_First.mono _ _ _ _ _ _)
      | (with_reducible exact sets_Lives.mono _ _ _ _ _ _)
      | (with_reducible exact syntagmlaw13_Few.mono _ _ _ _ _ _)
      | (with_reducible exact syntagmlaw13_works.mono _)
      | (with_reducible exact LeO.refl _)
      | (with_reducible exact LeO.none _)
      | (with_reducible refine LeO.ite ?_ ?_)
      | (with_reducible refine LeO.bind ?_ (fun _ => ?_))
      | exact ih0 _ _ _ _ _ _ _
      | exact ih1 _ _ _ _ _ _ _ _ _ _
      | exact sets_Empty.mono _ _ _ _ _ _
      | exact sets_First.mono _ _ _ _ _ _
      | exact sets_Lives.mono _ _ _ _ _ _
      | exact syntagmlaw13_Few.mono _ _ _ _ _ _
      | exact syntagmlaw13_works.mono _
      | exact LeO.none _
      | refine LeO.ite ?_ ?_
      | refine LeO.bind ?_ (fun _ => ?_)
set_option maxHeartbeats 8000000 in
set_option maxRecDepth 100000 in
theorem syntagmlaw13_SetsLive.calls (k : Nat) (A0_0 : Option Addr) (c0_0 : Nat) (l0_0 : List (S51)) (A0_1 : Option Addr) (c0_1 : Nat) (l0_1 : List (S63)) (A0_2 : Option Addr) (c0_2 : Nat) (l0_2 : List ByteArray) (A0_3 : Option Addr) (c0_3 : Nat) (l0_3 : List (S45)) (a0_4 : Int) (r : Bool) (w : World) (hT : r = true) (hr0_0 : Kd.C k51 w A0_0 l0_0.length l0_0) (hc0_0 : l0_0.length ≤ c0_0) (hr0_1 : Kd.C k63 w A0_1 l0_1.length l0_1) (hc0_1 : l0_1.length ≤ c0_1) (hr0_2 : Kd.C Kd.string w A0_2 l0_2.length l0_2) (hc0_2 : l0_2.length ≤ c0_2) (hr0_3 : Kd.C k45 w A0_3 l0_3.length l0_3) (hc0_3 : l0_3.length ≤ c0_3) (h : syntagmlaw13_SetsLive.f k l0_0 l0_1 l0_2 l0_3 a0_4 = some r) :
    Calls Try.prog 5 #[.agg #[.slice A0_0 l0_0.length c0_0, .slice A0_1 l0_1.length c0_1, .slice A0_2 l0_2.length c0_2, .slice A0_3 l0_3.length c0_3, .int .i64 a0_4]] w fun e w' => e = .returned (.bool r) ∧ Below w.heap.size w w' := by
  have hu27 := Try.underlying27
  have HT := Aside0.mk hT
  clear hT
  have HR0_0 := Aside0.mk hr0_0
  have HC0_0 := Aside0.mk hc0_0
  clear hr0_0 hc0_0
  have HR0_1 := Aside0.mk hr0_1
  have HC0_1 := Aside0.mk hc0_1
  clear hr0_1 hc0_1
  have HR0_2 := Aside0.mk hr0_2
  have HC0_2 := Aside0.mk hc0_2
  clear hr0_2 hc0_2
  have HR0_3 := Aside0.mk hr0_3
  have HC0_3 := Aside0.mk hc0_3
  clear hr0_3 hc0_3
  have HB := Aside0.mk (Below.refl w.heap.size w)
  have H : ((syntagmlaw13_works.f k).bind fun t332 => (if t332 = true then ((syntagmlaw13_Few.f k l0_0 l0_1 l0_2 l0_3 a0_4).bind fun t333 => (if t333 = true then ((inst_Valid.f l0_0 l0_1 l0_2 l0_3 a0_4).bind fun t334 => (syntagmlaw13_SetsLive.j0 k t332 (!t334) l0_0 l0_1 l0_2 l0_3 a0_4)) else (syntagmlaw13_SetsLive.j0 k t332 true l0_0 l0_1 l0_2 l0_3 a0_4))) else (some false))) = some r := h
  clear h
  replace H := Option.bind_eq_some_iff.mp H
  obtain ⟨t332, A20, H⟩ := H
  replace H : (if t332 = true then ((syntagmlaw13_Few.f k l0_0 l0_1 l0_2 l0_3 a0_4).bind fun t333 => (if t333 = true then ((inst_Valid.f l0_0 l0_1 l0_2 l0_3 a0_4).bind fun t334 => (syntagmlaw13_SetsLive.j0 k t332 (!t334) l0_0 l0_1 l0_2 l0_3 a0_4)) else (syntagmlaw13_SetsLive.j0 k t332 true l0_0 l0_1 l0_2 l0_3 a0_4))) else (some false)) = some r := H
  have A2 := Aside0.mk A20
  clear A20
  by_cases c3 : t332 = true
  · subst c3
    have H1 : ((syntagmlaw13_Few.f k l0_0 l0_1 l0_2 l0_3 a0_4).bind fun t333 => (if t333 = true then ((inst_Valid.f l0_0 l0_1 l0_2 l0_3 a0_4).bind fun t334 => (syntagmlaw13_SetsLive.j0 k true (!t334) l0_0 l0_1 l0_2 l0_3 a0_4)) else (syntagmlaw13_SetsLive.j0 k true true l0_0 l0_1 l0_2 l0_3 a0_4))) = some r := by rw [if_pos rfl] at H; exact H
    clear H
    have H := H1
    clear H1
    replace H := Option.bind_eq_some_iff.mp H
    obtain ⟨t333, A40, H⟩ := H
    replace H : (if t333 = true then ((inst_Valid.f l0_0 l0_1 l0_2 l0_3 a0_4).bind fun t334 => (syntagmlaw13_SetsLive.j0 k true (!t334) l0_0 l0_1 l0_2 l0_3 a0_4)) else (syntagmlaw13_SetsLive.j0 k true true l0_0 l0_1 l0_2 l0_3 a0_4)) = some r := H
    have A4 := Aside0.mk A40
    clear A40
    have HC5 := Aside0.mk H
    clear H
    go_enter Try.func5, Try.ntmps5
    go_upto_region 5 with (first | ((with_reducible refine gate_dst (N := 1) rfl ?_); refine box_event ?hg (N := 1) ?hd (cs := #[.slice A0_0 l0_0.length c0_0, .slice A0_1 l0_1.length c0_1, .slice A0_2 l0_2.length c0_2, .slice A0_3 l0_3.length c0_3, .int .i64 a0_4]) (t := 27) ?hr ?_; (case hd => rfl); (case hg => rfl); (case hr => first | (go_simp; done) | (go_simp; rfl)); intro gb331 hg w6 hbox hb; have n0_ := Aside0.mk (below_step (by repeat (first | (with_reducible first | exact HB.out | apply below_alloc | apply pw_below_drewN | apply below_drew1) | exact HB.out)) hb); have n1_ := Aside0.mk (hbox); have n2_ := Aside0.mk ((by rw [hg]; exact (below_size (by repeat (first | (with_reducible first | exact HB.out | apply below_alloc | apply pw_below_drewN | apply below_drew1) | exact HB.out))) : w.heap.size ≤ gb331)); have n3_ := Aside0.mk ((by rw [hg]; exact (below_size (by repeat (first | (with_reducible first | exact HB.out | apply below_alloc | apply pw_below_drewN | apply below_drew1) | exact HB.out))) : w.heap.size ≤ gb331)); clear HB; have HB := n0_; have BK331 := n1_; have GW331 := n2_; have GE331 := n3_; clear n0_ n1_ n2_ n3_; clear hb hbox hg) | ((with_reducible refine gate_callee (f := 10) rfl ?_); refine goesL_ (some 9) rfl rfl Try.func10 (by kernel_rfl) rfl #[] rfl (by (try simp only [List.map_toArray, List.map_cons, List.map_nil]); first | done | rfl | (simp only [List.length_drop, List.length_take]; rfl)) ?_; (with_reducible refine (syntagmlaw13_works.calls k  true _ ?side1 A2.out).mono ?_); (case side1 => rfl); rintro e w7 ⟨rfl, hb⟩; refine ⟨_, rfl, ?_⟩; have n0_ := Aside0.mk (blk_below (g := gb331) (o := .cells #[.slice A0_0 l0_0.length c0_0, .slice A0_1 l0_1.length c0_1, .slice A0_2 l0_2.length c0_2, .slice A0_3 l0_3.length c0_3, .int .i64 a0_4] 27 (0, 0)) (by (with_reducible repeat (first | refine blk_drewN ?_ _ | refine blk_drew ?_ | refine blk_alloc ?_ _)); exact BK331.out) hb); have n1_ := Aside0.mk (below_step (by repeat (first | (with_reducible first | exact HB.out | apply below_alloc | apply pw_below_drewN | apply below_drew1 | refine below_set ?_ GE331.out) | exact HB.out)) hb); clear BK331; clear HB; have BK331 := n0_; have HB := n1_; clear n0_ n1_; (try clear hb); (try clear hb2); (try clear hk); (try clear hi); have hcz8_0 : w7.cell? ⟨gb331, 0, none⟩ = some (.slice A0_0 l0_0.length c0_0) := (blk_cell BK331.out 0).trans rfl; have hcz8_1 : w7.cell? ⟨gb331, 1, none⟩ = some (.slice A0_1 l0_1.length c0_1) := (blk_cell BK331.out 1).trans rfl; have hcz8_2 : w7.cell? ⟨gb331, 2, none⟩ = some (.slice A0_2 l0_2.length c0_2) := (blk_cell BK331.out 2).trans rfl; have hcz8_3 : w7.cell? ⟨gb331, 3, none⟩ = some (.slice A0_3 l0_3.length c0_3) := (blk_cell BK331.out 3).trans rfl; have hcz8_4 : w7.cell? ⟨gb331, 4, none⟩ = some (.int .i64 a0_4) := (blk_cell BK331.out 4).trans rfl; have hfz8_0 := blk_frozen BK331.out 0; have hfz8_1 := blk_frozen BK331.out 1; have hfz8_2 := blk_frozen BK331.out 2; have hfz8_3 := blk_frozen BK331.out 3; have hfz8_4 := blk_frozen BK331.out 4) | ((with_reducible refine gate_callee (f := 11) rfl ?_); refine goesL_ (some 13) rfl rfl Try.func11 (by kernel_rfl) rfl #[.agg #[.slice A0_0 l0_0.length c0_0, .slice A0_1 l0_1.length c0_1, .slice A0_2 l0_2.length c0_2, .slice A0_3 l0_3.length c0_3, .int .i64 a0_4]] rfl (by (try simp only [List.map_toArray, List.map_cons, List.map_nil]); first | done | rfl | (simp only [List.length_drop, List.length_take]; rfl)) ?_; (with_reducible refine (syntagmlaw13_Few.calls k _ _ l0_0 _ _ l0_1 _ _ l0_2 _ _ l0_3 a0_4 t333 _ ?side1 ?side2 ?side3 ?side4 ?side5 ?side6 ?side7 ?side8 A4.out).mono ?_); (case side1 => repeat (first | exact (Kd.C_below HR0_0.out HB.out) | (with_reducible refine Kd.C_alloc ?_ _) | (with_reducible refine Kd.C_drewN ?_ _) | (with_reducible refine Kd.C_drew ?_))); (case side2 => exact HC0_0.out); (case side3 => repeat (first | exact (Kd.C_below HR0_1.out HB.out) | (with_reducible refine Kd.C_alloc ?_ _) | (with_reducible refine Kd.C_drewN ?_ _) | (with_reducible refine Kd.C_drew ?_))); (case side4 => exact HC0_1.out); (case side5 => repeat (first | exact (Kd.C_below HR0_2.out HB.out) | (with_reducible refine Kd.C_alloc ?_ _) | (with_reducible refine Kd.C_drewN ?_ _) | (with_reducible refine Kd.C_drew ?_))); (case side6 => exact HC0_2.out); (case side7 => repeat (first | exact (Kd.C_below HR0_3.out HB.out) | (with_reducible refine Kd.C_alloc ?_ _) | (with_reducible refine Kd.C_drewN ?_ _) | (with_reducible refine Kd.C_drew ?_))); (case side8 => exact HC0_3.out); rintro e w9 ⟨rfl, hb⟩; refine ⟨_, rfl, ?_⟩; have n0_ := Aside0.mk (blk_below (g := gb331) (o := .cells #[.slice A0_0 l0_0.length c0_0, .slice A0_1 l0_1.length c0_1, .slice A0_2 l0_2.length c0_2, .slice A0_3 l0_3.length c0_3, .int .i64 a0_4] 27 (0, 0)) (by (with_reducible repeat (first | refine blk_drewN ?_ _ | refine blk_drew ?_ | refine blk_alloc ?_ _)); exact BK331.out) hb); have n1_ := Aside0.mk (below_step (by repeat (first | (with_reducible first | exact HB.out | apply below_alloc | apply pw_below_drewN | apply below_drew1 | refine below_set ?_ GE331.out) | exact HB.out)) hb); clear BK331; clear HB; have BK331 := n0_; have HB := n1_; clear n0_ n1_; (try clear hb); (try clear hb2); (try clear hk); (try clear hi)))
    (try simp only [Act.put, List.setIfInBounds_toArray, List.set_cons_zero, List.set_cons_succ])
    go_cut [20] (fun v20 wc => ∃ (kq : Nat) (x20_4 : Bool), v20 = .bool x20_4 ∧ Aside0 (syntagmlaw13_SetsLive.j0 kq true x20_4 l0_0 l0_1 l0_2 l0_3 a0_4 = some r) ∧ Aside0 (kq ≤ k) ∧ Aside0 (wc.heap[gb331]? = some (.cells #[(.slice A0_0 l0_0.length c0_0), (.slice A0_1 l0_1.length c0_1), (.slice A0_2 l0_2.length c0_2), (.slice A0_3 l0_3.length c0_3), .int .i64 a0_4] 27 (0, 0))) ∧ Aside0 (Below w.heap.size w wc))
    case first =>
      have H := HC5.out
      clear HC5
      by_cases c10 : t333 = true
      · subst c10
        have H1 : ((inst_Valid.f l0_0 l0_1 l0_2 l0_3 a0_4).bind fun t334 => (syntagmlaw13_SetsLive.j0 k true (!t334) l0_0 l0_1 l0_2 l0_3 a0_4)) = some r := by rw [if_pos rfl] at H; exact H
        clear H
        have H := H1
        clear H1
        replace H := Option.bind_eq_some_iff.mp H
        obtain ⟨t334, A110, H⟩ := H
        replace H : (syntagmlaw13_SetsLive.j0 k true (!t334) l0_0 l0_1 l0_2 l0_3 a0_4) = some r := H
        have A11 := Aside0.mk A110
        clear A110
        have H' := Aside0.mk H
        clear H
        have hcz12_0 : w9.cell? ⟨gb331, 0, none⟩ = some (.slice A0_0 l0_0.length c0_0) := (blk_cell BK331.out 0).trans rfl
        have hcz12_1 : w9.cell? ⟨gb331, 1, none⟩ = some (.slice A0_1 l0_1.length c0_1) := (blk_cell BK331.out 1).trans rfl
        have hcz12_2 : w9.cell? ⟨gb331, 2, none⟩ = some (.slice A0_2 l0_2.length c0_2) := (blk_cell BK331.out 2).trans rfl
        have hcz12_3 : w9.cell? ⟨gb331, 3, none⟩ = some (.slice A0_3 l0_3.length c0_3) := (blk_cell BK331.out 3).trans rfl
        have hcz12_4 : w9.cell? ⟨gb331, 4, none⟩ = some (.int .i64 a0_4) := (blk_cell BK331.out 4).trans rfl
        have hfz12_0 := blk_frozen BK331.out 0
        have hfz12_1 := blk_frozen BK331.out 1
        have hfz12_2 := blk_frozen BK331.out 2
        have hfz12_3 := blk_frozen BK331.out 3
        have hfz12_4 := blk_frozen BK331.out 4
        go_wp2_with (first | (go_at_call 23; (with_reducible refine (inst_Valid.calls _ _ l0_0 _ _ l0_1 _ _ l0_2 _ _ l0_3 a0_4 t334 _ ?side1 ?side2 ?side3 ?side4 ?side5 ?side6 ?side7 ?side8 A11.out).mono ?_); (case side1 => repeat (first | exact (Kd.C_below HR0_0.out HB.out) | (with_reducible refine Kd.C_alloc ?_ _) | (with_reducible refine Kd.C_drewN ?_ _) | (with_reducible refine Kd.C_drew ?_))); (case side2 => exact HC0_0.out); (case side3 => repeat (first | exact (Kd.C_below HR0_1.out HB.out) | (with_reducible refine Kd.C_alloc ?_ _) | (with_reducible refine Kd.C_drewN ?_ _) | (with_reducible refine Kd.C_drew ?_))); (case side4 => exact HC0_1.out); (case side5 => repeat (first | exact (Kd.C_below HR0_2.out HB.out) | (with_reducible refine Kd.C_alloc ?_ _) | (with_reducible refine Kd.C_drewN ?_ _) | (with_reducible refine Kd.C_drew ?_))); (case side6 => exact HC0_2.out); (case side7 => repeat (first | exact (Kd.C_below HR0_3.out HB.out) | (with_reducible refine Kd.C_alloc ?_ _) | (with_reducible refine Kd.C_drewN ?_ _) | (with_reducible refine Kd.C_drew ?_))); (case side8 => exact HC0_3.out); rintro e w13 ⟨rfl, hb⟩; have n0_ := Aside0.mk (blk_below (g := gb331) (o := .cells #[.slice A0_0 l0_0.length c0_0, .slice A0_1 l0_1.length c0_1, .slice A0_2 l0_2.length c0_2, .slice A0_3 l0_3.length c0_3, .int .i64 a0_4] 27 (0, 0)) (by (with_reducible repeat (first | refine blk_drewN ?_ _ | refine blk_drew ?_ | refine blk_alloc ?_ _)); exact BK331.out) hb); have n1_ := Aside0.mk (below_step (by repeat (first | (with_reducible first | exact HB.out | apply below_alloc | apply pw_below_drewN | apply below_drew1 | refine below_set ?_ GE331.out) | exact HB.out)) hb); clear BK331; clear HB; have BK331 := n0_; have HB := n1_; clear n0_ n1_; (try clear hb); (try clear hb2); (try clear hk); (try clear hi)))
        go_meet
        case rel => exact ⟨_, (!t334), (by first | rfl | (simp; done) | (simp [*]; done)), H', ⟨by first | omega | exact Nat.le_refl _⟩, ⟨by (with_reducible repeat (first | refine blk_drewN ?_ _ | refine blk_drew ?_ | refine blk_alloc ?_ _)); exact BK331.out⟩, ⟨by repeat (first | (with_reducible first | exact HB.out | apply below_alloc | apply pw_below_drewN | apply below_drew1 | refine below_set ?_ GE331.out) | exact HB.out)⟩⟩
      · replace c10 := Bool.eq_false_iff.mpr c10
        subst c10
        have H1 : (syntagmlaw13_SetsLive.j0 k true true l0_0 l0_1 l0_2 l0_3 a0_4) = some r := by rw [if_neg (show ¬ (false = true) by decide)] at H; exact H
        clear H
        have H := H1
        clear H1
        have H' := Aside0.mk H
        clear H
        go_wp2
        go_meet
        case rel => exact ⟨_, (true), (by first | rfl | (simp; done) | (simp [*]; done)), H', ⟨by first | omega | exact Nat.le_refl _⟩, ⟨by (with_reducible repeat (first | refine blk_drewN ?_ _ | refine blk_drew ?_ | refine blk_alloc ?_ _)); exact BK331.out⟩, ⟨by repeat (first | (with_reducible first | exact HB.out | apply below_alloc | apply pw_below_drewN | apply below_drew1 | refine below_set ?_ GE331.out) | exact HB.out)⟩⟩
    case rest =>
      clear HC5
      try clear c1
      try clear p2
      try clear c3
      try clear c5
      try clear c10
      try clear c11
      try clear hcz12_0
      try clear hcz12_1
      try clear hcz12_2
      try clear hcz12_3
      try clear hcz12_4
      try clear hcz8_0
      try clear hcz8_1
      try clear hcz8_2
      try clear hcz8_3
      try clear hcz8_4
      try clear hfz12_0
      try clear hfz12_1
      try clear hfz12_2
      try clear hfz12_3
      try clear hfz12_4
      try clear hfz8_0
      try clear hfz8_1
      try clear hfz8_2
      try clear hfz8_3
      try clear hfz8_4
      obtain ⟨kq, x20_4, rfl, HA, HJ4, BK331, HB⟩ := hcut
      cases kq with
      | zero => exact absurd HA.out (by simp [syntagmlaw13_SetsLive.j0])
      | succ kj4 =>
        have H := HA.out
        clear HA
        simp only [syntagmlaw13_SetsLive.j0] at H
        by_cases c14 : x20_4 = true
        · subst c14
          have H1 : (some true) = some r := by rw [if_pos rfl] at H; exact H
          clear H
          have H := H1
          clear H1
          obtain rfl := Option.some.inj H
          go_wp2
          go_ret
          exact ⟨by first | rfl | (simp [errW_none, errW_some] <;> rfl) | (simp [*, errW_none, errW_some] <;> rfl), by repeat (first | (with_reducible first | exact HB.out | apply below_alloc | apply pw_below_drewN | apply below_drew1 | refine below_set ?_ GE331.out) | exact HB.out)⟩
        · replace c14 := Bool.eq_false_iff.mpr c14
          subst c14
          have H1 : ((sets_Empty.f kj4 l0_0 l0_1 l0_2 l0_3 a0_4).bind fun t335 => ((sets_Lives.f kj4 l0_0 l0_1 l0_2 l0_3 a0_4).bind fun t338 => ((sets_First.f kj4 l0_0 l0_1 l0_2 l0_3 a0_4).bind fun t341 => (syntagmlaw13_SetsLive.l0 kj4 true t335 t338 t341 0 l0_0 l0_1 l0_2 l0_3 a0_4)))) = some r := by rw [if_neg (show ¬ (false = true) by decide)] at H; exact H
          clear H
          have H := H1
          clear H1
          replace H := Option.bind_eq_some_iff.mp H
          obtain ⟨t335, A150, H⟩ := H
          replace H : ((sets_Lives.f kj4 l0_0 l0_1 l0_2 l0_3 a0_4).bind fun t338 => ((sets_First.f kj4 l0_0 l0_1 l0_2 l0_3 a0_4).bind fun t341 => (syntagmlaw13_SetsLive.l0 kj4 true t335 t338 t341 0 l0_0 l0_1 l0_2 l0_3 a0_4))) = some r := H
          have A15 := Aside0.mk A150
          clear A150
          replace H := Option.bind_eq_some_iff.mp H
          obtain ⟨t338, A160, H⟩ := H
          replace H : ((sets_First.f kj4 l0_0 l0_1 l0_2 l0_3 a0_4).bind fun t341 => (syntagmlaw13_SetsLive.l0 kj4 true t335 t338 t341 0 l0_0 l0_1 l0_2 l0_3 a0_4)) = some r := H
          have A16 := Aside0.mk A160
          clear A160
          replace H := Option.bind_eq_some_iff.mp H
          obtain ⟨t341, A170, H⟩ := H
          replace H : (syntagmlaw13_SetsLive.l0 kj4 true t335 t338 t341 0 l0_0 l0_1 l0_2 l0_3 a0_4) = some r := H
          have A17 := Aside0.mk A170
          clear A170
          have H' := Aside0.mk H
          clear H
          have hcz18_0 : wc.cell? ⟨gb331, 0, none⟩ = some (.slice A0_0 l0_0.length c0_0) := (blk_cell BK331.out 0).trans rfl
          have hcz18_1 : wc.cell? ⟨gb331, 1, none⟩ = some (.slice A0_1 l0_1.length c0_1) := (blk_cell BK331.out 1).trans rfl
          have hcz18_2 : wc.cell? ⟨gb331, 2, none⟩ = some (.slice A0_2 l0_2.length c0_2) := (blk_cell BK331.out 2).trans rfl
          have hcz18_3 : wc.cell? ⟨gb331, 3, none⟩ = some (.slice A0_3 l0_3.length c0_3) := (blk_cell BK331.out 3).trans rfl
          have hcz18_4 : wc.cell? ⟨gb331, 4, none⟩ = some (.int .i64 a0_4) := (blk_cell BK331.out 4).trans rfl
          have hfz18_0 := blk_frozen BK331.out 0
          have hfz18_1 := blk_frozen BK331.out 1
          have hfz18_2 := blk_frozen BK331.out 2
          have hfz18_3 := blk_frozen BK331.out 3
          have hfz18_4 := blk_frozen BK331.out 4
          go_wp2_with (first | ((with_reducible refine gate_callee (f := 12) rfl ?_); refine goesL_ (some 23) rfl rfl Try.func12 (by kernel_rfl) rfl #[.agg #[.slice A0_0 l0_0.length c0_0, .slice A0_1 l0_1.length c0_1, .slice A0_2 l0_2.length c0_2, .slice A0_3 l0_3.length c0_3, .int .i64 a0_4]] rfl (by (try simp only [List.map_toArray, List.map_cons, List.map_nil]); first | done | rfl | (simp only [List.length_drop, List.length_take]; rfl)) ?_; (with_reducible refine (sets_Empty.calls kj4 _ _ l0_0 _ _ l0_1 _ _ l0_2 _ _ l0_3 a0_4 t335 _ ?side1 ?side2 ?side3 ?side4 ?side5 ?side6 ?side7 ?side8 A15.out).mono ?_); (case side1 => repeat (first | exact (Kd.C_below HR0_0.out HB.out) | (with_reducible refine Kd.C_alloc ?_ _) | (with_reducible refine Kd.C_drewN ?_ _) | (with_reducible refine Kd.C_drew ?_))); (case side2 => exact HC0_0.out); (case side3 => repeat (first | exact (Kd.C_below HR0_1.out HB.out) | (with_reducible refine Kd.C_alloc ?_ _) | (with_reducible refine Kd.C_drewN ?_ _) | (with_reducible refine Kd.C_drew ?_))); (case side4 => exact HC0_1.out); (case side5 => repeat (first | exact (Kd.C_below HR0_2.out HB.out) | (with_reducible refine Kd.C_alloc ?_ _) | (with_reducible refine Kd.C_drewN ?_ _) | (with_reducible refine Kd.C_drew ?_))); (case side6 => exact HC0_2.out); (case side7 => repeat (first | exact (Kd.C_below HR0_3.out HB.out) | (with_reducible refine Kd.C_alloc ?_ _) | (with_reducible refine Kd.C_drewN ?_ _) | (with_reducible refine Kd.C_drew ?_))); (case side8 => exact HC0_3.out); rintro e w19 ⟨v336, rfl, ho0, hb⟩; refine ⟨_, rfl, ?_⟩; have n0_ := Aside0.mk (Kd.R_lower ho0 (below_size (by repeat (first | (with_reducible first | exact HB.out | apply below_alloc | apply pw_below_drewN | apply below_drew1 | refine below_set ?_ GE331.out) | exact HB.out)))); have n1_ := Aside0.mk (blk_below (g := gb331) (o := .cells #[.slice A0_0 l0_0.length c0_0, .slice A0_1 l0_1.length c0_1, .slice A0_2 l0_2.length c0_2, .slice A0_3 l0_3.length c0_3, .int .i64 a0_4] 27 (0, 0)) (by (with_reducible repeat (first | refine blk_drewN ?_ _ | refine blk_drew ?_ | refine blk_alloc ?_ _)); exact BK331.out) hb); have n2_ := Aside0.mk (below_step (by repeat (first | (with_reducible first | exact HB.out | apply below_alloc | apply pw_below_drewN | apply below_drew1 | refine below_set ?_ GE331.out) | exact HB.out)) hb); clear BK331; clear HB; have HO337 := n0_; have BK331 := n1_; have HB := n2_; clear n0_ n1_ n2_; (try clear hb); (try clear hb2); (try clear hk); (try clear hi); (try clear ho0); have hcz20_0 : w19.cell? ⟨gb331, 0, none⟩ = some (.slice A0_0 l0_0.length c0_0) := (blk_cell BK331.out 0).trans rfl; have hcz20_1 : w19.cell? ⟨gb331, 1, none⟩ = some (.slice A0_1 l0_1.length c0_1) := (blk_cell BK331.out 1).trans rfl; have hcz20_2 : w19.cell? ⟨gb331, 2, none⟩ = some (.slice A0_2 l0_2.length c0_2) := (blk_cell BK331.out 2).trans rfl; have hcz20_3 : w19.cell? ⟨gb331, 3, none⟩ = some (.slice A0_3 l0_3.length c0_3) := (blk_cell BK331.out 3).trans rfl; have hcz20_4 : w19.cell? ⟨gb331, 4, none⟩ = some (.int .i64 a0_4) := (blk_cell BK331.out 4).trans rfl; have hfz20_0 := blk_frozen BK331.out 0; have hfz20_1 := blk_frozen BK331.out 1; have hfz20_2 := blk_frozen BK331.out 2; have hfz20_3 := blk_frozen BK331.out 3; have hfz20_4 := blk_frozen BK331.out 4) | ((with_reducible refine gate_callee (f := 14) rfl ?_); refine goesL_ (some 25) rfl rfl Try.func14 (by kernel_rfl) rfl #[.agg #[.slice A0_0 l0_0.length c0_0, .slice A0_1 l0_1.length c0_1, .slice A0_2 l0_2.length c0_2, .slice A0_3 l0_3.length c0_3, .int .i64 a0_4]] rfl (by (try simp only [List.map_toArray, List.map_cons, List.map_nil]); first | done | rfl | (simp only [List.length_drop, List.length_take]; rfl)) ?_; (with_reducible refine (sets_Lives.calls kj4 _ _ l0_0 _ _ l0_1 _ _ l0_2 _ _ l0_3 a0_4 t338 _ ?side1 ?side2 ?side3 ?side4 ?side5 ?side6 ?side7 ?side8 A16.out).mono ?_); (case side1 => repeat (first | exact (Kd.C_below HR0_0.out HB.out) | (with_reducible refine Kd.C_alloc ?_ _) | (with_reducible refine Kd.C_drewN ?_ _) | (with_reducible refine Kd.C_drew ?_))); (case side2 => exact HC0_0.out); (case side3 => repeat (first | exact (Kd.C_below HR0_1.out HB.out) | (with_reducible refine Kd.C_alloc ?_ _) | (with_reducible refine Kd.C_drewN ?_ _) | (with_reducible refine Kd.C_drew ?_))); (case side4 => exact HC0_1.out); (case side5 => repeat (first | exact (Kd.C_below HR0_2.out HB.out) | (with_reducible refine Kd.C_alloc ?_ _) | (with_reducible refine Kd.C_drewN ?_ _) | (with_reducible refine Kd.C_drew ?_))); (case side6 => exact HC0_2.out); (case side7 => repeat (first | exact (Kd.C_below HR0_3.out HB.out) | (with_reducible refine Kd.C_alloc ?_ _) | (with_reducible refine Kd.C_drewN ?_ _) | (with_reducible refine Kd.C_drew ?_))); (case side8 => exact HC0_3.out); rintro e w21 ⟨v339, rfl, ho0, hb⟩; refine ⟨_, rfl, ?_⟩; have n0_ := Aside0.mk (Kd.R_elder' (by (with_reducible repeat (first | apply Kd.R_alloc | apply Kd.R_drewN | apply Kd.R_drew)); exact HO337.out) (Kd.R_base ho0) hb); have n1_ := Aside0.mk (Kd.R_lower (Kd.R_new' ho0 (Kd.R_lt (by (with_reducible repeat (first | apply Kd.R_alloc | apply Kd.R_drewN | apply Kd.R_drew)); exact HO337.out))) (below_size (by repeat (first | (with_reducible first | exact HB.out | apply below_alloc | apply pw_below_drewN | apply below_drew1 | refine below_set ?_ GE331.out) | exact HB.out)))); have n2_ := Aside0.mk (blk_below (g := gb331) (o := .cells #[.slice A0_0 l0_0.length c0_0, .slice A0_1 l0_1.length c0_1, .slice A0_2 l0_2.length c0_2, .slice A0_3 l0_3.length c0_3, .int .i64 a0_4] 27 (0, 0)) (by (with_reducible repeat (first | refine blk_drewN ?_ _ | refine blk_drew ?_ | refine blk_alloc ?_ _)); exact BK331.out) hb); have n3_ := Aside0.mk (below_step (by repeat (first | (with_reducible first | exact HB.out | apply below_alloc | apply pw_below_drewN | apply below_drew1 | refine below_set ?_ GE331.out) | exact HB.out)) hb); clear HO337; clear BK331; clear HB; have HO337 := n0_; have HO340 := n1_; have BK331 := n2_; have HB := n3_; clear n0_ n1_ n2_ n3_; (try clear hb); (try clear hb2); (try clear hk); (try clear hi); (try clear ho0); have hcz22_0 : w21.cell? ⟨gb331, 0, none⟩ = some (.slice A0_0 l0_0.length c0_0) := (blk_cell BK331.out 0).trans rfl; have hcz22_1 : w21.cell? ⟨gb331, 1, none⟩ = some (.slice A0_1 l0_1.length c0_1) := (blk_cell BK331.out 1).trans rfl; have hcz22_2 : w21.cell? ⟨gb331, 2, none⟩ = some (.slice A0_2 l0_2.length c0_2) := (blk_cell BK331.out 2).trans rfl; have hcz22_3 : w21.cell? ⟨gb331, 3, none⟩ = some (.slice A0_3 l0_3.length c0_3) := (blk_cell BK331.out 3).trans rfl; have hcz22_4 : w21.cell? ⟨gb331, 4, none⟩ = some (.int .i64 a0_4) := (blk_cell BK331.out 4).trans rfl; have hfz22_0 := blk_frozen BK331.out 0; have hfz22_1 := blk_frozen BK331.out 1; have hfz22_2 := blk_frozen BK331.out 2; have hfz22_3 := blk_frozen BK331.out 3; have hfz22_4 := blk_frozen BK331.out 4) | ((with_reducible refine gate_callee (f := 17) rfl ?_); refine goesL_ (some 27) rfl rfl Try.func17 (by kernel_rfl) rfl #[.agg #[.slice A0_0 l0_0.length c0_0, .slice A0_1 l0_1.length c0_1, .slice A0_2 l0_2.length c0_2, .slice A0_3 l0_3.length c0_3, .int .i64 a0_4]] rfl (by (try simp only [List.map_toArray, List.map_cons, List.map_nil]); first | done | rfl | (simp only [List.length_drop, List.length_take]; rfl)) ?_; (with_reducible refine (sets_First.calls kj4 _ _ l0_0 _ _ l0_1 _ _ l0_2 _ _ l0_3 a0_4 t341 _ ?side1 ?side2 ?side3 ?side4 ?side5 ?side6 ?side7 ?side8 A17.out).mono ?_); (case side1 => repeat (first | exact (Kd.C_below HR0_0.out HB.out) | (with_reducible refine Kd.C_alloc ?_ _) | (with_reducible refine Kd.C_drewN ?_ _) | (with_reducible refine Kd.C_drew ?_))); (case side2 => exact HC0_0.out); (case side3 => repeat (first | exact (Kd.C_below HR0_1.out HB.out) | (with_reducible refine Kd.C_alloc ?_ _) | (with_reducible refine Kd.C_drewN ?_ _) | (with_reducible refine Kd.C_drew ?_))); (case side4 => exact HC0_1.out); (case side5 => repeat (first | exact (Kd.C_below HR0_2.out HB.out) | (with_reducible refine Kd.C_alloc ?_ _) | (with_reducible refine Kd.C_drewN ?_ _) | (with_reducible refine Kd.C_drew ?_))); (case side6 => exact HC0_2.out); (case side7 => repeat (first | exact (Kd.C_below HR0_3.out HB.out) | (with_reducible refine Kd.C_alloc ?_ _) | (with_reducible refine Kd.C_drewN ?_ _) | (with_reducible refine Kd.C_drew ?_))); (case side8 => exact HC0_3.out); rintro e w23 ⟨v342, rfl, ho0, hb⟩; refine ⟨_, rfl, ?_⟩; have n0_ := Aside0.mk (Kd.R_below (by (with_reducible repeat (first | apply Kd.R_alloc | apply Kd.R_drewN | apply Kd.R_drew)); exact HO337.out) hb); have n1_ := Aside0.mk (Kd.R_below (by (with_reducible repeat (first | apply Kd.R_alloc | apply Kd.R_drewN | apply Kd.R_drew)); exact HO340.out) hb); have n2_ := Aside0.mk (Kd.R_lower ho0 (below_size (by repeat (first | (with_reducible first | exact HB.out | apply below_alloc | apply pw_below_drewN | apply below_drew1 | refine below_set ?_ GE331.out) | exact HB.out)))); have n3_ := Aside0.mk (blk_below (g := gb331) (o := .cells #[.slice A0_0 l0_0.length c0_0, .slice A0_1 l0_1.length c0_1, .slice A0_2 l0_2.length c0_2, .slice A0_3 l0_3.length c0_3, .int .i64 a0_4] 27 (0, 0)) (by (with_reducible repeat (first | refine blk_drewN ?_ _ | refine blk_drew ?_ | refine blk_alloc ?_ _)); exact BK331.out) hb); have n4_ := Aside0.mk (below_step (by repeat (first | (with_reducible first | exact HB.out | apply below_alloc | apply pw_below_drewN | apply below_drew1 | refine below_set ?_ GE331.out) | exact HB.out)) hb); clear HO337; clear HO340; clear BK331; clear HB; have HO337 := n0_; have HO340 := n1_; have HO343 := n2_; have BK331 := n3_; have HB := n4_; clear n0_ n1_ n2_ n3_ n4_; (try clear hb); (try clear hb2); (try clear hk); (try clear hi); (try clear ho0)))
          go_loopg [8] kj4 (fun kq v8 w' => ∃ (x8_2 : Int), v8 = .int .i64 x8_2 ∧ Aside0 (syntagmlaw13_SetsLive.l0 kq true t335 t338 t341 x8_2 l0_0 l0_1 l0_2 l0_3 a0_4 = some r) ∧ Aside0 (kq ≤ kj4) ∧ Aside0 (Kd.R Kd.bool 4 w' w.heap.size (fun k_ => some k_ ≠ (v339 : Value).ownBlock) v336 t335) ∧ Aside0 (Kd.R Kd.bool 4 w' w.heap.size (fun k_ => some k_ ≠ (v336 : Value).ownBlock) v339 t338) ∧ Aside0 (Kd.R (Kd.int .u64) 30 w' w.heap.size (fun _ => True) v342 t341) ∧ Aside0 (w'.heap[gb331]? = some (.cells #[(.slice A0_0 l0_0.length c0_0), (.slice A0_1 l0_1.length c0_1), (.slice A0_2 l0_2.length c0_2), (.slice A0_3 l0_3.length c0_3), .int .i64 a0_4] 27 (0, 0))) ∧ Aside0 (Below w.heap.size w w'))
          case atStart => exact ⟨(0), (by first | rfl | (simp; done) | (simp [*]; done)), H', ⟨Nat.le_refl _⟩, ⟨by (with_reducible repeat (first | apply Kd.R_alloc | apply Kd.R_drewN | apply Kd.R_drew)); exact Kd.R_mono HO337.out (fun _ hk => hk.2)⟩, ⟨by (with_reducible repeat (first | apply Kd.R_alloc | apply Kd.R_drewN | apply Kd.R_drew)); exact Kd.R_mono HO340.out (fun _ hk => hk.2)⟩, ⟨by (with_reducible repeat (first | apply Kd.R_alloc | apply Kd.R_drewN | apply Kd.R_drew)); exact HO343.out⟩, ⟨by (with_reducible repeat (first | refine blk_drewN ?_ _ | refine blk_drew ?_ | refine blk_alloc ?_ _)); exact BK331.out⟩, ⟨by repeat (first | (with_reducible first | exact HB.out | apply below_alloc | apply pw_below_drewN | apply below_drew1 | refine below_set ?_ GE331.out) | exact HB.out)⟩⟩
          case round =>
            clear H'
            try clear c1
            try clear p2
            try clear c3
            try clear c5
            try clear c10
            try clear c11
            try clear c12
            try clear c14
            try clear c17
            try clear hcz12_0
            try clear hcz12_1
            try clear hcz12_2
            try clear hcz12_3
            try clear hcz12_4
            try clear hcz18_0
            try clear hcz18_1
            try clear hcz18_2
            try clear hcz18_3
            try clear hcz18_4
            try clear hcz20_0
            try clear hcz20_1
            try clear hcz20_2
            try clear hcz20_3
            try clear hcz20_4
            try clear hcz22_0
            try clear hcz22_1
            try clear hcz22_2
            try clear hcz22_3
            try clear hcz22_4
            try clear hcz8_0
            try clear hcz8_1
            try clear hcz8_2
            try clear hcz8_3
            try clear hcz8_4
            try clear hfz12_0
            try clear hfz12_1
            try clear hfz12_2
            try clear hfz12_3
            try clear hfz12_4
            try clear hfz18_0
            try clear hfz18_1
            try clear hfz18_2
            try clear hfz18_3
            try clear hfz18_4
            try clear hfz20_0
            try clear hfz20_1
            try clear hfz20_2
            try clear hfz20_3
            try clear hfz20_4
            try clear hfz22_0
            try clear hfz22_1
            try clear hfz22_2
            try clear hfz22_3
            try clear hfz22_4
            try clear hfz8_0
            try clear hfz8_1
            try clear hfz8_2
            try clear hfz8_3
            try clear hfz8_4
            try clear p2
            obtain ⟨x8_2, rfl, HA, HK2, HO_5, HO_6, HO_7, BK331, HB⟩ := hrel
            cases gk with
            | zero => exact absurd HA.out (by simp [syntagmlaw13_SetsLive.l0])
            | succ k2 =>
              have H := HA.out
              clear HA
              simp only [syntagmlaw13_SetsLive.l0] at H
              by_cases c24 : x8_2 < (l0_2.length : Int)
              · rw [if_pos c24] at H
                have c24b0 : decide (x8_2 < (l0_2.length : Int)) = true := decide_eq_true c24
                clear c24
                by_cases c25 : 0 ≤ x8_2
                · rw [if_pos c25] at H
                  have c25b0 : decide (0 ≤ x8_2) = true := decide_eq_true c25
                  clear c25
                  by_cases c26 : x8_2 < (t335.length : Int)
                  · rw [if_pos c26] at H
                    have c26b0 : decide (x8_2 < (t335.length : Int)) = true := decide_eq_true c26
                    clear c26
                    obtain ⟨bq27, hbq27⟩ : ∃ b_ : Bool, b_ = (rdOf false t335 x8_2) := ⟨_, rfl⟩
                    replace H : (if bq27 = true then (if x8_2 < (t338.length : Int) then (if rdOf false t338 x8_2 = true then (syntagmlaw13_SetsLive.l0 k2 true t335 t338 t341 (wrap64 (x8_2 + 1)) l0_0 l0_1 l0_2 l0_3 a0_4) else (some false)) else (none)) else (if x8_2 < (t338.length : Int) then (if rdOf false t338 x8_2 = true then (if x8_2 < (t341.length : Int) then (if (rd t341 x8_2) = 0 then (some false) else (syntagmlaw13_SetsLive.l0 k2 true t335 t338 t341 (wrap64 (x8_2 + 1)) l0_0 l0_1 l0_2 l0_3 a0_4)) else (none)) else (syntagmlaw13_SetsLive.l0 k2 true t335 t338 t341 (wrap64 (x8_2 + 1)) l0_0 l0_1 l0_2 l0_3 a0_4)) else (none))) = some r := by rw [← hbq27] at H; exact H
                    have Nbq27 := Aside0.mk hbq27
                    clear hbq27
                    by_cases c28 : bq27 = true
                    · subst c28
                      have H1 : (if x8_2 < (t338.length : Int) then (if rdOf false t338 x8_2 = true then (syntagmlaw13_SetsLive.l0 k2 true t335 t338 t341 (wrap64 (x8_2 + 1)) l0_0 l0_1 l0_2 l0_3 a0_4) else (some false)) else (none)) = some r := by rw [if_pos rfl] at H; exact H
                      clear H
                      have H := H1
                      clear H1
                      by_cases c29 : x8_2 < (t338.length : Int)
                      · rw [if_pos c29] at H
                        have c29b0 : decide (x8_2 < (t338.length : Int)) = true := decide_eq_true c29
                        clear c29
                        obtain ⟨bq30, hbq30⟩ : ∃ b_ : Bool, b_ = (rdOf false t338 x8_2) := ⟨_, rfl⟩
                        replace H : (if bq30 = true then (syntagmlaw13_SetsLive.l0 k2 true t335 t338 t341 (wrap64 (x8_2 + 1)) l0_0 l0_1 l0_2 l0_3 a0_4) else (some false)) = some r := by rw [← hbq30] at H; exact H
                        have Nbq30 := Aside0.mk hbq30
                        clear hbq30
                        by_cases c31 : bq30 = true
                        · subst c31
                          have H1 : (syntagmlaw13_SetsLive.l0 k2 true t335 t338 t341 (wrap64 (x8_2 + 1)) l0_0 l0_1 l0_2 l0_3 a0_4) = some r := by rw [if_pos rfl] at H; exact H
                          clear H
                          have H := H1
                          clear H1
                          have H' := Aside0.mk H
                          clear H
                          have hcz32_0 : wr.cell? ⟨gb331, 0, none⟩ = some (.slice A0_0 l0_0.length c0_0) := (blk_cell BK331.out 0).trans rfl
                          have hcz32_1 : wr.cell? ⟨gb331, 1, none⟩ = some (.slice A0_1 l0_1.length c0_1) := (blk_cell BK331.out 1).trans rfl
                          have hcz32_2 : wr.cell? ⟨gb331, 2, none⟩ = some (.slice A0_2 l0_2.length c0_2) := (blk_cell BK331.out 2).trans rfl
                          have hcz32_3 : wr.cell? ⟨gb331, 3, none⟩ = some (.slice A0_3 l0_3.length c0_3) := (blk_cell BK331.out 3).trans rfl
                          have hcz32_4 : wr.cell? ⟨gb331, 4, none⟩ = some (.int .i64 a0_4) := (blk_cell BK331.out 4).trans rfl
                          have hfz32_0 := blk_frozen BK331.out 0
                          have hfz32_1 := blk_frozen BK331.out 1
                          have hfz32_2 := blk_frozen BK331.out 2
                          have hfz32_3 := blk_frozen BK331.out 3
                          have hfz32_4 := blk_frozen BK331.out 4
                          obtain ⟨Ao33, co33, eo33⟩ := Kd.R_slice HO_5.out
                          subst eo33
                          have p344 : 0 ≤ (x8_2 : Int) := of_decide_eq_true (by first | (with_reducible assumption) | assumption)
                          have q344 : x8_2 < (t335.length : Int) := of_decide_eq_true (by first | (with_reducible assumption) | assumption)
                          obtain ⟨ad344, e344, hx344_0⟩ := Kd.at_bool (Kd.R_reads' HO_5.out).2.2 x8_2 p344 q344
                          (try rw [← Nbq27.out] at hx344_0)
                          (try rw [← Nbq30.out] at hx344_0)
                          cases e344
                          replace p344 := eq_true p344
                          replace q344 := eq_true q344
                          obtain ⟨Ao34, co34, eo34⟩ := Kd.R_slice HO_6.out
                          subst eo34
                          have p345 : 0 ≤ (x8_2 : Int) := of_decide_eq_true (by first | (with_reducible assumption) | assumption)
                          have q345 : x8_2 < (t338.length : Int) := of_decide_eq_true (by first | (with_reducible assumption) | assumption)
                          obtain ⟨ad345, e345, hx345_0⟩ := Kd.at_bool (Kd.R_reads' HO_6.out).2.2 x8_2 p345 q345
                          (try rw [← Nbq27.out] at hx345_0)
                          (try rw [← Nbq30.out] at hx345_0)
                          cases e345
                          replace p345 := eq_true p345
                          replace q345 := eq_true q345
                          have p346 : 0 ≤ (x8_2 : Int) := of_decide_eq_true (by first | (with_reducible assumption) | assumption)
                          have q346 : x8_2 < (t338.length : Int) := of_decide_eq_true (by first | (with_reducible assumption) | assumption)
                          obtain ⟨ad346, e346, hx346_0⟩ := Kd.at_bool (Kd.R_reads' HO_6.out).2.2 x8_2 p346 q346
                          (try rw [← Nbq27.out] at hx346_0)
                          (try rw [← Nbq30.out] at hx346_0)
                          obtain rfl : ad345 = ad346 := (by injection e346)
                          replace p346 := eq_true p346
                          replace q346 := eq_true q346
                          have p347 : 0 ≤ (x8_2 : Int) := of_decide_eq_true (by first | (with_reducible assumption) | assumption)
                          have q347 : x8_2 < (t335.length : Int) := of_decide_eq_true (by first | (with_reducible assumption) | assumption)
                          obtain ⟨ad347, e347, hx347_0⟩ := Kd.at_bool (Kd.R_reads' HO_5.out).2.2 x8_2 p347 q347
                          (try rw [← Nbq27.out] at hx347_0)
                          (try rw [← Nbq30.out] at hx347_0)
                          obtain rfl : ad344 = ad347 := (by injection e347)
                          replace p347 := eq_true p347
                          replace q347 := eq_true q347
                          go_wp2
                          go_roundg k2
                          case measure => have := HJ4.out; have := HK2.out; omega
                          case rel => exact ⟨(wrap64 (x8_2 + 1)), (by first | rfl | (simp; done) | (simp [*]; done)), H', ⟨by have := HJ4.out; have := HK2.out; omega⟩, ⟨by (with_reducible repeat (first | apply Kd.R_alloc | apply Kd.R_drewN | apply Kd.R_drew)); exact HO_5.out⟩, ⟨by (with_reducible repeat (first | apply Kd.R_alloc | apply Kd.R_drewN | apply Kd.R_drew)); exact HO_6.out⟩, ⟨by (with_reducible repeat (first | apply Kd.R_alloc | apply Kd.R_drewN | apply Kd.R_drew)); exact HO_7.out⟩, ⟨by (with_reducible repeat (first | refine blk_drewN ?_ _ | refine blk_drew ?_ | refine blk_alloc ?_ _)); exact BK331.out⟩, ⟨by repeat (first | (with_reducible first | exact HB.out | apply below_alloc | apply pw_below_drewN | apply below_drew1 | refine below_set ?_ GE331.out) | exact HB.out)⟩⟩
                        · replace c31 := Bool.eq_false_iff.mpr c31
                          subst c31
                          have H1 : (some false) = some r := by rw [if_neg (show ¬ (false = true) by decide)] at H; exact H
                          clear H
                          have H := H1
                          clear H1
                          exact absurd ((Option.some.inj H).trans HT.out) (by decide)
                      · rw [if_neg c29] at H
                        exact absurd H (by simp)
                    · replace c28 := Bool.eq_false_iff.mpr c28
                      subst c28
                      have H1 : (if x8_2 < (t338.length : Int) then (if rdOf false t338 x8_2 = true then (if x8_2 < (t341.length : Int) then (if (rd t341 x8_2) = 0 then (some false) else (syntagmlaw13_SetsLive.l0 k2 true t335 t338 t341 (wrap64 (x8_2 + 1)) l0_0 l0_1 l0_2 l0_3 a0_4)) else (none)) else (syntagmlaw13_SetsLive.l0 k2 true t335 t338 t341 (wrap64 (x8_2 + 1)) l0_0 l0_1 l0_2 l0_3 a0_4)) else (none)) = some r := by rw [if_neg (show ¬ (false = true) by decide)] at H; exact H
                      clear H
                      have H := H1
                      clear H1
                      by_cases c35 : x8_2 < (t338.length : Int)
                      · rw [if_pos c35] at H
                        have c35b0 : decide (x8_2 < (t338.length : Int)) = true := decide_eq_true c35
                        clear c35
                        obtain ⟨bq36, hbq36⟩ : ∃ b_ : Bool, b_ = (rdOf false t338 x8_2) := ⟨_, rfl⟩
                        replace H : (if bq36 = true then (if x8_2 < (t341.length : Int) then (if (rd t341 x8_2) = 0 then (some false) else (syntagmlaw13_SetsLive.l0 k2 true t335 t338 t341 (wrap64 (x8_2 + 1)) l0_0 l0_1 l0_2 l0_3 a0_4)) else (none)) else (syntagmlaw13_SetsLive.l0 k2 true t335 t338 t341 (wrap64 (x8_2 + 1)) l0_0 l0_1 l0_2 l0_3 a0_4)) = some r := by rw [← hbq36] at H; exact H
                        have Nbq36 := Aside0.mk hbq36
                        clear hbq36
                        by_cases c37 : bq36 = true
                        · subst c37
                          have H1 : (if x8_2 < (t341.length : Int) then (if (rd t341 x8_2) = 0 then (some false) else (syntagmlaw13_SetsLive.l0 k2 true t335 t338 t341 (wrap64 (x8_2 + 1)) l0_0 l0_1 l0_2 l0_3 a0_4)) else (none)) = some r := by rw [if_pos rfl] at H; exact H
                          clear H
                          have H := H1
                          clear H1
                          by_cases c38 : x8_2 < (t341.length : Int)
                          · rw [if_pos c38] at H
                            have c38b0 : decide (x8_2 < (t341.length : Int)) = true := decide_eq_true c38
                            clear c38
                            by_cases c39 : (rd t341 x8_2) = 0
                            · rw [if_pos c39] at H
                              have c39b0 : ((rd t341 x8_2) == 0) = true := beq_iff_eq.mpr c39
                              have c39b1 : ((rd t341 x8_2) != 0) = false := bne_eq_false_iff_eq.mpr c39
                              clear c39
                              exact absurd ((Option.some.inj H).trans HT.out) (by decide)
                            · rw [if_neg c39] at H
                              have c39b0 : ((rd t341 x8_2) == 0) = false := beq_eq_false_iff_ne.mpr c39
                              have c39b1 : ((rd t341 x8_2) != 0) = true := bne_iff_ne.mpr c39
                              have H' := Aside0.mk H
                              clear H
                              have hcz40_0 : wr.cell? ⟨gb331, 0, none⟩ = some (.slice A0_0 l0_0.length c0_0) := (blk_cell BK331.out 0).trans rfl
                              have hcz40_1 : wr.cell? ⟨gb331, 1, none⟩ = some (.slice A0_1 l0_1.length c0_1) := (blk_cell BK331.out 1).trans rfl
                              have hcz40_2 : wr.cell? ⟨gb331, 2, none⟩ = some (.slice A0_2 l0_2.length c0_2) := (blk_cell BK331.out 2).trans rfl
                              have hcz40_3 : wr.cell? ⟨gb331, 3, none⟩ = some (.slice A0_3 l0_3.length c0_3) := (blk_cell BK331.out 3).trans rfl
                              have hcz40_4 : wr.cell? ⟨gb331, 4, none⟩ = some (.int .i64 a0_4) := (blk_cell BK331.out 4).trans rfl
                              have hfz40_0 := blk_frozen BK331.out 0
                              have hfz40_1 := blk_frozen BK331.out 1
                              have hfz40_2 := blk_frozen BK331.out 2
                              have hfz40_3 := blk_frozen BK331.out 3
                              have hfz40_4 := blk_frozen BK331.out 4
                              obtain ⟨Ao41, co41, eo41⟩ := Kd.R_slice HO_5.out
                              subst eo41
                              have p344 : 0 ≤ (x8_2 : Int) := of_decide_eq_true (by first | (with_reducible assumption) | assumption)
                              have q344 : x8_2 < (t335.length : Int) := of_decide_eq_true (by first | (with_reducible assumption) | assumption)
                              obtain ⟨ad344, e344, hx344_0⟩ := Kd.at_bool (Kd.R_reads' HO_5.out).2.2 x8_2 p344 q344
                              (try rw [← Nbq27.out] at hx344_0)
                              (try rw [← Nbq36.out] at hx344_0)
                              cases e344
                              replace p344 := eq_true p344
                              replace q344 := eq_true q344
                              obtain ⟨Ao42, co42, eo42⟩ := Kd.R_slice HO_6.out
                              subst eo42
                              have p348 : 0 ≤ (x8_2 : Int) := of_decide_eq_true (by first | (with_reducible assumption) | assumption)
                              have q348 : x8_2 < (t338.length : Int) := of_decide_eq_true (by first | (with_reducible assumption) | assumption)
                              obtain ⟨ad348, e348, hx348_0⟩ := Kd.at_bool (Kd.R_reads' HO_6.out).2.2 x8_2 p348 q348
                              (try rw [← Nbq27.out] at hx348_0)
                              (try rw [← Nbq36.out] at hx348_0)
                              cases e348
                              replace p348 := eq_true p348
                              replace q348 := eq_true q348
                              have p349 : 0 ≤ (x8_2 : Int) := of_decide_eq_true (by first | (with_reducible assumption) | assumption)
                              have q349 : x8_2 < (t335.length : Int) := of_decide_eq_true (by first | (with_reducible assumption) | assumption)
                              obtain ⟨ad349, e349, hx349_0⟩ := Kd.at_bool (Kd.R_reads' HO_5.out).2.2 x8_2 p349 q349
                              (try rw [← Nbq27.out] at hx349_0)
                              (try rw [← Nbq36.out] at hx349_0)
                              obtain rfl : ad344 = ad349 := (by injection e349)
                              replace p349 := eq_true p349
                              replace q349 := eq_true q349
                              obtain ⟨Ao43, co43, eo43⟩ := Kd.R_slice HO_7.out
                              subst eo43
                              have p350 : 0 ≤ (x8_2 : Int) := of_decide_eq_true (by first | (with_reducible assumption) | assumption)
                              have q350 : x8_2 < (t341.length : Int) := of_decide_eq_true (by first | (with_reducible assumption) | assumption)
                              obtain ⟨ad350, e350, hx350_0⟩ := Kd.at_int (Kd.R_reads' HO_7.out).2.2 x8_2 p350 q350
                              cases e350
                              replace p350 := eq_true p350
                              replace q350 := eq_true q350
                              go_wp2
                              go_roundg k2
                              case measure => have := HJ4.out; have := HK2.out; omega
                              case rel => exact ⟨(wrap64 (x8_2 + 1)), (by first | rfl | (simp; done) | (simp [*]; done)), H', ⟨by have := HJ4.out; have := HK2.out; omega⟩, ⟨by (with_reducible repeat (first | apply Kd.R_alloc | apply Kd.R_drewN | apply Kd.R_drew)); exact HO_5.out⟩, ⟨by (with_reducible repeat (first | apply Kd.R_alloc | apply Kd.R_drewN | apply Kd.R_drew)); exact HO_6.out⟩, ⟨by (with_reducible repeat (first | apply Kd.R_alloc | apply Kd.R_drewN | apply Kd.R_drew)); exact HO_7.out⟩, ⟨by (with_reducible repeat (first | refine blk_drewN ?_ _ | refine blk_drew ?_ | refine blk_alloc ?_ _)); exact BK331.out⟩, ⟨by repeat (first | (with_reducible first | exact HB.out | apply below_alloc | apply pw_below_drewN | apply below_drew1 | refine below_set ?_ GE331.out) | exact HB.out)⟩⟩
                          · rw [if_neg c38] at H
                            exact absurd H (by simp)
                        · replace c37 := Bool.eq_false_iff.mpr c37
                          subst c37
                          have H1 : (syntagmlaw13_SetsLive.l0 k2 true t335 t338 t341 (wrap64 (x8_2 + 1)) l0_0 l0_1 l0_2 l0_3 a0_4) = some r := by rw [if_neg (show ¬ (false = true) by decide)] at H; exact H
                          clear H
                          have H := H1
                          clear H1
                          have H' := Aside0.mk H
                          clear H
                          have hcz44_0 : wr.cell? ⟨gb331, 0, none⟩ = some (.slice A0_0 l0_0.length c0_0) := (blk_cell BK331.out 0).trans rfl
                          have hcz44_1 : wr.cell? ⟨gb331, 1, none⟩ = some (.slice A0_1 l0_1.length c0_1) := (blk_cell BK331.out 1).trans rfl
                          have hcz44_2 : wr.cell? ⟨gb331, 2, none⟩ = some (.slice A0_2 l0_2.length c0_2) := (blk_cell BK331.out 2).trans rfl
                          have hcz44_3 : wr.cell? ⟨gb331, 3, none⟩ = some (.slice A0_3 l0_3.length c0_3) := (blk_cell BK331.out 3).trans rfl
                          have hcz44_4 : wr.cell? ⟨gb331, 4, none⟩ = some (.int .i64 a0_4) := (blk_cell BK331.out 4).trans rfl
                          have hfz44_0 := blk_frozen BK331.out 0
                          have hfz44_1 := blk_frozen BK331.out 1
                          have hfz44_2 := blk_frozen BK331.out 2
                          have hfz44_3 := blk_frozen BK331.out 3
                          have hfz44_4 := blk_frozen BK331.out 4
                          obtain ⟨Ao45, co45, eo45⟩ := Kd.R_slice HO_5.out
                          subst eo45
                          have p344 : 0 ≤ (x8_2 : Int) := of_decide_eq_true (by first | (with_reducible assumption) | assumption)
                          have q344 : x8_2 < (t335.length : Int) := of_decide_eq_true (by first | (with_reducible assumption) | assumption)
                          obtain ⟨ad344, e344, hx344_0⟩ := Kd.at_bool (Kd.R_reads' HO_5.out).2.2 x8_2 p344 q344
                          (try rw [← Nbq27.out] at hx344_0)
                          (try rw [← Nbq36.out] at hx344_0)
                          cases e344
                          replace p344 := eq_true p344
                          replace q344 := eq_true q344
                          obtain ⟨Ao46, co46, eo46⟩ := Kd.R_slice HO_6.out
                          subst eo46
                          have p348 : 0 ≤ (x8_2 : Int) := of_decide_eq_true (by first | (with_reducible assumption) | assumption)
                          have q348 : x8_2 < (t338.length : Int) := of_decide_eq_true (by first | (with_reducible assumption) | assumption)
                          obtain ⟨ad348, e348, hx348_0⟩ := Kd.at_bool (Kd.R_reads' HO_6.out).2.2 x8_2 p348 q348
                          (try rw [← Nbq27.out] at hx348_0)
                          (try rw [← Nbq36.out] at hx348_0)
                          cases e348
                          replace p348 := eq_true p348
                          replace q348 := eq_true q348
                          go_wp2
                          go_roundg k2
                          case measure => have := HJ4.out; have := HK2.out; omega
                          case rel => exact ⟨(wrap64 (x8_2 + 1)), (by first | rfl | (simp; done) | (simp [*]; done)), H', ⟨by have := HJ4.out; have := HK2.out; omega⟩, ⟨by (with_reducible repeat (first | apply Kd.R_alloc | apply Kd.R_drewN | apply Kd.R_drew)); exact HO_5.out⟩, ⟨by (with_reducible repeat (first | apply Kd.R_alloc | apply Kd.R_drewN | apply Kd.R_drew)); exact HO_6.out⟩, ⟨by (with_reducible repeat (first | apply Kd.R_alloc | apply Kd.R_drewN | apply Kd.R_drew)); exact HO_7.out⟩, ⟨by (with_reducible repeat (first | refine blk_drewN ?_ _ | refine blk_drew ?_ | refine blk_alloc ?_ _)); exact BK331.out⟩, ⟨by repeat (first | (with_reducible first | exact HB.out | apply below_alloc | apply pw_below_drewN | apply below_drew1 | refine below_set ?_ GE331.out) | exact HB.out)⟩⟩
                      · rw [if_neg c35] at H
                        exact absurd H (by simp)
                  · rw [if_neg c26] at H
                    exact absurd H (by simp)
                · rw [if_neg c25] at H
                  exact absurd H (by simp)
              · rw [if_neg c24] at H
                have c24b0 : decide (x8_2 < (l0_2.length : Int)) = false := decide_eq_false c24
                clear c24
                obtain rfl := Option.some.inj H
                have hcz47_0 : wr.cell? ⟨gb331, 0, none⟩ = some (.slice A0_0 l0_0.length c0_0) := (blk_cell BK331.out 0).trans rfl
                have hcz47_1 : wr.cell? ⟨gb331, 1, none⟩ = some (.slice A0_1 l0_1.length c0_1) := (blk_cell BK331.out 1).trans rfl
                have hcz47_2 : wr.cell? ⟨gb331, 2, none⟩ = some (.slice A0_2 l0_2.length c0_2) := (blk_cell BK331.out 2).trans rfl
                have hcz47_3 : wr.cell? ⟨gb331, 3, none⟩ = some (.slice A0_3 l0_3.length c0_3) := (blk_cell BK331.out 3).trans rfl
                have hcz47_4 : wr.cell? ⟨gb331, 4, none⟩ = some (.int .i64 a0_4) := (blk_cell BK331.out 4).trans rfl
                have hfz47_0 := blk_frozen BK331.out 0
                have hfz47_1 := blk_frozen BK331.out 1
                have hfz47_2 := blk_frozen BK331.out 2
                have hfz47_3 := blk_frozen BK331.out 3
                have hfz47_4 := blk_frozen BK331.out 4
                go_wp2
                go_ret
                exact ⟨by first | rfl | (simp [errW_none, errW_some] <;> rfl) | (simp [*, errW_none, errW_some] <;> rfl), by repeat (first | (with_reducible first | exact HB.out | apply below_alloc | apply pw_below_drewN | apply below_drew1 | refine below_set ?_ GE331.out) | exact HB.out)⟩
  · replace c3 := Bool.eq_false_iff.mpr c3
    subst c3
    have H1 : (some false) = some r := by rw [if_neg (show ¬ (false = true) by decide)] at H; exact H
    clear H
    have H := H1
    clear H1
    exact absurd ((Option.some.inj H).trans HT.out) (by decide)

end Go.Proofs.Ytggfiopajogiiaa.P
