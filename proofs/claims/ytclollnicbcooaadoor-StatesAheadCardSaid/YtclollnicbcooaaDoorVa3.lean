/- Texts of this claim put together: Px6, Px8, Px2, Px11, Px7, Px16. -/
import Derived.Test.YtclollnicbcooaaDoorVa0
import Derived.Test.YtclollnicbcooaaDoorVa1
import Derived.Test.YtclollnicbcooaaDoorVa2
section
namespace Go.Proofs.YtclollnicbcooaaDoor.P
open Go.RowKit Go.Proofs.YtclollnicbcooaaDoorW.PrintWords Go.Proofs.YtclollnicbcooaaDoorW.PrintLast Go.Proofs.YtclollnicbcooaaDoorW.PrintMore
attribute [local go_sem] max2_int min2_int max_two min_two max_three min_three max_four min_four   -- for this text's walks alone
set_option linter.unusedVariables false
set_option linter.unusedSimpArgs false

attribute [local go_sem high] eqA37
/-! ### states_Go: function 25 -/
def states_Go.f (l0_0 : List (S82)) (l0_1 : List (S101)) (l0_2 : List ByteArray) (l0_3 : List (S64)) (a0_4 : Int) (l1_0 : List (List (S37))) (l1_1 : List (List Int)) (a2 : Int) (a3 : Int) : Option (Int) := if a3 < 0 then (if a2 < 0 then (some (-1)) else (if a2 ≥ (l1_1.length : Int) then (some (-1)) else (if (wrap64 ((l0_0.length : Int) + (wrap64 ((-1) - a3)))) < 0 then (some (-1)) else (if 0 ≤ a2 then (if a2 < (l1_1.length : Int) then (if (wrap64 ((l0_0.length : Int) + (wrap64 ((-1) - a3)))) ≥ ((rd_L17 l1_1 a2).length : Int) then (some (-1)) else (if 0 ≤ (wrap64 ((l0_0.length : Int) + (wrap64 ((-1) - a3)))) then (if (wrap64 ((l0_0.length : Int) + (wrap64 ((-1) - a3)))) < ((rd_L17 l1_1 a2).length : Int) then (some (rd (rd_L17 l1_1 a2) (wrap64 ((l0_0.length : Int) + (wrap64 ((-1) - a3)))))) else (none)) else (none))) else (none)) else (none))))) else (if a3 ≥ (l0_0.length : Int) then (some (-1)) else (if a2 < 0 then (some (-1)) else (if a2 ≥ (l1_1.length : Int) then (some (-1)) else (if 0 ≤ a2 then (if a2 < (l1_1.length : Int) then (if a3 ≥ ((rd_L17 l1_1 a2).length : Int) then (some (-1)) else (if 0 ≤ a3 then (if a3 < ((rd_L17 l1_1 a2).length : Int) then (some (rd (rd_L17 l1_1 a2) a3)) else (none)) else (none))) else (none)) else (none)))))
set_option maxHeartbeats 8000000 in
set_option maxRecDepth 100000 in
theorem states_Go.calls (A0_0 : Option Addr) (c0_0 : Nat) (l0_0 : List (S82)) (A0_1 : Option Addr) (c0_1 : Nat) (l0_1 : List (S101)) (A0_2 : Option Addr) (c0_2 : Nat) (l0_2 : List ByteArray) (A0_3 : Option Addr) (c0_3 : Nat) (l0_3 : List (S64)) (a0_4 : Int) (A1_0 : Option Addr) (c1_0 : Nat) (l1_0 : List (List (S37))) (A1_1 : Option Addr) (c1_1 : Nat) (l1_1 : List (List Int)) (a2 : Int) (a3 : Int) (r : Int) (w : World) (hr0_0 : Kd.C k82 w A0_0 l0_0.length l0_0) (hc0_0 : l0_0.length ≤ c0_0) (hr0_1 : Kd.C k101 w A0_1 l0_1.length l0_1) (hc0_1 : l0_1.length ≤ c0_1) (hr0_2 : Kd.C Kd.string w A0_2 l0_2.length l0_2) (hc0_2 : l0_2.length ≤ c0_2) (hr0_3 : Kd.C k64 w A0_3 l0_3.length l0_3) (hc0_3 : l0_3.length ≤ c0_3) (hr1_0 : Kd.C (Kd.slice 37 k37) w A1_0 l1_0.length l1_0) (hc1_0 : l1_0.length ≤ c1_0) (hr1_1 : Kd.C (Kd.slice 3 (Kd.int .i64)) w A1_1 l1_1.length l1_1) (hc1_1 : l1_1.length ≤ c1_1) (h : states_Go.f l0_0 l0_1 l0_2 l0_3 a0_4 l1_0 l1_1 a2 a3 = some r) :
  Calls Tryd.prog 25 #[.agg #[.slice A0_0 l0_0.length c0_0, .slice A0_1 l0_1.length c0_1, .slice A0_2 l0_2.length c0_2, .slice A0_3 l0_3.length c0_3, .int .i64 a0_4], .agg #[.slice A1_0 l1_0.length c1_0, .slice A1_1 l1_1.length c1_1], .int .i64 a2, .int .i64 a3] w fun e w' => e = .returned (.int .i64 r) ∧ Below w.heap.size w w' := by
 have hu27 := Tryd.underlying27
 have hu49 := Tryd.underlying49
 have HR0_0 := Aside0.mk hr0_0
 have HC0_0 := Aside0.mk hc0_0
 clear hr0_0 hc0_0
 have HR0_1 := Aside0.mk hr0_1
 have HC0_1 := Aside0.mk hc0_1
 clear hr0_1 hc0_1
 have HR0_2 := Aside0.mk hr0_2
 have HC0_2 := Aside0.mk hc0_2
 clear hr0_2 hc0_2
 have HR0_3 := Aside0.mk hr0_3
 have HC0_3 := Aside0.mk hc0_3
 clear hr0_3 hc0_3
 have HR1_0 := Aside0.mk hr1_0
 have HC1_0 := Aside0.mk hc1_0
 clear hr1_0 hc1_0
 have HR1_1 := Aside0.mk hr1_1
 have HC1_1 := Aside0.mk hc1_1
 clear hr1_1 hc1_1
 have HB := Aside0.mk (Below.refl w.heap.size w)
 have H : (if a3 < 0 then (if a2 < 0 then (some (-1)) else (if a2 ≥ (l1_1.length : Int) then (some (-1)) else (if (wrap64 ((l0_0.length : Int) + (wrap64 ((-1) - a3)))) < 0 then (some (-1)) else (if 0 ≤ a2 then (if a2 < (l1_1.length : Int) then (if (wrap64 ((l0_0.length : Int) + (wrap64 ((-1) - a3)))) ≥ ((rd_L17 l1_1 a2).length : Int) then (some (-1)) else (if 0 ≤ (wrap64 ((l0_0.length : Int) + (wrap64 ((-1) - a3)))) then (if (wrap64 ((l0_0.length : Int) + (wrap64 ((-1) - a3)))) < ((rd_L17 l1_1 a2).length : Int) then (some (rd (rd_L17 l1_1 a2) (wrap64 ((l0_0.length : Int) + (wrap64 ((-1) - a3)))))) else (none)) else (none))) else (none)) else (none))))) else (if a3 ≥ (l0_0.length : Int) then (some (-1)) else (if a2 < 0 then (some (-1)) else (if a2 ≥ (l1_1.length : Int) then (some (-1)) else (if 0 ≤ a2 then (if a2 < (l1_1.length : Int) then (if a3 ≥ ((rd_L17 l1_1 a2).length : Int) then (some (-1)) else (if 0 ≤ a3 then (if a3 < ((rd_L17 l1_1 a2).length : Int) then (some (rd (rd_L17 l1_1 a2) a3)) else (none)) else (none))) else (none)) else (none)))))) = some r := h
 clear h
 by_cases c5 : a3 < 0
 ·rw [if_pos c5] at H
  have c5b0 : decide (a3 < 0) = true := decide_eq_true c5
  clear c5
  by_cases c6 : a2 < 0
  ·rw [if_pos c6] at H
   have c6b0 : decide (a2 < 0) = true := decide_eq_true c6
   clear c6
   obtain rfl := Option.some.inj H
   go_enter Tryd.func25, Tryd.ntmps25
   go_wp2_with (first | ((with_reducible refine gate_dst (N := 4) rfl ?_); (try (refine gate_guard (by rfl) ?_; dsimp only)); refine box_event ?hg (N := 4) ?hd (cs := #[.slice A0_0 l0_0.length c0_0, .slice A0_1 l0_1.length c0_1, .slice A0_2 l0_2.length c0_2, .slice A0_3 l0_3.length c0_3, .int .i64 a0_4]) (t := 27) ?hr ?_; (case hd => rfl); (case hg => rfl); (case hr => first | (go_simp; done) | (go_simp; rfl)); intro gb162 hg w7 hbox hb; have n0_ := Aside0.mk (below_step (by repeat (first | (with_reducible first | exact HB.out | apply below_alloc | apply pw_below_drewN | apply below_drew1) | exact HB.out)) hb); have n1_ := Aside0.mk (hbox); have n2_ := Aside0.mk ((by rw [hg]; exact (below_size (by repeat (first | (with_reducible first | exact HB.out | apply below_alloc | apply pw_below_drewN | apply below_drew1) | exact HB.out))) : w.heap.size ≤ gb162)); have n3_ := Aside0.mk ((by rw [hg]; exact (below_size (by repeat (first | (with_reducible first | exact HB.out | apply below_alloc | apply pw_below_drewN | apply below_drew1) | exact HB.out))) : w.heap.size ≤ gb162)); clear HB; have HB := n0_; have BK162 := n1_; have GW162 := n2_; have GE162 := n3_; clear n0_ n1_ n2_ n3_; clear hb hbox hg) | ((with_reducible refine gate_dst (N := 5) rfl ?_); (try (refine gate_guard (by rfl) ?_; dsimp only)); refine box_event ?hg (N := 5) ?hd (cs := #[.slice A1_0 l1_0.length c1_0, .slice A1_1 l1_1.length c1_1]) (t := 49) ?hr ?_; (case hd => rfl); (case hg => rfl); (case hr => first | (go_simp; done) | (go_simp; rfl)); intro gb163 hg w8 hbox hb; have n0_ := Aside0.mk (blk_below (g := gb162) (o := .cells #[.slice A0_0 l0_0.length c0_0, .slice A0_1 l0_1.length c0_1, .slice A0_2 l0_2.length c0_2, .slice A0_3 l0_3.length c0_3, .int .i64 a0_4] 27 (0, 0)) (by (with_reducible repeat (first | refine blk_drewN ?_ _ | refine blk_drew ?_ | refine blk_alloc ?_ _)); exact BK162.out) hb); have n1_ := Aside0.mk (below_step (by repeat (first | (with_reducible first | exact HB.out | apply below_alloc | apply pw_below_drewN | apply below_drew1 | refine below_set ?_ GE162.out) | exact HB.out)) hb); have n2_ := Aside0.mk (hbox); have n3_ := Aside0.mk ((by rw [hg]; exact (below_size (by repeat (first | (with_reducible first | exact HB.out | apply below_alloc | apply pw_below_drewN | apply below_drew1 | refine below_set ?_ GE162.out) | exact HB.out))) : w.heap.size ≤ gb163)); have n4_ := Aside0.mk ((by rw [hg]; exact (below_size (by repeat (first | (with_reducible first | exact HB.out | apply below_alloc | apply pw_below_drewN | apply below_drew1 | refine below_set ?_ GE162.out) | exact HB.out))) : w.heap.size ≤ gb163)); have n5_ := Aside0.mk ((by rw [hg]; exact Nat.ne_of_lt (blk_lt (g := gb162) (o := .cells #[.slice A0_0 l0_0.length c0_0, .slice A0_1 l0_1.length c0_1, .slice A0_2 l0_2.length c0_2, .slice A0_3 l0_3.length c0_3, .int .i64 a0_4] 27 (0, 0)) (by (with_reducible repeat (first | refine blk_drewN ?_ _ | refine blk_drew ?_ | refine blk_alloc ?_ _)); exact BK162.out)) : gb162 ≠ gb163)); have n6_ := Aside0.mk ((by rw [hg]; exact Nat.ne_of_gt (blk_lt (g := gb162) (o := .cells #[.slice A0_0 l0_0.length c0_0, .slice A0_1 l0_1.length c0_1, .slice A0_2 l0_2.length c0_2, .slice A0_3 l0_3.length c0_3, .int .i64 a0_4] 27 (0, 0)) (by (with_reducible repeat (first | refine blk_drewN ?_ _ | refine blk_drew ?_ | refine blk_alloc ?_ _)); exact BK162.out)) : gb163 ≠ gb162)); clear BK162; clear HB; have BK162 := n0_; have HB := n1_; have BK163 := n2_; have GW163 := n3_; have GE163 := n4_; have NB162_163 := n5_; have NB163_162 := n6_; clear n0_ n1_ n2_ n3_ n4_ n5_ n6_; clear hb hbox hg; have hnb9 := NB162_163.out; have hnc9 := NB163_162.out; have hcz10_0 : w8.cell? ⟨gb162, 0, none⟩ = some (.slice A0_0 l0_0.length c0_0) := (blk_cell BK162.out 0).trans rfl; have hcz10_1 : w8.cell? ⟨gb162, 1, none⟩ = some (.slice A0_1 l0_1.length c0_1) := (blk_cell BK162.out 1).trans rfl; have hcz10_2 : w8.cell? ⟨gb162, 2, none⟩ = some (.slice A0_2 l0_2.length c0_2) := (blk_cell BK162.out 2).trans rfl; have hcz10_3 : w8.cell? ⟨gb162, 3, none⟩ = some (.slice A0_3 l0_3.length c0_3) := (blk_cell BK162.out 3).trans rfl; have hcz10_4 : w8.cell? ⟨gb162, 4, none⟩ = some (.int .i64 a0_4) := (blk_cell BK162.out 4).trans rfl; have hfz10_0 := blk_frozen BK162.out 0; have hfz10_1 := blk_frozen BK162.out 1; have hfz10_2 := blk_frozen BK162.out 2; have hfz10_3 := blk_frozen BK162.out 3; have hfz10_4 := blk_frozen BK162.out 4))
   go_ret
   exact ⟨by first | rfl | (simp [errW_none, errW_some] <;> rfl) | (simp [*, errW_none, errW_some] <;> rfl), by repeat (first | (with_reducible first | exact HB.out | apply below_alloc | apply pw_below_drewN | apply below_drew1 | refine below_set ?_ GE162.out | refine below_set ?_ GE163.out) | exact HB.out)⟩
  ·rw [if_neg c6] at H
   have c6b0 : decide (a2 < 0) = false := decide_eq_false c6
   clear c6
   by_cases c11 : a2 ≥ (l1_1.length : Int)
   ·rw [if_pos c11] at H
    have c11b0 : decide ((l1_1.length : Int) ≤ a2) = true := decide_eq_true c11
    clear c11
    obtain rfl := Option.some.inj H
    go_enter Tryd.func25, Tryd.ntmps25
    go_wp2_with (first | ((with_reducible refine gate_dst (N := 4) rfl ?_); (try (refine gate_guard (by rfl) ?_; dsimp only)); refine box_event ?hg (N := 4) ?hd (cs := #[.slice A0_0 l0_0.length c0_0, .slice A0_1 l0_1.length c0_1, .slice A0_2 l0_2.length c0_2, .slice A0_3 l0_3.length c0_3, .int .i64 a0_4]) (t := 27) ?hr ?_; (case hd => rfl); (case hg => rfl); (case hr => first | (go_simp; done) | (go_simp; rfl)); intro gb162 hg w12 hbox hb; have n0_ := Aside0.mk (below_step (by repeat (first | (with_reducible first | exact HB.out | apply below_alloc | apply pw_below_drewN | apply below_drew1) | exact HB.out)) hb); have n1_ := Aside0.mk (hbox); have n2_ := Aside0.mk ((by rw [hg]; exact (below_size (by repeat (first | (with_reducible first | exact HB.out | apply below_alloc | apply pw_below_drewN | apply below_drew1) | exact HB.out))) : w.heap.size ≤ gb162)); have n3_ := Aside0.mk ((by rw [hg]; exact (below_size (by repeat (first | (with_reducible first | exact HB.out | apply below_alloc | apply pw_below_drewN | apply below_drew1) | exact HB.out))) : w.heap.size ≤ gb162)); clear HB; have HB := n0_; have BK162 := n1_; have GW162 := n2_; have GE162 := n3_; clear n0_ n1_ n2_ n3_; clear hb hbox hg) | ((with_reducible refine gate_dst (N := 5) rfl ?_); (try (refine gate_guard (by rfl) ?_; dsimp only)); refine box_event ?hg (N := 5) ?hd (cs := #[.slice A1_0 l1_0.length c1_0, .slice A1_1 l1_1.length c1_1]) (t := 49) ?hr ?_; (case hd => rfl); (case hg => rfl); (case hr => first | (go_simp; done) | (go_simp; rfl)); intro gb163 hg w13 hbox hb; have n0_ := Aside0.mk (blk_below (g := gb162) (o := .cells #[.slice A0_0 l0_0.length c0_0, .slice A0_1 l0_1.length c0_1, .slice A0_2 l0_2.length c0_2, .slice A0_3 l0_3.length c0_3, .int .i64 a0_4] 27 (0, 0)) (by (with_reducible repeat (first | refine blk_drewN ?_ _ | refine blk_drew ?_ | refine blk_alloc ?_ _)); exact BK162.out) hb); have n1_ := Aside0.mk (below_step (by repeat (first | (with_reducible first | exact HB.out | apply below_alloc | apply pw_below_drewN | apply below_drew1 | refine below_set ?_ GE162.out) | exact HB.out)) hb); have n2_ := Aside0.mk (hbox); have n3_ := Aside0.mk ((by rw [hg]; exact (below_size (by repeat (first | (with_reducible first | exact HB.out | apply below_alloc | apply pw_below_drewN | apply below_drew1 | refine below_set ?_ GE162.out) | exact HB.out))) : w.heap.size ≤ gb163)); have n4_ := Aside0.mk ((by rw [hg]; exact (below_size (by repeat (first | (with_reducible first | exact HB.out | apply below_alloc | apply pw_below_drewN | apply below_drew1 | refine below_set ?_ GE162.out) | exact HB.out))) : w.heap.size ≤ gb163)); have n5_ := Aside0.mk ((by rw [hg]; exact Nat.ne_of_lt (blk_lt (g := gb162) (o := .cells #[.slice A0_0 l0_0.length c0_0, .slice A0_1 l0_1.length c0_1, .slice A0_2 l0_2.length c0_2, .slice A0_3 l0_3.length c0_3, .int .i64 a0_4] 27 (0, 0)) (by (with_reducible repeat (first | refine blk_drewN ?_ _ | refine blk_drew ?_ | refine blk_alloc ?_ _)); exact BK162.out)) : gb162 ≠ gb163)); have n6_ := Aside0.mk ((by rw [hg]; exact Nat.ne_of_gt (blk_lt (g := gb162) (o := .cells #[.slice A0_0 l0_0.length c0_0, .slice A0_1 l0_1.length c0_1, .slice A0_2 l0_2.length c0_2, .slice A0_3 l0_3.length c0_3, .int .i64 a0_4] 27 (0, 0)) (by (with_reducible repeat (first | refine blk_drewN ?_ _ | refine blk_drew ?_ | refine blk_alloc ?_ _)); exact BK162.out)) : gb163 ≠ gb162)); clear BK162; clear HB; have BK162 := n0_; have HB := n1_; have BK163 := n2_; have GW163 := n3_; have GE163 := n4_; have NB162_163 := n5_; have NB163_162 := n6_; clear n0_ n1_ n2_ n3_ n4_ n5_ n6_; clear hb hbox hg; have hnb14 := NB162_163.out; have hnc14 := NB163_162.out; have hcz15_0 : w13.cell? ⟨gb162, 0, none⟩ = some (.slice A0_0 l0_0.length c0_0) := (blk_cell BK162.out 0).trans rfl; have hcz15_1 : w13.cell? ⟨gb162, 1, none⟩ = some (.slice A0_1 l0_1.length c0_1) := (blk_cell BK162.out 1).trans rfl; have hcz15_2 : w13.cell? ⟨gb162, 2, none⟩ = some (.slice A0_2 l0_2.length c0_2) := (blk_cell BK162.out 2).trans rfl; have hcz15_3 : w13.cell? ⟨gb162, 3, none⟩ = some (.slice A0_3 l0_3.length c0_3) := (blk_cell BK162.out 3).trans rfl; have hcz15_4 : w13.cell? ⟨gb162, 4, none⟩ = some (.int .i64 a0_4) := (blk_cell BK162.out 4).trans rfl; have hfz15_0 := blk_frozen BK162.out 0; have hfz15_1 := blk_frozen BK162.out 1; have hfz15_2 := blk_frozen BK162.out 2; have hfz15_3 := blk_frozen BK162.out 3; have hfz15_4 := blk_frozen BK162.out 4; have hcz16_0 : w13.cell? ⟨gb163, 0, none⟩ = some (.slice A1_0 l1_0.length c1_0) := (blk_cell BK163.out 0).trans rfl; have hcz16_1 : w13.cell? ⟨gb163, 1, none⟩ = some (.slice A1_1 l1_1.length c1_1) := (blk_cell BK163.out 1).trans rfl; have hfz16_0 := blk_frozen BK163.out 0; have hfz16_1 := blk_frozen BK163.out 1))
    go_ret
    exact ⟨by first | rfl | (simp [errW_none, errW_some] <;> rfl) | (simp [*, errW_none, errW_some] <;> rfl), by repeat (first | (with_reducible first | exact HB.out | apply below_alloc | apply pw_below_drewN | apply below_drew1 | refine below_set ?_ GE162.out | refine below_set ?_ GE163.out) | exact HB.out)⟩
   ·rw [if_neg c11] at H
    have c11b0 : decide ((l1_1.length : Int) ≤ a2) = false := decide_eq_false c11
    clear c11
    by_cases c17 : (wrap64 ((l0_0.length : Int) + (wrap64 ((-1) - a3)))) < 0
    ·rw [if_pos c17] at H
     have c17b0 : decide ((wrap64 ((l0_0.length : Int) + (wrap64 ((-1) - a3)))) < 0) = true := decide_eq_true c17
     clear c17
     obtain rfl := Option.some.inj H
     go_enter Tryd.func25, Tryd.ntmps25
     go_wp2_with (first | ((with_reducible refine gate_dst (N := 4) rfl ?_); (try (refine gate_guard (by rfl) ?_; dsimp only)); refine box_event ?hg (N := 4) ?hd (cs := #[.slice A0_0 l0_0.length c0_0, .slice A0_1 l0_1.length c0_1, .slice A0_2 l0_2.length c0_2, .slice A0_3 l0_3.length c0_3, .int .i64 a0_4]) (t := 27) ?hr ?_; (case hd => rfl); (case hg => rfl); (case hr => first | (go_simp; done) | (go_simp; rfl)); intro gb162 hg w18 hbox hb; have n0_ := Aside0.mk (below_step (by repeat (first | (with_reducible first | exact HB.out | apply below_alloc | apply pw_below_drewN | apply below_drew1) | exact HB.out)) hb); have n1_ := Aside0.mk (hbox); have n2_ := Aside0.mk ((by rw [hg]; exact (below_size (by repeat (first | (with_reducible first | exact HB.out | apply below_alloc | apply pw_below_drewN | apply below_drew1) | exact HB.out))) : w.heap.size ≤ gb162)); have n3_ := Aside0.mk ((by rw [hg]; exact (below_size (by repeat (first | (with_reducible first | exact HB.out | apply below_alloc | apply pw_below_drewN | apply below_drew1) | exact HB.out))) : w.heap.size ≤ gb162)); clear HB; have HB := n0_; have BK162 := n1_; have GW162 := n2_; have GE162 := n3_; clear n0_ n1_ n2_ n3_; clear hb hbox hg) | ((with_reducible refine gate_dst (N := 5) rfl ?_); (try (refine gate_guard (by rfl) ?_; dsimp only)); refine box_event ?hg (N := 5) ?hd (cs := #[.slice A1_0 l1_0.length c1_0, .slice A1_1 l1_1.length c1_1]) (t := 49) ?hr ?_; (case hd => rfl); (case hg => rfl); (case hr => first | (go_simp; done) | (go_simp; rfl)); intro gb163 hg w19 hbox hb; have n0_ := Aside0.mk (blk_below (g := gb162) (o := .cells #[.slice A0_0 l0_0.length c0_0, .slice A0_1 l0_1.length c0_1, .slice A0_2 l0_2.length c0_2, .slice A0_3 l0_3.length c0_3, .int .i64 a0_4] 27 (0, 0)) (by (with_reducible repeat (first | refine blk_drewN ?_ _ | refine blk_drew ?_ | refine blk_alloc ?_ _)); exact BK162.out) hb); have n1_ := Aside0.mk (below_step (by repeat (first | (with_reducible first | exact HB.out | apply below_alloc | apply pw_below_drewN | apply below_drew1 | refine below_set ?_ GE162.out) | exact HB.out)) hb); have n2_ := Aside0.mk (hbox); have n3_ := Aside0.mk ((by rw [hg]; exact (below_size (by repeat (first | (with_reducible first | exact HB.out | apply below_alloc | apply pw_below_drewN | apply below_drew1 | refine below_set ?_ GE162.out) | exact HB.out))) : w.heap.size ≤ gb163)); have n4_ := Aside0.mk ((by rw [hg]; exact (below_size (by repeat (first | (with_reducible first | exact HB.out | apply below_alloc | apply pw_below_drewN | apply below_drew1 | refine below_set ?_ GE162.out) | exact HB.out))) : w.heap.size ≤ gb163)); have n5_ := Aside0.mk ((by rw [hg]; exact Nat.ne_of_lt (blk_lt (g := gb162) (o := .cells #[.slice A0_0 l0_0.length c0_0, .slice A0_1 l0_1.length c0_1, .slice A0_2 l0_2.length c0_2, .slice A0_3 l0_3.length c0_3, .int .i64 a0_4] 27 (0, 0)) (by (with_reducible repeat (first | refine blk_drewN ?_ _ | refine blk_drew ?_ | refine blk_alloc ?_ _)); exact BK162.out)) : gb162 ≠ gb163)); have n6_ := Aside0.mk ((by rw [hg]; exact Nat.ne_of_gt (blk_lt (g := gb162) (o := .cells #[.slice A0_0 l0_0.length c0_0, .slice A0_1 l0_1.length c0_1, .slice A0_2 l0_2.length c0_2, .slice A0_3 l0_3.length c0_3, .int .i64 a0_4] 27 (0, 0)) (by (with_reducible repeat (first | refine blk_drewN ?_ _ | refine blk_drew ?_ | refine blk_alloc ?_ _)); exact BK162.out)) : gb163 ≠ gb162)); clear BK162; clear HB; have BK162 := n0_; have HB := n1_; have BK163 := n2_; have GW163 := n3_; have GE163 := n4_; have NB162_163 := n5_; have NB163_162 := n6_; clear n0_ n1_ n2_ n3_ n4_ n5_ n6_; clear hb hbox hg; have hnb20 := NB162_163.out; have hnc20 := NB163_162.out; have hcz21_0 : w19.cell? ⟨gb162, 0, none⟩ = some (.slice A0_0 l0_0.length c0_0) := (blk_cell BK162.out 0).trans rfl; have hcz21_1 : w19.cell? ⟨gb162, 1, none⟩ = some (.slice A0_1 l0_1.length c0_1) := (blk_cell BK162.out 1).trans rfl; have hcz21_2 : w19.cell? ⟨gb162, 2, none⟩ = some (.slice A0_2 l0_2.length c0_2) := (blk_cell BK162.out 2).trans rfl; have hcz21_3 : w19.cell? ⟨gb162, 3, none⟩ = some (.slice A0_3 l0_3.length c0_3) := (blk_cell BK162.out 3).trans rfl; have hcz21_4 : w19.cell? ⟨gb162, 4, none⟩ = some (.int .i64 a0_4) := (blk_cell BK162.out 4).trans rfl; have hfz21_0 := blk_frozen BK162.out 0; have hfz21_1 := blk_frozen BK162.out 1; have hfz21_2 := blk_frozen BK162.out 2; have hfz21_3 := blk_frozen BK162.out 3; have hfz21_4 := blk_frozen BK162.out 4; have hcz22_0 : w19.cell? ⟨gb163, 0, none⟩ = some (.slice A1_0 l1_0.length c1_0) := (blk_cell BK163.out 0).trans rfl; have hcz22_1 : w19.cell? ⟨gb163, 1, none⟩ = some (.slice A1_1 l1_1.length c1_1) := (blk_cell BK163.out 1).trans rfl; have hfz22_0 := blk_frozen BK163.out 0; have hfz22_1 := blk_frozen BK163.out 1))
     go_ret
     exact ⟨by first | rfl | (simp [errW_none, errW_some] <;> rfl) | (simp [*, errW_none, errW_some] <;> rfl), by repeat (first | (with_reducible first | exact HB.out | apply below_alloc | apply pw_below_drewN | apply below_drew1 | refine below_set ?_ GE162.out | refine below_set ?_ GE163.out) | exact HB.out)⟩
    ·rw [if_neg c17] at H
     have c17b0 : decide ((wrap64 ((l0_0.length : Int) + (wrap64 ((-1) - a3)))) < 0) = false := decide_eq_false c17
     clear c17
     by_cases c23 : 0 ≤ a2
     ·rw [if_pos c23] at H
      have c23b0 : decide (0 ≤ a2) = true := decide_eq_true c23
      clear c23
      by_cases c24 : a2 < (l1_1.length : Int)
      ·rw [if_pos c24] at H
       have c24b0 : decide (a2 < (l1_1.length : Int)) = true := decide_eq_true c24
       clear c24
       by_cases c25 : (wrap64 ((l0_0.length : Int) + (wrap64 ((-1) - a3)))) ≥ ((rd_L17 l1_1 a2).length : Int)
       ·rw [if_pos c25] at H
        have c25b0 : decide (((rd_L17 l1_1 a2).length : Int) ≤ (wrap64 ((l0_0.length : Int) + (wrap64 ((-1) - a3))))) = true := decide_eq_true c25
        clear c25
        obtain rfl := Option.some.inj H
        go_enter Tryd.func25, Tryd.ntmps25
        go_wp2_with (first | ((with_reducible refine gate_dst (N := 4) rfl ?_); (try (refine gate_guard (by rfl) ?_; dsimp only)); refine box_event ?hg (N := 4) ?hd (cs := #[.slice A0_0 l0_0.length c0_0, .slice A0_1 l0_1.length c0_1, .slice A0_2 l0_2.length c0_2, .slice A0_3 l0_3.length c0_3, .int .i64 a0_4]) (t := 27) ?hr ?_; (case hd => rfl); (case hg => rfl); (case hr => first | (go_simp; done) | (go_simp; rfl)); intro gb162 hg w26 hbox hb; have n0_ := Aside0.mk (below_step (by repeat (first | (with_reducible first | exact HB.out | apply below_alloc | apply pw_below_drewN | apply below_drew1) | exact HB.out)) hb); have n1_ := Aside0.mk (hbox); have n2_ := Aside0.mk ((by rw [hg]; exact (below_size (by repeat (first | (with_reducible first | exact HB.out | apply below_alloc | apply pw_below_drewN | apply below_drew1) | exact HB.out))) : w.heap.size ≤ gb162)); have n3_ := Aside0.mk ((by rw [hg]; exact (below_size (by repeat (first | (with_reducible first | exact HB.out | apply below_alloc | apply pw_below_drewN | apply below_drew1) | exact HB.out))) : w.heap.size ≤ gb162)); clear HB; have HB := n0_; have BK162 := n1_; have GW162 := n2_; have GE162 := n3_; clear n0_ n1_ n2_ n3_; clear hb hbox hg) | ((with_reducible refine gate_dst (N := 5) rfl ?_); (try (refine gate_guard (by rfl) ?_; dsimp only)); refine box_event ?hg (N := 5) ?hd (cs := #[.slice A1_0 l1_0.length c1_0, .slice A1_1 l1_1.length c1_1]) (t := 49) ?hr ?_; (case hd => rfl); (case hg => rfl); (case hr => first | (go_simp; done) | (go_simp; rfl)); intro gb163 hg w27 hbox hb; have n0_ := Aside0.mk (blk_below (g := gb162) (o := .cells #[.slice A0_0 l0_0.length c0_0, .slice A0_1 l0_1.length c0_1, .slice A0_2 l0_2.length c0_2, .slice A0_3 l0_3.length c0_3, .int .i64 a0_4] 27 (0, 0)) (by (with_reducible repeat (first | refine blk_drewN ?_ _ | refine blk_drew ?_ | refine blk_alloc ?_ _)); exact BK162.out) hb); have n1_ := Aside0.mk (below_step (by repeat (first | (with_reducible first | exact HB.out | apply below_alloc | apply pw_below_drewN | apply below_drew1 | refine below_set ?_ GE162.out) | exact HB.out)) hb); have n2_ := Aside0.mk (hbox); have n3_ := Aside0.mk ((by rw [hg]; exact (below_size (by repeat (first | (with_reducible first | exact HB.out | apply below_alloc | apply pw_below_drewN | apply below_drew1 | refine below_set ?_ GE162.out) | exact HB.out))) : w.heap.size ≤ gb163)); have n4_ := Aside0.mk ((by rw [hg]; exact (below_size (by repeat (first | (with_reducible first | exact HB.out | apply below_alloc | apply pw_below_drewN | apply below_drew1 | refine below_set ?_ GE162.out) | exact HB.out))) : w.heap.size ≤ gb163)); have n5_ := Aside0.mk ((by rw [hg]; exact Nat.ne_of_lt (blk_lt (g := gb162) (o := .cells #[.slice A0_0 l0_0.length c0_0, .slice A0_1 l0_1.length c0_1, .slice A0_2 l0_2.length c0_2, .slice A0_3 l0_3.length c0_3, .int .i64 a0_4] 27 (0, 0)) (by (with_reducible repeat (first | refine blk_drewN ?_ _ | refine blk_drew ?_ | refine blk_alloc ?_ _)); exact BK162.out)) : gb162 ≠ gb163)); have n6_ := Aside0.mk ((by rw [hg]; exact Nat.ne_of_gt (blk_lt (g := gb162) (o := .cells #[.slice A0_0 l0_0.length c0_0, .slice A0_1 l0_1.length c0_1, .slice A0_2 l0_2.length c0_2, .slice A0_3 l0_3.length c0_3, .int .i64 a0_4] 27 (0, 0)) (by (with_reducible repeat (first | refine blk_drewN ?_ _ | refine blk_drew ?_ | refine blk_alloc ?_ _)); exact BK162.out)) : gb163 ≠ gb162)); clear BK162; clear HB; have BK162 := n0_; have HB := n1_; have BK163 := n2_; have GW163 := n3_; have GE163 := n4_; have NB162_163 := n5_; have NB163_162 := n6_; clear n0_ n1_ n2_ n3_ n4_ n5_ n6_; clear hb hbox hg; have hnb28 := NB162_163.out; have hnc28 := NB163_162.out; have hcz29_0 : w27.cell? ⟨gb162, 0, none⟩ = some (.slice A0_0 l0_0.length c0_0) := (blk_cell BK162.out 0).trans rfl; have hcz29_1 : w27.cell? ⟨gb162, 1, none⟩ = some (.slice A0_1 l0_1.length c0_1) := (blk_cell BK162.out 1).trans rfl; have hcz29_2 : w27.cell? ⟨gb162, 2, none⟩ = some (.slice A0_2 l0_2.length c0_2) := (blk_cell BK162.out 2).trans rfl; have hcz29_3 : w27.cell? ⟨gb162, 3, none⟩ = some (.slice A0_3 l0_3.length c0_3) := (blk_cell BK162.out 3).trans rfl; have hcz29_4 : w27.cell? ⟨gb162, 4, none⟩ = some (.int .i64 a0_4) := (blk_cell BK162.out 4).trans rfl; have hfz29_0 := blk_frozen BK162.out 0; have hfz29_1 := blk_frozen BK162.out 1; have hfz29_2 := blk_frozen BK162.out 2; have hfz29_3 := blk_frozen BK162.out 3; have hfz29_4 := blk_frozen BK162.out 4; have hcz30_0 : w27.cell? ⟨gb163, 0, none⟩ = some (.slice A1_0 l1_0.length c1_0) := (blk_cell BK163.out 0).trans rfl; have hcz30_1 : w27.cell? ⟨gb163, 1, none⟩ = some (.slice A1_1 l1_1.length c1_1) := (blk_cell BK163.out 1).trans rfl; have hfz30_0 := blk_frozen BK163.out 0; have hfz30_1 := blk_frozen BK163.out 1; have p164 : 0 ≤ (a2 : Int) := of_decide_eq_true (by first | (with_reducible assumption) | assumption); have q164 : a2 < (l1_1.length : Int) := of_decide_eq_true (by first | (with_reducible assumption) | assumption); obtain ⟨ad164, A164_0, c164_0, e164, hx164_0, hl164_0, hi164_0⟩ := at_L17 HR1_1.out a2 p164 q164; cases e164; replace hx164_0 := (HB.out.cell (World.block_lt_of_cell? w _ hx164_0)).trans hx164_0; have HR164_0 := Aside0.mk hi164_0; have HC164_0 := Aside0.mk hl164_0; clear hi164_0 hl164_0; replace p164 := eq_true p164; replace q164 := eq_true q164))
        go_ret
        exact ⟨by first | rfl | (simp [errW_none, errW_some] <;> rfl) | (simp [*, errW_none, errW_some] <;> rfl), by repeat (first | (with_reducible first | exact HB.out | apply below_alloc | apply pw_below_drewN | apply below_drew1 | refine below_set ?_ GE162.out | refine below_set ?_ GE163.out) | exact HB.out)⟩
       ·rw [if_neg c25] at H
        have c25b0 : decide (((rd_L17 l1_1 a2).length : Int) ≤ (wrap64 ((l0_0.length : Int) + (wrap64 ((-1) - a3))))) = false := decide_eq_false c25
        clear c25
        obtain ⟨ji31, hji31⟩ : ∃ j_ : Int, (wrap64 ((l0_0.length : Int) + (wrap64 ((-1) - a3)))) = j_ := ⟨_, rfl⟩
        replace H : (if 0 ≤ (ji31) then (if (ji31) < ((rd_L17 l1_1 a2).length : Int) then (some (rd (rd_L17 l1_1 a2) (ji31))) else (none)) else (none)) = some r := by first | (rw [hji31] at H; exact H) | (simp only [hji31] at H ⊢; exact H)
        (try rw [hji31] at c17b0)
        (try rw [hji31] at c25b0)
        have hji31w : (IntKind.i64.wrap ((l0_0.length : Int) + (wrap64 ((-1) - a3)))) = ji31 := (i64_w _).trans hji31
        by_cases c32 : 0 ≤ (ji31)
        ·rw [if_pos c32] at H
         have c32b0 : decide (0 ≤ (ji31)) = true := decide_eq_true c32
         clear c32
         by_cases c33 : (ji31) < ((rd_L17 l1_1 a2).length : Int)
         ·rw [if_pos c33] at H
          have c33b0 : decide ((ji31) < ((rd_L17 l1_1 a2).length : Int)) = true := decide_eq_true c33
          clear c33
          obtain rfl := Option.some.inj H
          go_enter Tryd.func25, Tryd.ntmps25
          go_wp2_with (first | ((with_reducible refine gate_dst (N := 4) rfl ?_); (try (refine gate_guard (by rfl) ?_; dsimp only)); refine box_event ?hg (N := 4) ?hd (cs := #[.slice A0_0 l0_0.length c0_0, .slice A0_1 l0_1.length c0_1, .slice A0_2 l0_2.length c0_2, .slice A0_3 l0_3.length c0_3, .int .i64 a0_4]) (t := 27) ?hr ?_; (case hd => rfl); (case hg => rfl); (case hr => first | (go_simp; done) | (go_simp; rfl)); intro gb162 hg w34 hbox hb; have n0_ := Aside0.mk (below_step (by repeat (first | (with_reducible first | exact HB.out | apply below_alloc | apply pw_below_drewN | apply below_drew1) | exact HB.out)) hb); have n1_ := Aside0.mk (hbox); have n2_ := Aside0.mk ((by rw [hg]; exact (below_size (by repeat (first | (with_reducible first | exact HB.out | apply below_alloc | apply pw_below_drewN | apply below_drew1) | exact HB.out))) : w.heap.size ≤ gb162)); have n3_ := Aside0.mk ((by rw [hg]; exact (below_size (by repeat (first | (with_reducible first | exact HB.out | apply below_alloc | apply pw_below_drewN | apply below_drew1) | exact HB.out))) : w.heap.size ≤ gb162)); clear HB; have HB := n0_; have BK162 := n1_; have GW162 := n2_; have GE162 := n3_; clear n0_ n1_ n2_ n3_; clear hb hbox hg) | ((with_reducible refine gate_dst (N := 5) rfl ?_); (try (refine gate_guard (by rfl) ?_; dsimp only)); refine box_event ?hg (N := 5) ?hd (cs := #[.slice A1_0 l1_0.length c1_0, .slice A1_1 l1_1.length c1_1]) (t := 49) ?hr ?_; (case hd => rfl); (case hg => rfl); (case hr => first | (go_simp; done) | (go_simp; rfl)); intro gb163 hg w35 hbox hb; have n0_ := Aside0.mk (blk_below (g := gb162) (o := .cells #[.slice A0_0 l0_0.length c0_0, .slice A0_1 l0_1.length c0_1, .slice A0_2 l0_2.length c0_2, .slice A0_3 l0_3.length c0_3, .int .i64 a0_4] 27 (0, 0)) (by (with_reducible repeat (first | refine blk_drewN ?_ _ | refine blk_drew ?_ | refine blk_alloc ?_ _)); exact BK162.out) hb); have n1_ := Aside0.mk (below_step (by repeat (first | (with_reducible first | exact HB.out | apply below_alloc | apply pw_below_drewN | apply below_drew1 | refine below_set ?_ GE162.out) | exact HB.out)) hb); have n2_ := Aside0.mk (hbox); have n3_ := Aside0.mk ((by rw [hg]; exact (below_size (by repeat (first | (with_reducible first | exact HB.out | apply below_alloc | apply pw_below_drewN | apply below_drew1 | refine below_set ?_ GE162.out) | exact HB.out))) : w.heap.size ≤ gb163)); have n4_ := Aside0.mk ((by rw [hg]; exact (below_size (by repeat (first | (with_reducible first | exact HB.out | apply below_alloc | apply pw_below_drewN | apply below_drew1 | refine below_set ?_ GE162.out) | exact HB.out))) : w.heap.size ≤ gb163)); have n5_ := Aside0.mk ((by rw [hg]; exact Nat.ne_of_lt (blk_lt (g := gb162) (o := .cells #[.slice A0_0 l0_0.length c0_0, .slice A0_1 l0_1.length c0_1, .slice A0_2 l0_2.length c0_2, .slice A0_3 l0_3.length c0_3, .int .i64 a0_4] 27 (0, 0)) (by (with_reducible repeat (first | refine blk_drewN ?_ _ | refine blk_drew ?_ | refine blk_alloc ?_ _)); exact BK162.out)) : gb162 ≠ gb163)); have n6_ := Aside0.mk ((by rw [hg]; exact Nat.ne_of_gt (blk_lt (g := gb162) (o := .cells #[.slice A0_0 l0_0.length c0_0, .slice A0_1 l0_1.length c0_1, .slice A0_2 l0_2.length c0_2, .slice A0_3 l0_3.length c0_3, .int .i64 a0_4] 27 (0, 0)) (by (with_reducible repeat (first | refine blk_drewN ?_ _ | refine blk_drew ?_ | refine blk_alloc ?_ _)); exact BK162.out)) : gb163 ≠ gb162)); clear BK162; clear HB; have BK162 := n0_; have HB := n1_; have BK163 := n2_; have GW163 := n3_; have GE163 := n4_; have NB162_163 := n5_; have NB163_162 := n6_; clear n0_ n1_ n2_ n3_ n4_ n5_ n6_; clear hb hbox hg; have hnb36 := NB162_163.out; have hnc36 := NB163_162.out; have hcz37_0 : w35.cell? ⟨gb162, 0, none⟩ = some (.slice A0_0 l0_0.length c0_0) := (blk_cell BK162.out 0).trans rfl; have hcz37_1 : w35.cell? ⟨gb162, 1, none⟩ = some (.slice A0_1 l0_1.length c0_1) := (blk_cell BK162.out 1).trans rfl; have hcz37_2 : w35.cell? ⟨gb162, 2, none⟩ = some (.slice A0_2 l0_2.length c0_2) := (blk_cell BK162.out 2).trans rfl; have hcz37_3 : w35.cell? ⟨gb162, 3, none⟩ = some (.slice A0_3 l0_3.length c0_3) := (blk_cell BK162.out 3).trans rfl; have hcz37_4 : w35.cell? ⟨gb162, 4, none⟩ = some (.int .i64 a0_4) := (blk_cell BK162.out 4).trans rfl; have hfz37_0 := blk_frozen BK162.out 0; have hfz37_1 := blk_frozen BK162.out 1; have hfz37_2 := blk_frozen BK162.out 2; have hfz37_3 := blk_frozen BK162.out 3; have hfz37_4 := blk_frozen BK162.out 4; have hcz38_0 : w35.cell? ⟨gb163, 0, none⟩ = some (.slice A1_0 l1_0.length c1_0) := (blk_cell BK163.out 0).trans rfl; have hcz38_1 : w35.cell? ⟨gb163, 1, none⟩ = some (.slice A1_1 l1_1.length c1_1) := (blk_cell BK163.out 1).trans rfl; have hfz38_0 := blk_frozen BK163.out 0; have hfz38_1 := blk_frozen BK163.out 1; have p164 : 0 ≤ (a2 : Int) := of_decide_eq_true (by first | (with_reducible assumption) | assumption); have q164 : a2 < (l1_1.length : Int) := of_decide_eq_true (by first | (with_reducible assumption) | assumption); obtain ⟨ad164, A164_0, c164_0, e164, hx164_0, hl164_0, hi164_0⟩ := at_L17 HR1_1.out a2 p164 q164; cases e164; replace hx164_0 := (HB.out.cell (World.block_lt_of_cell? w _ hx164_0)).trans hx164_0; have HR164_0 := Aside0.mk hi164_0; have HC164_0 := Aside0.mk hl164_0; clear hi164_0 hl164_0; replace p164 := eq_true p164; replace q164 := eq_true q164; have p165 : 0 ≤ (a2 : Int) := of_decide_eq_true (by first | (with_reducible assumption) | assumption); have q165 : a2 < (l1_1.length : Int) := of_decide_eq_true (by first | (with_reducible assumption) | assumption); obtain ⟨ad165, A165_0, c165_0, e165, hx165_0, hl165_0, hi165_0⟩ := at_L17 HR1_1.out a2 p165 q165; obtain rfl : ad164 = ad165 := (by injection e165); replace hx165_0 := (HB.out.cell (World.block_lt_of_cell? w _ hx165_0)).trans hx165_0; have HR165_0 := Aside0.mk hi165_0; have HC165_0 := Aside0.mk hl165_0; clear hi165_0 hl165_0; replace p165 := eq_true p165; replace q165 := eq_true q165; have ea_ := Option.some.inj (hx164_0.symm.trans hx165_0); injection ea_ with ea_ en_ ec_; subst ea_; subst ec_; clear en_; have p166 : 0 ≤ ((ji31) : Int) := of_decide_eq_true (by first | (with_reducible assumption) | assumption); have q166 : (ji31) < ((rd_L17 l1_1 a2).length : Int) := of_decide_eq_true (by first | (with_reducible assumption) | assumption); obtain ⟨ad166, e166, hx166_0⟩ := Kd.at_int HR165_0.out (ji31) p166 q166; cases e166; replace hx166_0 := (HB.out.cell (World.block_lt_of_cell? w _ hx166_0)).trans hx166_0; replace p166 := eq_true p166; replace q166 := eq_true q166))
          go_ret
          exact ⟨by first | rfl | (simp [errW_none, errW_some] <;> rfl) | (simp only [← hji31]; first | rfl | (simp [errW_none, errW_some] <;> rfl)) | (simp [*, errW_none, errW_some] <;> rfl), by repeat (first | (with_reducible first | exact HB.out | apply below_alloc | apply pw_below_drewN | apply below_drew1 | refine below_set ?_ GE162.out | refine below_set ?_ GE163.out) | exact HB.out)⟩
         ·rw [if_neg c33] at H
          exact absurd H (by simp)
        ·rw [if_neg c32] at H
         exact absurd H (by simp)
      ·rw [if_neg c24] at H
       exact absurd H (by simp)
     ·rw [if_neg c23] at H
      exact absurd H (by simp)
 ·rw [if_neg c5] at H
  have c5b0 : decide (a3 < 0) = false := decide_eq_false c5
  clear c5
  by_cases c39 : a3 ≥ (l0_0.length : Int)
  ·rw [if_pos c39] at H
   have c39b0 : decide ((l0_0.length : Int) ≤ a3) = true := decide_eq_true c39
   clear c39
   obtain rfl := Option.some.inj H
   go_enter Tryd.func25, Tryd.ntmps25
   go_wp2_with (first | ((with_reducible refine gate_dst (N := 4) rfl ?_); (try (refine gate_guard (by rfl) ?_; dsimp only)); refine box_event ?hg (N := 4) ?hd (cs := #[.slice A0_0 l0_0.length c0_0, .slice A0_1 l0_1.length c0_1, .slice A0_2 l0_2.length c0_2, .slice A0_3 l0_3.length c0_3, .int .i64 a0_4]) (t := 27) ?hr ?_; (case hd => rfl); (case hg => rfl); (case hr => first | (go_simp; done) | (go_simp; rfl)); intro gb162 hg w40 hbox hb; have n0_ := Aside0.mk (below_step (by repeat (first | (with_reducible first | exact HB.out | apply below_alloc | apply pw_below_drewN | apply below_drew1) | exact HB.out)) hb); have n1_ := Aside0.mk (hbox); have n2_ := Aside0.mk ((by rw [hg]; exact (below_size (by repeat (first | (with_reducible first | exact HB.out | apply below_alloc | apply pw_below_drewN | apply below_drew1) | exact HB.out))) : w.heap.size ≤ gb162)); have n3_ := Aside0.mk ((by rw [hg]; exact (below_size (by repeat (first | (with_reducible first | exact HB.out | apply below_alloc | apply pw_below_drewN | apply below_drew1) | exact HB.out))) : w.heap.size ≤ gb162)); clear HB; have HB := n0_; have BK162 := n1_; have GW162 := n2_; have GE162 := n3_; clear n0_ n1_ n2_ n3_; clear hb hbox hg) | ((with_reducible refine gate_dst (N := 5) rfl ?_); (try (refine gate_guard (by rfl) ?_; dsimp only)); refine box_event ?hg (N := 5) ?hd (cs := #[.slice A1_0 l1_0.length c1_0, .slice A1_1 l1_1.length c1_1]) (t := 49) ?hr ?_; (case hd => rfl); (case hg => rfl); (case hr => first | (go_simp; done) | (go_simp; rfl)); intro gb163 hg w41 hbox hb; have n0_ := Aside0.mk (blk_below (g := gb162) (o := .cells #[.slice A0_0 l0_0.length c0_0, .slice A0_1 l0_1.length c0_1, .slice A0_2 l0_2.length c0_2, .slice A0_3 l0_3.length c0_3, .int .i64 a0_4] 27 (0, 0)) (by (with_reducible repeat (first | refine blk_drewN ?_ _ | refine blk_drew ?_ | refine blk_alloc ?_ _)); exact BK162.out) hb); have n1_ := Aside0.mk (below_step (by repeat (first | (with_reducible first | exact HB.out | apply below_alloc | apply pw_below_drewN | apply below_drew1 | refine below_set ?_ GE162.out) | exact HB.out)) hb); have n2_ := Aside0.mk (hbox); have n3_ := Aside0.mk ((by rw [hg]; exact (below_size (by repeat (first | (with_reducible first | exact HB.out | apply below_alloc | apply pw_below_drewN | apply below_drew1 | refine below_set ?_ GE162.out) | exact HB.out))) : w.heap.size ≤ gb163)); have n4_ := Aside0.mk ((by rw [hg]; exact (below_size (by repeat (first | (with_reducible first | exact HB.out | apply below_alloc | apply pw_below_drewN | apply below_drew1 | refine below_set ?_ GE162.out) | exact HB.out))) : w.heap.size ≤ gb163)); have n5_ := Aside0.mk ((by rw [hg]; exact Nat.ne_of_lt (blk_lt (g := gb162) (o := .cells #[.slice A0_0 l0_0.length c0_0, .slice A0_1 l0_1.length c0_1, .slice A0_2 l0_2.length c0_2, .slice A0_3 l0_3.length c0_3, .int .i64 a0_4] 27 (0, 0)) (by (with_reducible repeat (first | refine blk_drewN ?_ _ | refine blk_drew ?_ | refine blk_alloc ?_ _)); exact BK162.out)) : gb162 ≠ gb163)); have n6_ := Aside0.mk ((by rw [hg]; exact Nat.ne_of_gt (blk_lt (g := gb162) (o := .cells #[.slice A0_0 l0_0.length c0_0, .slice A0_1 l0_1.length c0_1, .slice A0_2 l0_2.length c0_2, .slice A0_3 l0_3.length c0_3, .int .i64 a0_4] 27 (0, 0)) (by (with_reducible repeat (first | refine blk_drewN ?_ _ | refine blk_drew ?_ | refine blk_alloc ?_ _)); exact BK162.out)) : gb163 ≠ gb162)); clear BK162; clear HB; have BK162 := n0_; have HB := n1_; have BK163 := n2_; have GW163 := n3_; have GE163 := n4_; have NB162_163 := n5_; have NB163_162 := n6_; clear n0_ n1_ n2_ n3_ n4_ n5_ n6_; clear hb hbox hg; have hnb42 := NB162_163.out; have hnc42 := NB163_162.out; have hcz43_0 : w41.cell? ⟨gb162, 0, none⟩ = some (.slice A0_0 l0_0.length c0_0) := (blk_cell BK162.out 0).trans rfl; have hcz43_1 : w41.cell? ⟨gb162, 1, none⟩ = some (.slice A0_1 l0_1.length c0_1) := (blk_cell BK162.out 1).trans rfl; have hcz43_2 : w41.cell? ⟨gb162, 2, none⟩ = some (.slice A0_2 l0_2.length c0_2) := (blk_cell BK162.out 2).trans rfl; have hcz43_3 : w41.cell? ⟨gb162, 3, none⟩ = some (.slice A0_3 l0_3.length c0_3) := (blk_cell BK162.out 3).trans rfl; have hcz43_4 : w41.cell? ⟨gb162, 4, none⟩ = some (.int .i64 a0_4) := (blk_cell BK162.out 4).trans rfl; have hfz43_0 := blk_frozen BK162.out 0; have hfz43_1 := blk_frozen BK162.out 1; have hfz43_2 := blk_frozen BK162.out 2; have hfz43_3 := blk_frozen BK162.out 3; have hfz43_4 := blk_frozen BK162.out 4))
   go_ret
   exact ⟨by first | rfl | (simp [errW_none, errW_some] <;> rfl) | (simp [*, errW_none, errW_some] <;> rfl), by repeat (first | (with_reducible first | exact HB.out | apply below_alloc | apply pw_below_drewN | apply below_drew1 | refine below_set ?_ GE162.out | refine below_set ?_ GE163.out) | exact HB.out)⟩
  ·rw [if_neg c39] at H
   have c39b0 : decide ((l0_0.length : Int) ≤ a3) = false := decide_eq_false c39
   clear c39
   by_cases c44 : a2 < 0
   ·rw [if_pos c44] at H
    have c44b0 : decide (a2 < 0) = true := decide_eq_true c44
    clear c44
    obtain rfl := Option.some.inj H
    go_enter Tryd.func25, Tryd.ntmps25
    go_wp2_with (first | ((with_reducible refine gate_dst (N := 4) rfl ?_); (try (refine gate_guard (by rfl) ?_; dsimp only)); refine box_event ?hg (N := 4) ?hd (cs := #[.slice A0_0 l0_0.length c0_0, .slice A0_1 l0_1.length c0_1, .slice A0_2 l0_2.length c0_2, .slice A0_3 l0_3.length c0_3, .int .i64 a0_4]) (t := 27) ?hr ?_; (case hd => rfl); (case hg => rfl); (case hr => first | (go_simp; done) | (go_simp; rfl)); intro gb162 hg w45 hbox hb; have n0_ := Aside0.mk (below_step (by repeat (first | (with_reducible first | exact HB.out | apply below_alloc | apply pw_below_drewN | apply below_drew1) | exact HB.out)) hb); have n1_ := Aside0.mk (hbox); have n2_ := Aside0.mk ((by rw [hg]; exact (below_size (by repeat (first | (with_reducible first | exact HB.out | apply below_alloc | apply pw_below_drewN | apply below_drew1) | exact HB.out))) : w.heap.size ≤ gb162)); have n3_ := Aside0.mk ((by rw [hg]; exact (below_size (by repeat (first | (with_reducible first | exact HB.out | apply below_alloc | apply pw_below_drewN | apply below_drew1) | exact HB.out))) : w.heap.size ≤ gb162)); clear HB; have HB := n0_; have BK162 := n1_; have GW162 := n2_; have GE162 := n3_; clear n0_ n1_ n2_ n3_; clear hb hbox hg) | ((with_reducible refine gate_dst (N := 5) rfl ?_); (try (refine gate_guard (by rfl) ?_; dsimp only)); refine box_event ?hg (N := 5) ?hd (cs := #[.slice A1_0 l1_0.length c1_0, .slice A1_1 l1_1.length c1_1]) (t := 49) ?hr ?_; (case hd => rfl); (case hg => rfl); (case hr => first | (go_simp; done) | (go_simp; rfl)); intro gb163 hg w46 hbox hb; have n0_ := Aside0.mk (blk_below (g := gb162) (o := .cells #[.slice A0_0 l0_0.length c0_0, .slice A0_1 l0_1.length c0_1, .slice A0_2 l0_2.length c0_2, .slice A0_3 l0_3.length c0_3, .int .i64 a0_4] 27 (0, 0)) (by (with_reducible repeat (first | refine blk_drewN ?_ _ | refine blk_drew ?_ | refine blk_alloc ?_ _)); exact BK162.out) hb); have n1_ := Aside0.mk (below_step (by repeat (first | (with_reducible first | exact HB.out | apply below_alloc | apply pw_below_drewN | apply below_drew1 | refine below_set ?_ GE162.out) | exact HB.out)) hb); have n2_ := Aside0.mk (hbox); have n3_ := Aside0.mk ((by rw [hg]; exact (below_size (by repeat (first | (with_reducible first | exact HB.out | apply below_alloc | apply pw_below_drewN | apply below_drew1 | refine below_set ?_ GE162.out) | exact HB.out))) : w.heap.size ≤ gb163)); have n4_ := Aside0.mk ((by rw [hg]; exact (below_size (by repeat (first | (with_reducible first | exact HB.out | apply below_alloc | apply pw_below_drewN | apply below_drew1 | refine below_set ?_ GE162.out) | exact HB.out))) : w.heap.size ≤ gb163)); have n5_ := Aside0.mk ((by rw [hg]; exact Nat.ne_of_lt (blk_lt (g := gb162) (o := .cells #[.slice A0_0 l0_0.length c0_0, .slice A0_1 l0_1.length c0_1, .slice A0_2 l0_2.length c0_2, .slice A0_3 l0_3.length c0_3, .int .i64 a0_4] 27 (0, 0)) (by (with_reducible repeat (first | refine blk_drewN ?_ _ | refine blk_drew ?_ | refine blk_alloc ?_ _)); exact BK162.out)) : gb162 ≠ gb163)); have n6_ := Aside0.mk ((by rw [hg]; exact Nat.ne_of_gt (blk_lt (g := gb162) (o := .cells #[.slice A0_0 l0_0.length c0_0, .slice A0_1 l0_1.length c0_1, .slice A0_2 l0_2.length c0_2, .slice A0_3 l0_3.length c0_3, .int .i64 a0_4] 27 (0, 0)) (by (with_reducible repeat (first | refine blk_drewN ?_ _ | refine blk_drew ?_ | refine blk_alloc ?_ _)); exact BK162.out)) : gb163 ≠ gb162)); clear BK162; clear HB; have BK162 := n0_; have HB := n1_; have BK163 := n2_; have GW163 := n3_; have GE163 := n4_; have NB162_163 := n5_; have NB163_162 := n6_; clear n0_ n1_ n2_ n3_ n4_ n5_ n6_; clear hb hbox hg; have hnb47 := NB162_163.out; have hnc47 := NB163_162.out; have hcz48_0 : w46.cell? ⟨gb162, 0, none⟩ = some (.slice A0_0 l0_0.length c0_0) := (blk_cell BK162.out 0).trans rfl; have hcz48_1 : w46.cell? ⟨gb162, 1, none⟩ = some (.slice A0_1 l0_1.length c0_1) := (blk_cell BK162.out 1).trans rfl; have hcz48_2 : w46.cell? ⟨gb162, 2, none⟩ = some (.slice A0_2 l0_2.length c0_2) := (blk_cell BK162.out 2).trans rfl; have hcz48_3 : w46.cell? ⟨gb162, 3, none⟩ = some (.slice A0_3 l0_3.length c0_3) := (blk_cell BK162.out 3).trans rfl; have hcz48_4 : w46.cell? ⟨gb162, 4, none⟩ = some (.int .i64 a0_4) := (blk_cell BK162.out 4).trans rfl; have hfz48_0 := blk_frozen BK162.out 0; have hfz48_1 := blk_frozen BK162.out 1; have hfz48_2 := blk_frozen BK162.out 2; have hfz48_3 := blk_frozen BK162.out 3; have hfz48_4 := blk_frozen BK162.out 4))
    go_ret
    exact ⟨by first | rfl | (simp [errW_none, errW_some] <;> rfl) | (simp [*, errW_none, errW_some] <;> rfl), by repeat (first | (with_reducible first | exact HB.out | apply below_alloc | apply pw_below_drewN | apply below_drew1 | refine below_set ?_ GE162.out | refine below_set ?_ GE163.out) | exact HB.out)⟩
   ·rw [if_neg c44] at H
    have c44b0 : decide (a2 < 0) = false := decide_eq_false c44
    clear c44
    by_cases c49 : a2 ≥ (l1_1.length : Int)
    ·rw [if_pos c49] at H
     have c49b0 : decide ((l1_1.length : Int) ≤ a2) = true := decide_eq_true c49
     clear c49
     obtain rfl := Option.some.inj H
     go_enter Tryd.func25, Tryd.ntmps25
     go_wp2_with (first | ((with_reducible refine gate_dst (N := 4) rfl ?_); (try (refine gate_guard (by rfl) ?_; dsimp only)); refine box_event ?hg (N := 4) ?hd (cs := #[.slice A0_0 l0_0.length c0_0, .slice A0_1 l0_1.length c0_1, .slice A0_2 l0_2.length c0_2, .slice A0_3 l0_3.length c0_3, .int .i64 a0_4]) (t := 27) ?hr ?_; (case hd => rfl); (case hg => rfl); (case hr => first | (go_simp; done) | (go_simp; rfl)); intro gb162 hg w50 hbox hb; have n0_ := Aside0.mk (below_step (by repeat (first | (with_reducible first | exact HB.out | apply below_alloc | apply pw_below_drewN | apply below_drew1) | exact HB.out)) hb); have n1_ := Aside0.mk (hbox); have n2_ := Aside0.mk ((by rw [hg]; exact (below_size (by repeat (first | (with_reducible first | exact HB.out | apply below_alloc | apply pw_below_drewN | apply below_drew1) | exact HB.out))) : w.heap.size ≤ gb162)); have n3_ := Aside0.mk ((by rw [hg]; exact (below_size (by repeat (first | (with_reducible first | exact HB.out | apply below_alloc | apply pw_below_drewN | apply below_drew1) | exact HB.out))) : w.heap.size ≤ gb162)); clear HB; have HB := n0_; have BK162 := n1_; have GW162 := n2_; have GE162 := n3_; clear n0_ n1_ n2_ n3_; clear hb hbox hg) | ((with_reducible refine gate_dst (N := 5) rfl ?_); (try (refine gate_guard (by rfl) ?_; dsimp only)); refine box_event ?hg (N := 5) ?hd (cs := #[.slice A1_0 l1_0.length c1_0, .slice A1_1 l1_1.length c1_1]) (t := 49) ?hr ?_; (case hd => rfl); (case hg => rfl); (case hr => first | (go_simp; done) | (go_simp; rfl)); intro gb163 hg w51 hbox hb; have n0_ := Aside0.mk (blk_below (g := gb162) (o := .cells #[.slice A0_0 l0_0.length c0_0, .slice A0_1 l0_1.length c0_1, .slice A0_2 l0_2.length c0_2, .slice A0_3 l0_3.length c0_3, .int .i64 a0_4] 27 (0, 0)) (by (with_reducible repeat (first | refine blk_drewN ?_ _ | refine blk_drew ?_ | refine blk_alloc ?_ _)); exact BK162.out) hb); have n1_ := Aside0.mk (below_step (by repeat (first | (with_reducible first | exact HB.out | apply below_alloc | apply pw_below_drewN | apply below_drew1 | refine below_set ?_ GE162.out) | exact HB.out)) hb); have n2_ := Aside0.mk (hbox); have n3_ := Aside0.mk ((by rw [hg]; exact (below_size (by repeat (first | (with_reducible first | exact HB.out | apply below_alloc | apply pw_below_drewN | apply below_drew1 | refine below_set ?_ GE162.out) | exact HB.out))) : w.heap.size ≤ gb163)); have n4_ := Aside0.mk ((by rw [hg]; exact (below_size (by repeat (first | (with_reducible first | exact HB.out | apply below_alloc | apply pw_below_drewN | apply below_drew1 | refine below_set ?_ GE162.out) | exact HB.out))) : w.heap.size ≤ gb163)); have n5_ := Aside0.mk ((by rw [hg]; exact Nat.ne_of_lt (blk_lt (g := gb162) (o := .cells #[.slice A0_0 l0_0.length c0_0, .slice A0_1 l0_1.length c0_1, .slice A0_2 l0_2.length c0_2, .slice A0_3 l0_3.length c0_3, .int .i64 a0_4] 27 (0, 0)) (by (with_reducible repeat (first | refine blk_drewN ?_ _ | refine blk_drew ?_ | refine blk_alloc ?_ _)); exact BK162.out)) : gb162 ≠ gb163)); have n6_ := Aside0.mk ((by rw [hg]; exact Nat.ne_of_gt (blk_lt (g := gb162) (o := .cells #[.slice A0_0 l0_0.length c0_0, .slice A0_1 l0_1.length c0_1, .slice A0_2 l0_2.length c0_2, .slice A0_3 l0_3.length c0_3, .int .i64 a0_4] 27 (0, 0)) (by (with_reducible repeat (first | refine blk_drewN ?_ _ | refine blk_drew ?_ | refine blk_alloc ?_ _)); exact BK162.out)) : gb163 ≠ gb162)); clear BK162; clear HB; have BK162 := n0_; have HB := n1_; have BK163 := n2_; have GW163 := n3_; have GE163 := n4_; have NB162_163 := n5_; have NB163_162 := n6_; clear n0_ n1_ n2_ n3_ n4_ n5_ n6_; clear hb hbox hg; have hnb52 := NB162_163.out; have hnc52 := NB163_162.out; have hcz53_0 : w51.cell? ⟨gb162, 0, none⟩ = some (.slice A0_0 l0_0.length c0_0) := (blk_cell BK162.out 0).trans rfl; have hcz53_1 : w51.cell? ⟨gb162, 1, none⟩ = some (.slice A0_1 l0_1.length c0_1) := (blk_cell BK162.out 1).trans rfl; have hcz53_2 : w51.cell? ⟨gb162, 2, none⟩ = some (.slice A0_2 l0_2.length c0_2) := (blk_cell BK162.out 2).trans rfl; have hcz53_3 : w51.cell? ⟨gb162, 3, none⟩ = some (.slice A0_3 l0_3.length c0_3) := (blk_cell BK162.out 3).trans rfl; have hcz53_4 : w51.cell? ⟨gb162, 4, none⟩ = some (.int .i64 a0_4) := (blk_cell BK162.out 4).trans rfl; have hfz53_0 := blk_frozen BK162.out 0; have hfz53_1 := blk_frozen BK162.out 1; have hfz53_2 := blk_frozen BK162.out 2; have hfz53_3 := blk_frozen BK162.out 3; have hfz53_4 := blk_frozen BK162.out 4; have hcz54_0 : w51.cell? ⟨gb163, 0, none⟩ = some (.slice A1_0 l1_0.length c1_0) := (blk_cell BK163.out 0).trans rfl; have hcz54_1 : w51.cell? ⟨gb163, 1, none⟩ = some (.slice A1_1 l1_1.length c1_1) := (blk_cell BK163.out 1).trans rfl; have hfz54_0 := blk_frozen BK163.out 0; have hfz54_1 := blk_frozen BK163.out 1))
     go_ret
     exact ⟨by first | rfl | (simp [errW_none, errW_some] <;> rfl) | (simp [*, errW_none, errW_some] <;> rfl), by repeat (first | (with_reducible first | exact HB.out | apply below_alloc | apply pw_below_drewN | apply below_drew1 | refine below_set ?_ GE162.out | refine below_set ?_ GE163.out) | exact HB.out)⟩
    ·rw [if_neg c49] at H
     have c49b0 : decide ((l1_1.length : Int) ≤ a2) = false := decide_eq_false c49
     clear c49
     by_cases c55 : 0 ≤ a2
     ·rw [if_pos c55] at H
      have c55b0 : decide (0 ≤ a2) = true := decide_eq_true c55
      clear c55
      by_cases c56 : a2 < (l1_1.length : Int)
      ·rw [if_pos c56] at H
       have c56b0 : decide (a2 < (l1_1.length : Int)) = true := decide_eq_true c56
       clear c56
       by_cases c57 : a3 ≥ ((rd_L17 l1_1 a2).length : Int)
       ·rw [if_pos c57] at H
        have c57b0 : decide (((rd_L17 l1_1 a2).length : Int) ≤ a3) = true := decide_eq_true c57
        clear c57
        obtain rfl := Option.some.inj H
        go_enter Tryd.func25, Tryd.ntmps25
        go_wp2_with (first | ((with_reducible refine gate_dst (N := 4) rfl ?_); (try (refine gate_guard (by rfl) ?_; dsimp only)); refine box_event ?hg (N := 4) ?hd (cs := #[.slice A0_0 l0_0.length c0_0, .slice A0_1 l0_1.length c0_1, .slice A0_2 l0_2.length c0_2, .slice A0_3 l0_3.length c0_3, .int .i64 a0_4]) (t := 27) ?hr ?_; (case hd => rfl); (case hg => rfl); (case hr => first | (go_simp; done) | (go_simp; rfl)); intro gb162 hg w58 hbox hb; have n0_ := Aside0.mk (below_step (by repeat (first | (with_reducible first | exact HB.out | apply below_alloc | apply pw_below_drewN | apply below_drew1) | exact HB.out)) hb); have n1_ := Aside0.mk (hbox); have n2_ := Aside0.mk ((by rw [hg]; exact (below_size (by repeat (first | (with_reducible first | exact HB.out | apply below_alloc | apply pw_below_drewN | apply below_drew1) | exact HB.out))) : w.heap.size ≤ gb162)); have n3_ := Aside0.mk ((by rw [hg]; exact (below_size (by repeat (first | (with_reducible first | exact HB.out | apply below_alloc | apply pw_below_drewN | apply below_drew1) | exact HB.out))) : w.heap.size ≤ gb162)); clear HB; have HB := n0_; have BK162 := n1_; have GW162 := n2_; have GE162 := n3_; clear n0_ n1_ n2_ n3_; clear hb hbox hg) | ((with_reducible refine gate_dst (N := 5) rfl ?_); (try (refine gate_guard (by rfl) ?_; dsimp only)); refine box_event ?hg (N := 5) ?hd (cs := #[.slice A1_0 l1_0.length c1_0, .slice A1_1 l1_1.length c1_1]) (t := 49) ?hr ?_; (case hd => rfl); (case hg => rfl); (case hr => first | (go_simp; done) | (go_simp; rfl)); intro gb163 hg w59 hbox hb; have n0_ := Aside0.mk (blk_below (g := gb162) (o := .cells #[.slice A0_0 l0_0.length c0_0, .slice A0_1 l0_1.length c0_1, .slice A0_2 l0_2.length c0_2, .slice A0_3 l0_3.length c0_3, .int .i64 a0_4] 27 (0, 0)) (by (with_reducible repeat (first | refine blk_drewN ?_ _ | refine blk_drew ?_ | refine blk_alloc ?_ _)); exact BK162.out) hb); have n1_ := Aside0.mk (below_step (by repeat (first | (with_reducible first | exact HB.out | apply below_alloc | apply pw_below_drewN | apply below_drew1 | refine below_set ?_ GE162.out) | exact HB.out)) hb); have n2_ := Aside0.mk (hbox); have n3_ := Aside0.mk ((by rw [hg]; exact (below_size (by repeat (first | (with_reducible first | exact HB.out | apply below_alloc | apply pw_below_drewN | apply below_drew1 | refine below_set ?_ GE162.out) | exact HB.out))) : w.heap.size ≤ gb163)); have n4_ := Aside0.mk ((by rw [hg]; exact (below_size (by repeat (first | (with_reducible first | exact HB.out | apply below_alloc | apply pw_below_drewN | apply below_drew1 | refine below_set ?_ GE162.out) | exact HB.out))) : w.heap.size ≤ gb163)); have n5_ := Aside0.mk ((by rw [hg]; exact Nat.ne_of_lt (blk_lt (g := gb162) (o := .cells #[.slice A0_0 l0_0.length c0_0, .slice A0_1 l0_1.length c0_1, .slice A0_2 l0_2.length c0_2, .slice A0_3 l0_3.length c0_3, .int .i64 a0_4] 27 (0, 0)) (by (with_reducible repeat (first | refine blk_drewN ?_ _ | refine blk_drew ?_ | refine blk_alloc ?_ _)); exact BK162.out)) : gb162 ≠ gb163)); have n6_ := Aside0.mk ((by rw [hg]; exact Nat.ne_of_gt (blk_lt (g := gb162) (o := .cells #[.slice A0_0 l0_0.length c0_0, .slice A0_1 l0_1.length c0_1, .slice A0_2 l0_2.length c0_2, .slice A0_3 l0_3.length c0_3, .int .i64 a0_4] 27 (0, 0)) (by (with_reducible repeat (first | refine blk_drewN ?_ _ | refine blk_drew ?_ | refine blk_alloc ?_ _)); exact BK162.out)) : gb163 ≠ gb162)); clear BK162; clear HB; have BK162 := n0_; have HB := n1_; have BK163 := n2_; have GW163 := n3_; have GE163 := n4_; have NB162_163 := n5_; have NB163_162 := n6_; clear n0_ n1_ n2_ n3_ n4_ n5_ n6_; clear hb hbox hg; have hnb60 := NB162_163.out; have hnc60 := NB163_162.out; have hcz61_0 : w59.cell? ⟨gb162, 0, none⟩ = some (.slice A0_0 l0_0.length c0_0) := (blk_cell BK162.out 0).trans rfl; have hcz61_1 : w59.cell? ⟨gb162, 1, none⟩ = some (.slice A0_1 l0_1.length c0_1) := (blk_cell BK162.out 1).trans rfl; have hcz61_2 : w59.cell? ⟨gb162, 2, none⟩ = some (.slice A0_2 l0_2.length c0_2) := (blk_cell BK162.out 2).trans rfl; have hcz61_3 : w59.cell? ⟨gb162, 3, none⟩ = some (.slice A0_3 l0_3.length c0_3) := (blk_cell BK162.out 3).trans rfl; have hcz61_4 : w59.cell? ⟨gb162, 4, none⟩ = some (.int .i64 a0_4) := (blk_cell BK162.out 4).trans rfl; have hfz61_0 := blk_frozen BK162.out 0; have hfz61_1 := blk_frozen BK162.out 1; have hfz61_2 := blk_frozen BK162.out 2; have hfz61_3 := blk_frozen BK162.out 3; have hfz61_4 := blk_frozen BK162.out 4; have hcz62_0 : w59.cell? ⟨gb163, 0, none⟩ = some (.slice A1_0 l1_0.length c1_0) := (blk_cell BK163.out 0).trans rfl; have hcz62_1 : w59.cell? ⟨gb163, 1, none⟩ = some (.slice A1_1 l1_1.length c1_1) := (blk_cell BK163.out 1).trans rfl; have hfz62_0 := blk_frozen BK163.out 0; have hfz62_1 := blk_frozen BK163.out 1; have p167 : 0 ≤ (a2 : Int) := of_decide_eq_true (by first | (with_reducible assumption) | assumption); have q167 : a2 < (l1_1.length : Int) := of_decide_eq_true (by first | (with_reducible assumption) | assumption); obtain ⟨ad167, A167_0, c167_0, e167, hx167_0, hl167_0, hi167_0⟩ := at_L17 HR1_1.out a2 p167 q167; cases e167; replace hx167_0 := (HB.out.cell (World.block_lt_of_cell? w _ hx167_0)).trans hx167_0; have HR167_0 := Aside0.mk hi167_0; have HC167_0 := Aside0.mk hl167_0; clear hi167_0 hl167_0; replace p167 := eq_true p167; replace q167 := eq_true q167))
        go_ret
        exact ⟨by first | rfl | (simp [errW_none, errW_some] <;> rfl) | (simp [*, errW_none, errW_some] <;> rfl), by repeat (first | (with_reducible first | exact HB.out | apply below_alloc | apply pw_below_drewN | apply below_drew1 | refine below_set ?_ GE162.out | refine below_set ?_ GE163.out) | exact HB.out)⟩
       ·rw [if_neg c57] at H
        have c57b0 : decide (((rd_L17 l1_1 a2).length : Int) ≤ a3) = false := decide_eq_false c57
        clear c57
        by_cases c63 : 0 ≤ a3
        ·rw [if_pos c63] at H
         have c63b0 : decide (0 ≤ a3) = true := decide_eq_true c63
         clear c63
         by_cases c64 : a3 < ((rd_L17 l1_1 a2).length : Int)
         ·rw [if_pos c64] at H
          have c64b0 : decide (a3 < ((rd_L17 l1_1 a2).length : Int)) = true := decide_eq_true c64
          clear c64
          obtain rfl := Option.some.inj H
          go_enter Tryd.func25, Tryd.ntmps25
          go_wp2_with (first | ((with_reducible refine gate_dst (N := 4) rfl ?_); (try (refine gate_guard (by rfl) ?_; dsimp only)); refine box_event ?hg (N := 4) ?hd (cs := #[.slice A0_0 l0_0.length c0_0, .slice A0_1 l0_1.length c0_1, .slice A0_2 l0_2.length c0_2, .slice A0_3 l0_3.length c0_3, .int .i64 a0_4]) (t := 27) ?hr ?_; (case hd => rfl); (case hg => rfl); (case hr => first | (go_simp; done) | (go_simp; rfl)); intro gb162 hg w65 hbox hb; have n0_ := Aside0.mk (below_step (by repeat (first | (with_reducible first | exact HB.out | apply below_alloc | apply pw_below_drewN | apply below_drew1) | exact HB.out)) hb); have n1_ := Aside0.mk (hbox); have n2_ := Aside0.mk ((by rw [hg]; exact (below_size (by repeat (first | (with_reducible first | exact HB.out | apply below_alloc | apply pw_below_drewN | apply below_drew1) | exact HB.out))) : w.heap.size ≤ gb162)); have n3_ := Aside0.mk ((by rw [hg]; exact (below_size (by repeat (first | (with_reducible first | exact HB.out | apply below_alloc | apply pw_below_drewN | apply below_drew1) | exact HB.out))) : w.heap.size ≤ gb162)); clear HB; have HB := n0_; have BK162 := n1_; have GW162 := n2_; have GE162 := n3_; clear n0_ n1_ n2_ n3_; clear hb hbox hg) | ((with_reducible refine gate_dst (N := 5) rfl ?_); (try (refine gate_guard (by rfl) ?_; dsimp only)); refine box_event ?hg (N := 5) ?hd (cs := #[.slice A1_0 l1_0.length c1_0, .slice A1_1 l1_1.length c1_1]) (t := 49) ?hr ?_; (case hd => rfl); (case hg => rfl); (case hr => first | (go_simp; done) | (go_simp; rfl)); intro gb163 hg w66 hbox hb; have n0_ := Aside0.mk (blk_below (g := gb162) (o := .cells #[.slice A0_0 l0_0.length c0_0, .slice A0_1 l0_1.length c0_1, .slice A0_2 l0_2.length c0_2, .slice A0_3 l0_3.length c0_3, .int .i64 a0_4] 27 (0, 0)) (by (with_reducible repeat (first | refine blk_drewN ?_ _ | refine blk_drew ?_ | refine blk_alloc ?_ _)); exact BK162.out) hb); have n1_ := Aside0.mk (below_step (by repeat (first | (with_reducible first | exact HB.out | apply below_alloc | apply pw_below_drewN | apply below_drew1 | refine below_set ?_ GE162.out) | exact HB.out)) hb); have n2_ := Aside0.mk (hbox); have n3_ := Aside0.mk ((by rw [hg]; exact (below_size (by repeat (first | (with_reducible first | exact HB.out | apply below_alloc | apply pw_below_drewN | apply below_drew1 | refine below_set ?_ GE162.out) | exact HB.out))) : w.heap.size ≤ gb163)); have n4_ := Aside0.mk ((by rw [hg]; exact (below_size (by repeat (first | (with_reducible first | exact HB.out | apply below_alloc | apply pw_below_drewN | apply below_drew1 | refine below_set ?_ GE162.out) | exact HB.out))) : w.heap.size ≤ gb163)); have n5_ := Aside0.mk ((by rw [hg]; exact Nat.ne_of_lt (blk_lt (g := gb162) (o := .cells #[.slice A0_0 l0_0.length c0_0, .slice A0_1 l0_1.length c0_1, .slice A0_2 l0_2.length c0_2, .slice A0_3 l0_3.length c0_3, .int .i64 a0_4] 27 (0, 0)) (by (with_reducible repeat (first | refine blk_drewN ?_ _ | refine blk_drew ?_ | refine blk_alloc ?_ _)); exact BK162.out)) : gb162 ≠ gb163)); have n6_ := Aside0.mk ((by rw [hg]; exact Nat.ne_of_gt (blk_lt (g := gb162) (o := .cells #[.slice A0_0 l0_0.length c0_0, .slice A0_1 l0_1.length c0_1, .slice A0_2 l0_2.length c0_2, .slice A0_3 l0_3.length c0_3, .int .i64 a0_4] 27 (0, 0)) (by (with_reducible repeat (first | refine blk_drewN ?_ _ | refine blk_drew ?_ | refine blk_alloc ?_ _)); exact BK162.out)) : gb163 ≠ gb162)); clear BK162; clear HB; have BK162 := n0_; have HB := n1_; have BK163 := n2_; have GW163 := n3_; have GE163 := n4_; have NB162_163 := n5_; have NB163_162 := n6_; clear n0_ n1_ n2_ n3_ n4_ n5_ n6_; clear hb hbox hg; have hnb67 := NB162_163.out; have hnc67 := NB163_162.out; have hcz68_0 : w66.cell? ⟨gb162, 0, none⟩ = some (.slice A0_0 l0_0.length c0_0) := (blk_cell BK162.out 0).trans rfl; have hcz68_1 : w66.cell? ⟨gb162, 1, none⟩ = some (.slice A0_1 l0_1.length c0_1) := (blk_cell BK162.out 1).trans rfl; have hcz68_2 : w66.cell? ⟨gb162, 2, none⟩ = some (.slice A0_2 l0_2.length c0_2) := (blk_cell BK162.out 2).trans rfl; have hcz68_3 : w66.cell? ⟨gb162, 3, none⟩ = some (.slice A0_3 l0_3.length c0_3) := (blk_cell BK162.out 3).trans rfl; have hcz68_4 : w66.cell? ⟨gb162, 4, none⟩ = some (.int .i64 a0_4) := (blk_cell BK162.out 4).trans rfl; have hfz68_0 := blk_frozen BK162.out 0; have hfz68_1 := blk_frozen BK162.out 1; have hfz68_2 := blk_frozen BK162.out 2; have hfz68_3 := blk_frozen BK162.out 3; have hfz68_4 := blk_frozen BK162.out 4; have hcz69_0 : w66.cell? ⟨gb163, 0, none⟩ = some (.slice A1_0 l1_0.length c1_0) := (blk_cell BK163.out 0).trans rfl; have hcz69_1 : w66.cell? ⟨gb163, 1, none⟩ = some (.slice A1_1 l1_1.length c1_1) := (blk_cell BK163.out 1).trans rfl; have hfz69_0 := blk_frozen BK163.out 0; have hfz69_1 := blk_frozen BK163.out 1; have p167 : 0 ≤ (a2 : Int) := of_decide_eq_true (by first | (with_reducible assumption) | assumption); have q167 : a2 < (l1_1.length : Int) := of_decide_eq_true (by first | (with_reducible assumption) | assumption); obtain ⟨ad167, A167_0, c167_0, e167, hx167_0, hl167_0, hi167_0⟩ := at_L17 HR1_1.out a2 p167 q167; cases e167; replace hx167_0 := (HB.out.cell (World.block_lt_of_cell? w _ hx167_0)).trans hx167_0; have HR167_0 := Aside0.mk hi167_0; have HC167_0 := Aside0.mk hl167_0; clear hi167_0 hl167_0; replace p167 := eq_true p167; replace q167 := eq_true q167; have p168 : 0 ≤ (a2 : Int) := of_decide_eq_true (by first | (with_reducible assumption) | assumption); have q168 : a2 < (l1_1.length : Int) := of_decide_eq_true (by first | (with_reducible assumption) | assumption); obtain ⟨ad168, A168_0, c168_0, e168, hx168_0, hl168_0, hi168_0⟩ := at_L17 HR1_1.out a2 p168 q168; obtain rfl : ad167 = ad168 := (by injection e168); replace hx168_0 := (HB.out.cell (World.block_lt_of_cell? w _ hx168_0)).trans hx168_0; have HR168_0 := Aside0.mk hi168_0; have HC168_0 := Aside0.mk hl168_0; clear hi168_0 hl168_0; replace p168 := eq_true p168; replace q168 := eq_true q168; have ea_ := Option.some.inj (hx167_0.symm.trans hx168_0); injection ea_ with ea_ en_ ec_; subst ea_; subst ec_; clear en_; have p169 : 0 ≤ (a3 : Int) := of_decide_eq_true (by first | (with_reducible assumption) | assumption); have q169 : a3 < ((rd_L17 l1_1 a2).length : Int) := of_decide_eq_true (by first | (with_reducible assumption) | assumption); obtain ⟨ad169, e169, hx169_0⟩ := Kd.at_int HR168_0.out a3 p169 q169; cases e169; replace hx169_0 := (HB.out.cell (World.block_lt_of_cell? w _ hx169_0)).trans hx169_0; replace p169 := eq_true p169; replace q169 := eq_true q169))
          go_ret
          exact ⟨by first | rfl | (simp [errW_none, errW_some] <;> rfl) | (simp [*, errW_none, errW_some] <;> rfl), by repeat (first | (with_reducible first | exact HB.out | apply below_alloc | apply pw_below_drewN | apply below_drew1 | refine below_set ?_ GE162.out | refine below_set ?_ GE163.out) | exact HB.out)⟩
         ·rw [if_neg c64] at H
          exact absurd H (by simp)
        ·rw [if_neg c63] at H
         exact absurd H (by simp)
      ·rw [if_neg c56] at H
       exact absurd H (by simp)
     ·rw [if_neg c55] at H
      exact absurd H (by simp)

/-! ### syntagmlaw14_works: function 12 -/
def syntagmlaw14_works.f  : Option (Bool) := (some (([(⟨(⟨#[97]⟩ : ByteArray), (⟨#[]⟩ : ByteArray), false, 0⟩ : S82)] : List (S82)) : List (S82))).bind fun y170 => ((some (([(⟨#[83]⟩ : ByteArray)] : List ByteArray) : List ByteArray)).bind fun y173 => ((some (([(⟨(⟨#[112]⟩ : ByteArray), 0, (([0] : List Int)), 0⟩ : S64)] : List (S64)) : List (S64))).bind fun y179 => ((states_Build.f y170 ([] : List (S101)) y173 y179 0).bind fun bt183 => ((states_Close.f y170 ([] : List (S101)) y173 y179 0 (([(⟨(-1), 0⟩ : S37)] : List (S37)))).bind fun t194 => ((states_Step.f y170 ([] : List (S101)) y173 y179 0 t194 0).bind fun t197 => ((states_Behind.f y170 ([] : List (S101)) y173 y179 0 0 0).bind fun bt200 => (if bt183.2.2 = 0 then (if (bt183.1.length : Int) = 3 then (if (t194.length : Int) = 2 then (if (t197.length : Int) = 1 then (if 0 < (t197.length : Int) then (if (((rd_T37 t197 0).f0) == 0 && (((rd_T37 t197 0).f1) == 1)) = true then (if bt200.2 = true then (if bt200.1 = 0 then ((states_Go.f y170 ([] : List (S101)) y173 y179 0 bt183.1 bt183.2.1 0 0).bind fun t203 => (if t203 = 1 then ((states_Go.f y170 ([] : List (S101)) y173 y179 0 bt183.1 bt183.2.1 0 (-1)).bind fun t204 => (if t204 = 2 then ((states_Go.f y170 ([] : List (S101)) y173 y179 0 bt183.1 bt183.2.1 1 0).bind fun t205 => (some (t205 == (-1)))) else (some false))) else (some false))) else (some false)) else (some false)) else (some false)) else (none)) else (some false)) else (some false)) else (some false)) else (some false))))))))
set_option maxHeartbeats 8000000 in
set_option maxRecDepth 100000 in
theorem syntagmlaw14_works.calls  (r : Bool) (w : World) (hG : GTab w) (hT : r = true) (h : syntagmlaw14_works.f  = some r) :
  Calls Tryd.prog 12 #[] w fun e w' => e = .returned (.bool r) ∧ Below w.heap.size w w' := by
 have hu82 := Tryd.underlying82
 have hu64 := Tryd.underlying64
 have hu27 := Tryd.underlying27
 have hu49 := Tryd.underlying49
 have hu37 := Tryd.underlying37
 have HG := Aside0.mk hG
 clear hG
 have HT := Aside0.mk hT
 clear hT
 have HB := Aside0.mk (Below.refl w.heap.size w)
 have H : ((some (([(⟨(⟨#[97]⟩ : ByteArray), (⟨#[]⟩ : ByteArray), false, 0⟩ : S82)] : List (S82)) : List (S82))).bind fun y170 => ((some (([(⟨#[83]⟩ : ByteArray)] : List ByteArray) : List ByteArray)).bind fun y173 => ((some (([(⟨(⟨#[112]⟩ : ByteArray), 0, (([0] : List Int)), 0⟩ : S64)] : List (S64)) : List (S64))).bind fun y179 => ((states_Build.f y170 ([] : List (S101)) y173 y179 0).bind fun bt183 => ((states_Close.f y170 ([] : List (S101)) y173 y179 0 (([(⟨(-1), 0⟩ : S37)] : List (S37)))).bind fun t194 => ((states_Step.f y170 ([] : List (S101)) y173 y179 0 t194 0).bind fun t197 => ((states_Behind.f y170 ([] : List (S101)) y173 y179 0 0 0).bind fun bt200 => (if bt183.2.2 = 0 then (if (bt183.1.length : Int) = 3 then (if (t194.length : Int) = 2 then (if (t197.length : Int) = 1 then (if 0 < (t197.length : Int) then (if (((rd_T37 t197 0).f0) == 0 && (((rd_T37 t197 0).f1) == 1)) = true then (if bt200.2 = true then (if bt200.1 = 0 then ((states_Go.f y170 ([] : List (S101)) y173 y179 0 bt183.1 bt183.2.1 0 0).bind fun t203 => (if t203 = 1 then ((states_Go.f y170 ([] : List (S101)) y173 y179 0 bt183.1 bt183.2.1 0 (-1)).bind fun t204 => (if t204 = 2 then ((states_Go.f y170 ([] : List (S101)) y173 y179 0 bt183.1 bt183.2.1 1 0).bind fun t205 => (some (t205 == (-1)))) else (some false))) else (some false))) else (some false)) else (some false)) else (some false)) else (none)) else (some false)) else (some false)) else (some false)) else (some false))))))))) = some r := h
 clear h
 obtain ⟨y170, hy170⟩ : ∃ y_ : List (S82), y_ = (([(⟨(⟨#[97]⟩ : ByteArray), (⟨#[]⟩ : ByteArray), false, 0⟩ : S82)] : List (S82))) := ⟨_, rfl⟩
 replace H : ((some (([(⟨#[83]⟩ : ByteArray)] : List ByteArray) : List ByteArray)).bind fun y173 => ((some (([(⟨(⟨#[112]⟩ : ByteArray), 0, (([0] : List Int)), 0⟩ : S64)] : List (S64)) : List (S64))).bind fun y179 => ((states_Build.f y170 ([] : List (S101)) y173 y179 0).bind fun bt183 => ((states_Close.f y170 ([] : List (S101)) y173 y179 0 (([(⟨(-1), 0⟩ : S37)] : List (S37)))).bind fun t194 => ((states_Step.f y170 ([] : List (S101)) y173 y179 0 t194 0).bind fun t197 => ((states_Behind.f y170 ([] : List (S101)) y173 y179 0 0 0).bind fun bt200 => (if bt183.2.2 = 0 then (if (bt183.1.length : Int) = 3 then (if (t194.length : Int) = 2 then (if (t197.length : Int) = 1 then (if 0 < (t197.length : Int) then (if (((rd_T37 t197 0).f0) == 0 && (((rd_T37 t197 0).f1) == 1)) = true then (if bt200.2 = true then (if bt200.1 = 0 then ((states_Go.f y170 ([] : List (S101)) y173 y179 0 bt183.1 bt183.2.1 0 0).bind fun t203 => (if t203 = 1 then ((states_Go.f y170 ([] : List (S101)) y173 y179 0 bt183.1 bt183.2.1 0 (-1)).bind fun t204 => (if t204 = 2 then ((states_Go.f y170 ([] : List (S101)) y173 y179 0 bt183.1 bt183.2.1 1 0).bind fun t205 => (some (t205 == (-1)))) else (some false))) else (some false))) else (some false)) else (some false)) else (some false)) else (none)) else (some false)) else (some false)) else (some false)) else (some false)))))))) = some r := by first | (rw [hy170]; with_reducible exact H) | (have H2_ := (Option.bind_some _ _).symm.trans H; rw [hy170]; with_reducible exact H2_) | (have H2_ := (Option.bind_some _ _).symm.trans H; with_reducible exact H2_) | with_reducible exact H | (rw [hy170]; exact H) | exact H
 have Ny170 := Aside0.mk hy170
 clear hy170
 obtain ⟨y173, hy173⟩ : ∃ y_ : List ByteArray, y_ = (([(⟨#[83]⟩ : ByteArray)] : List ByteArray)) := ⟨_, rfl⟩
 replace H : ((some (([(⟨(⟨#[112]⟩ : ByteArray), 0, (([0] : List Int)), 0⟩ : S64)] : List (S64)) : List (S64))).bind fun y179 => ((states_Build.f y170 ([] : List (S101)) y173 y179 0).bind fun bt183 => ((states_Close.f y170 ([] : List (S101)) y173 y179 0 (([(⟨(-1), 0⟩ : S37)] : List (S37)))).bind fun t194 => ((states_Step.f y170 ([] : List (S101)) y173 y179 0 t194 0).bind fun t197 => ((states_Behind.f y170 ([] : List (S101)) y173 y179 0 0 0).bind fun bt200 => (if bt183.2.2 = 0 then (if (bt183.1.length : Int) = 3 then (if (t194.length : Int) = 2 then (if (t197.length : Int) = 1 then (if 0 < (t197.length : Int) then (if (((rd_T37 t197 0).f0) == 0 && (((rd_T37 t197 0).f1) == 1)) = true then (if bt200.2 = true then (if bt200.1 = 0 then ((states_Go.f y170 ([] : List (S101)) y173 y179 0 bt183.1 bt183.2.1 0 0).bind fun t203 => (if t203 = 1 then ((states_Go.f y170 ([] : List (S101)) y173 y179 0 bt183.1 bt183.2.1 0 (-1)).bind fun t204 => (if t204 = 2 then ((states_Go.f y170 ([] : List (S101)) y173 y179 0 bt183.1 bt183.2.1 1 0).bind fun t205 => (some (t205 == (-1)))) else (some false))) else (some false))) else (some false)) else (some false)) else (some false)) else (none)) else (some false)) else (some false)) else (some false)) else (some false))))))) = some r := by first | (rw [hy173]; with_reducible exact H) | (have H2_ := (Option.bind_some _ _).symm.trans H; rw [hy173]; with_reducible exact H2_) | (have H2_ := (Option.bind_some _ _).symm.trans H; with_reducible exact H2_) | with_reducible exact H | (rw [hy173]; exact H) | exact H
 have Ny173 := Aside0.mk hy173
 clear hy173
 obtain ⟨y176, hy176⟩ : ∃ y_ : List Int, y_ = (([0] : List Int)) := ⟨_, rfl⟩
 replace H : ((some (([(⟨(⟨#[112]⟩ : ByteArray), 0, y176, 0⟩ : S64)] : List (S64)) : List (S64))).bind fun y179 => ((states_Build.f y170 ([] : List (S101)) y173 y179 0).bind fun bt183 => ((states_Close.f y170 ([] : List (S101)) y173 y179 0 (([(⟨(-1), 0⟩ : S37)] : List (S37)))).bind fun t194 => ((states_Step.f y170 ([] : List (S101)) y173 y179 0 t194 0).bind fun t197 => ((states_Behind.f y170 ([] : List (S101)) y173 y179 0 0 0).bind fun bt200 => (if bt183.2.2 = 0 then (if (bt183.1.length : Int) = 3 then (if (t194.length : Int) = 2 then (if (t197.length : Int) = 1 then (if 0 < (t197.length : Int) then (if (((rd_T37 t197 0).f0) == 0 && (((rd_T37 t197 0).f1) == 1)) = true then (if bt200.2 = true then (if bt200.1 = 0 then ((states_Go.f y170 ([] : List (S101)) y173 y179 0 bt183.1 bt183.2.1 0 0).bind fun t203 => (if t203 = 1 then ((states_Go.f y170 ([] : List (S101)) y173 y179 0 bt183.1 bt183.2.1 0 (-1)).bind fun t204 => (if t204 = 2 then ((states_Go.f y170 ([] : List (S101)) y173 y179 0 bt183.1 bt183.2.1 1 0).bind fun t205 => (some (t205 == (-1)))) else (some false))) else (some false))) else (some false)) else (some false)) else (some false)) else (none)) else (some false)) else (some false)) else (some false)) else (some false))))))) = some r := by first | (rw [hy176]; with_reducible exact H) | (have H2_ := (Option.bind_some _ _).symm.trans H; rw [hy176]; with_reducible exact H2_) | (have H2_ := (Option.bind_some _ _).symm.trans H; with_reducible exact H2_) | with_reducible exact H | (rw [hy176]; exact H) | exact H
 have Ny176 := Aside0.mk hy176
 clear hy176
 obtain ⟨y179, hy179⟩ : ∃ y_ : List (S64), y_ = (([(⟨(⟨#[112]⟩ : ByteArray), 0, y176, 0⟩ : S64)] : List (S64))) := ⟨_, rfl⟩
 replace H : ((states_Build.f y170 ([] : List (S101)) y173 y179 0).bind fun bt183 => ((states_Close.f y170 ([] : List (S101)) y173 y179 0 (([(⟨(-1), 0⟩ : S37)] : List (S37)))).bind fun t194 => ((states_Step.f y170 ([] : List (S101)) y173 y179 0 t194 0).bind fun t197 => ((states_Behind.f y170 ([] : List (S101)) y173 y179 0 0 0).bind fun bt200 => (if bt183.2.2 = 0 then (if (bt183.1.length : Int) = 3 then (if (t194.length : Int) = 2 then (if (t197.length : Int) = 1 then (if 0 < (t197.length : Int) then (if (((rd_T37 t197 0).f0) == 0 && (((rd_T37 t197 0).f1) == 1)) = true then (if bt200.2 = true then (if bt200.1 = 0 then ((states_Go.f y170 ([] : List (S101)) y173 y179 0 bt183.1 bt183.2.1 0 0).bind fun t203 => (if t203 = 1 then ((states_Go.f y170 ([] : List (S101)) y173 y179 0 bt183.1 bt183.2.1 0 (-1)).bind fun t204 => (if t204 = 2 then ((states_Go.f y170 ([] : List (S101)) y173 y179 0 bt183.1 bt183.2.1 1 0).bind fun t205 => (some (t205 == (-1)))) else (some false))) else (some false))) else (some false)) else (some false)) else (some false)) else (none)) else (some false)) else (some false)) else (some false)) else (some false)))))) = some r := by first | (rw [hy179]; with_reducible exact H) | (have H2_ := (Option.bind_some _ _).symm.trans H; rw [hy179]; with_reducible exact H2_) | (have H2_ := (Option.bind_some _ _).symm.trans H; with_reducible exact H2_) | with_reducible exact H | (rw [hy179]; exact H) | exact H
 have Ny179 := Aside0.mk hy179
 clear hy179
 replace H := Option.bind_eq_some_iff.mp H
 obtain ⟨⟨t183, t186, t189⟩, A10, H⟩ := H
 replace H : ((states_Close.f y170 ([] : List (S101)) y173 y179 0 (([(⟨(-1), 0⟩ : S37)] : List (S37)))).bind fun t194 => ((states_Step.f y170 ([] : List (S101)) y173 y179 0 t194 0).bind fun t197 => ((states_Behind.f y170 ([] : List (S101)) y173 y179 0 0 0).bind fun bt200 => (if t189 = 0 then (if (t183.length : Int) = 3 then (if (t194.length : Int) = 2 then (if (t197.length : Int) = 1 then (if 0 < (t197.length : Int) then (if (((rd_T37 t197 0).f0) == 0 && (((rd_T37 t197 0).f1) == 1)) = true then (if bt200.2 = true then (if bt200.1 = 0 then ((states_Go.f y170 ([] : List (S101)) y173 y179 0 t183 t186 0 0).bind fun t203 => (if t203 = 1 then ((states_Go.f y170 ([] : List (S101)) y173 y179 0 t183 t186 0 (-1)).bind fun t204 => (if t204 = 2 then ((states_Go.f y170 ([] : List (S101)) y173 y179 0 t183 t186 1 0).bind fun t205 => (some (t205 == (-1)))) else (some false))) else (some false))) else (some false)) else (some false)) else (some false)) else (none)) else (some false)) else (some false)) else (some false)) else (some false))))) = some r := H
 have A1 := Aside0.mk A10
 clear A10
 obtain ⟨y191, hy191⟩ : ∃ y_ : List (S37), y_ = (([(⟨(-1), 0⟩ : S37)] : List (S37))) := ⟨_, rfl⟩
 replace H : ((states_Close.f y170 ([] : List (S101)) y173 y179 0 y191).bind fun t194 => ((states_Step.f y170 ([] : List (S101)) y173 y179 0 t194 0).bind fun t197 => ((states_Behind.f y170 ([] : List (S101)) y173 y179 0 0 0).bind fun bt200 => (if t189 = 0 then (if (t183.length : Int) = 3 then (if (t194.length : Int) = 2 then (if (t197.length : Int) = 1 then (if 0 < (t197.length : Int) then (if (((rd_T37 t197 0).f0) == 0 && (((rd_T37 t197 0).f1) == 1)) = true then (if bt200.2 = true then (if bt200.1 = 0 then ((states_Go.f y170 ([] : List (S101)) y173 y179 0 t183 t186 0 0).bind fun t203 => (if t203 = 1 then ((states_Go.f y170 ([] : List (S101)) y173 y179 0 t183 t186 0 (-1)).bind fun t204 => (if t204 = 2 then ((states_Go.f y170 ([] : List (S101)) y173 y179 0 t183 t186 1 0).bind fun t205 => (some (t205 == (-1)))) else (some false))) else (some false))) else (some false)) else (some false)) else (some false)) else (none)) else (some false)) else (some false)) else (some false)) else (some false))))) = some r := by first | (rw [hy191]; with_reducible exact H) | (have H2_ := (Option.bind_some _ _).symm.trans H; rw [hy191]; with_reducible exact H2_) | (have H2_ := (Option.bind_some _ _).symm.trans H; with_reducible exact H2_) | with_reducible exact H | (rw [hy191]; exact H) | exact H
 have Ny191 := Aside0.mk hy191
 clear hy191
 replace H := Option.bind_eq_some_iff.mp H
 obtain ⟨t194, A20, H⟩ := H
 replace H : ((states_Step.f y170 ([] : List (S101)) y173 y179 0 t194 0).bind fun t197 => ((states_Behind.f y170 ([] : List (S101)) y173 y179 0 0 0).bind fun bt200 => (if t189 = 0 then (if (t183.length : Int) = 3 then (if (t194.length : Int) = 2 then (if (t197.length : Int) = 1 then (if 0 < (t197.length : Int) then (if (((rd_T37 t197 0).f0) == 0 && (((rd_T37 t197 0).f1) == 1)) = true then (if bt200.2 = true then (if bt200.1 = 0 then ((states_Go.f y170 ([] : List (S101)) y173 y179 0 t183 t186 0 0).bind fun t203 => (if t203 = 1 then ((states_Go.f y170 ([] : List (S101)) y173 y179 0 t183 t186 0 (-1)).bind fun t204 => (if t204 = 2 then ((states_Go.f y170 ([] : List (S101)) y173 y179 0 t183 t186 1 0).bind fun t205 => (some (t205 == (-1)))) else (some false))) else (some false))) else (some false)) else (some false)) else (some false)) else (none)) else (some false)) else (some false)) else (some false)) else (some false)))) = some r := H
 have A2 := Aside0.mk A20
 clear A20
 replace H := Option.bind_eq_some_iff.mp H
 obtain ⟨t197, A30, H⟩ := H
 replace H : ((states_Behind.f y170 ([] : List (S101)) y173 y179 0 0 0).bind fun bt200 => (if t189 = 0 then (if (t183.length : Int) = 3 then (if (t194.length : Int) = 2 then (if (t197.length : Int) = 1 then (if 0 < (t197.length : Int) then (if (((rd_T37 t197 0).f0) == 0 && (((rd_T37 t197 0).f1) == 1)) = true then (if bt200.2 = true then (if bt200.1 = 0 then ((states_Go.f y170 ([] : List (S101)) y173 y179 0 t183 t186 0 0).bind fun t203 => (if t203 = 1 then ((states_Go.f y170 ([] : List (S101)) y173 y179 0 t183 t186 0 (-1)).bind fun t204 => (if t204 = 2 then ((states_Go.f y170 ([] : List (S101)) y173 y179 0 t183 t186 1 0).bind fun t205 => (some (t205 == (-1)))) else (some false))) else (some false))) else (some false)) else (some false)) else (some false)) else (none)) else (some false)) else (some false)) else (some false)) else (some false))) = some r := H
 have A3 := Aside0.mk A30
 clear A30
 replace H := Option.bind_eq_some_iff.mp H
 obtain ⟨⟨t200, t201⟩, A40, H⟩ := H
 replace H : (if t189 = 0 then (if (t183.length : Int) = 3 then (if (t194.length : Int) = 2 then (if (t197.length : Int) = 1 then (if 0 < (t197.length : Int) then (if (((rd_T37 t197 0).f0) == 0 && (((rd_T37 t197 0).f1) == 1)) = true then (if t201 = true then (if t200 = 0 then ((states_Go.f y170 ([] : List (S101)) y173 y179 0 t183 t186 0 0).bind fun t203 => (if t203 = 1 then ((states_Go.f y170 ([] : List (S101)) y173 y179 0 t183 t186 0 (-1)).bind fun t204 => (if t204 = 2 then ((states_Go.f y170 ([] : List (S101)) y173 y179 0 t183 t186 1 0).bind fun t205 => (some (t205 == (-1)))) else (some false))) else (some false))) else (some false)) else (some false)) else (some false)) else (none)) else (some false)) else (some false)) else (some false)) else (some false)) = some r := H
 have A4 := Aside0.mk A40
 clear A40
 by_cases c5 : t189 = 0
 ·rw [if_pos c5] at H
  have c5b0 : (t189 == 0) = true := beq_iff_eq.mpr c5
  have c5b1 : (t189 != 0) = false := bne_eq_false_iff_eq.mpr c5
  clear c5
  by_cases c6 : (t183.length : Int) = 3
  ·rw [if_pos c6] at H
   have c6b0 : ((t183.length : Int) == 3) = true := beq_iff_eq.mpr c6
   have c6b1 : ((t183.length : Int) != 3) = false := bne_eq_false_iff_eq.mpr c6
   clear c6
   by_cases c7 : (t194.length : Int) = 2
   ·rw [if_pos c7] at H
    have c7b0 : ((t194.length : Int) == 2) = true := beq_iff_eq.mpr c7
    have c7b1 : ((t194.length : Int) != 2) = false := bne_eq_false_iff_eq.mpr c7
    clear c7
    by_cases c8 : (t197.length : Int) = 1
    ·rw [if_pos c8] at H
     have c8b0 : ((t197.length : Int) == 1) = true := beq_iff_eq.mpr c8
     have c8b1 : ((t197.length : Int) != 1) = false := bne_eq_false_iff_eq.mpr c8
     clear c8
     by_cases c9 : 0 < (t197.length : Int)
     ·rw [if_pos c9] at H
      have c9b0 : decide (0 < (t197.length : Int)) = true := decide_eq_true c9
      have c9b1 : decide (0 < t197.length) = true := decide_eq_true (by omega)
      clear c9
      by_cases c10 : (((rd_T37 t197 0).f0) == 0 && (((rd_T37 t197 0).f1) == 1)) = true
      ·rw [if_pos c10] at H
       have c10b0 : (((rd_T37 t197 0).f0) == 0 && (((rd_T37 t197 0).f1) == 1)) = true := c10
       (try (have c10b1 : decide (((rd_T37 t197 0).f0) = 0 && (((rd_T37 t197 0).f1) == 1)) = true := by simpa using c10))
       (try (have c10b2 : (((rd_T37 t197 0).f0) == 0 && (((rd_T37 t197 0).f1) == 1)) = true := by simpa using c10))
       clear c10
       by_cases c11 : t201 = true
       ·subst c11
        have H1 : (if t200 = 0 then ((states_Go.f y170 ([] : List (S101)) y173 y179 0 t183 t186 0 0).bind fun t203 => (if t203 = 1 then ((states_Go.f y170 ([] : List (S101)) y173 y179 0 t183 t186 0 (-1)).bind fun t204 => (if t204 = 2 then ((states_Go.f y170 ([] : List (S101)) y173 y179 0 t183 t186 1 0).bind fun t205 => (some (t205 == (-1)))) else (some false))) else (some false))) else (some false)) = some r := by rw [if_pos rfl] at H; exact H
        clear H
        have H := H1
        clear H1
        by_cases c12 : t200 = 0
        ·rw [if_pos c12] at H
         have c12b0 : (t200 == 0) = true := beq_iff_eq.mpr c12
         have c12b1 : (t200 != 0) = false := bne_eq_false_iff_eq.mpr c12
         clear c12
         replace H := Option.bind_eq_some_iff.mp H
         obtain ⟨t203, A130, H⟩ := H
         replace H : (if t203 = 1 then ((states_Go.f y170 ([] : List (S101)) y173 y179 0 t183 t186 0 (-1)).bind fun t204 => (if t204 = 2 then ((states_Go.f y170 ([] : List (S101)) y173 y179 0 t183 t186 1 0).bind fun t205 => (some (t205 == (-1)))) else (some false))) else (some false)) = some r := H
         have A13 := Aside0.mk A130
         clear A130
         by_cases c14 : t203 = 1
         ·rw [if_pos c14] at H
          have c14b0 : (t203 == 1) = true := beq_iff_eq.mpr c14
          have c14b1 : (t203 != 1) = false := bne_eq_false_iff_eq.mpr c14
          clear c14
          replace H := Option.bind_eq_some_iff.mp H
          obtain ⟨t204, A150, H⟩ := H
          replace H : (if t204 = 2 then ((states_Go.f y170 ([] : List (S101)) y173 y179 0 t183 t186 1 0).bind fun t205 => (some (t205 == (-1)))) else (some false)) = some r := H
          have A15 := Aside0.mk A150
          clear A150
          by_cases c16 : t204 = 2
          ·rw [if_pos c16] at H
           have c16b0 : (t204 == 2) = true := beq_iff_eq.mpr c16
           have c16b1 : (t204 != 2) = false := bne_eq_false_iff_eq.mpr c16
           clear c16
           replace H := Option.bind_eq_some_iff.mp H
           obtain ⟨t205, A170, H⟩ := H
           replace H : (some (t205 == (-1))) = some r := H
           have A17 := Aside0.mk A170
           clear A170
           obtain rfl := Option.some.inj H
           go_enter Tryd.func12, Tryd.ntmps12
           go_wp2_with (first | ((with_reducible refine gate_dst (N := 9) rfl ?_); (try (refine gate_guard (by rfl) ?_; dsimp only)); refine Kd.R_lit k82 _ 82 ?hg (N := 9) ?hd (xs := ([(⟨(⟨#[97]⟩ : ByteArray), (⟨#[]⟩ : ByteArray), false, 0⟩ : S82)] : List (S82))) (inner := [.string (⟨#[97]⟩ : ByteArray), .string (⟨#[]⟩ : ByteArray), .bool false, .int .i64 0]) (ok := fun _ => True) (okp := fun _ => True) ?hr ?hp (fun _ hk => hk) trivial (Below.refl _ _) (Nat.le_refl _) (by simp) ?_; (case hd => rfl); (case hg => rfl); (case hr => first | (go_simp; done) | (go_simp; rfl)); (case hp => exact (Reps.c4 (show Kd.M k82 _ _ _ (⟨(⟨#[97]⟩ : ByteArray), (⟨#[]⟩ : ByteArray), false, 0⟩ : S82) [.string (⟨#[97]⟩ : ByteArray), .string (⟨#[]⟩ : ByteArray), .bool false, .int .i64 0] from (k82_mkM _ _ _ (⟨(⟨#[97]⟩ : ByteArray), (⟨#[]⟩ : ByteArray), false, 0⟩ : S82) )) (Reps.none _ _))); intro v171 w18 ho19 hb hg_ hnew_; clear hg_ hnew_; (first | rw [← Ny170.out] at ho19 | (simp only [Int.reduceToNat] at ho19; rw [← Ny170.out] at ho19)); have n0_ := Aside0.mk (Kd.R_lower ho19 (below_size (by repeat (first | (with_reducible first | exact HB.out | apply below_alloc | apply pw_below_drewN | apply below_drew1) | exact HB.out)))); have n1_ := Aside0.mk (below_step (by repeat (first | (with_reducible first | exact HB.out | apply below_alloc | apply pw_below_drewN | apply below_drew1) | exact HB.out)) hb); clear HB; have HO172 := n0_; have HB := n1_; clear n0_ n1_; clear hb ho19) | ((with_reducible refine gate_dst (N := 10) rfl ?_); (try (refine gate_guard (by rfl) ?_; dsimp only)); refine Kd.R_lit Kd.string _ 9 ?hg (N := 10) ?hd (xs := ([(⟨#[83]⟩ : ByteArray)] : List ByteArray)) (inner := [.string (⟨#[83]⟩ : ByteArray)]) (ok := fun _ => True) (okp := fun _ => True) ?hr ?hp (fun _ hk => hk) trivial (Below.refl _ _) (Nat.le_refl _) (by simp) ?_; (case hd => rfl); (case hg => rfl); (case hr => first | (go_simp; done) | (go_simp; rfl)); (case hp => exact (Reps.one (show Kd.M Kd.string _ _ _ (⟨#[83]⟩ : ByteArray) [.string (⟨#[83]⟩ : ByteArray)] from rfl) (Reps.none _ _))); intro v174 w20 ho21 hb hg_ hnew_; clear hg_ hnew_; (first | rw [← Ny173.out] at ho21 | (simp only [Int.reduceToNat] at ho21; rw [← Ny173.out] at ho21)); have n0_ := Aside0.mk (Kd.R_below (by (with_reducible repeat (first | apply Kd.R_alloc | apply Kd.R_drewN | apply Kd.R_drew)); exact HO172.out) hb); have n1_ := Aside0.mk (Kd.R_lower ho21 (below_size (by repeat (first | (with_reducible first | exact HB.out | apply below_alloc | apply pw_below_drewN | apply below_drew1) | exact HB.out)))); have n2_ := Aside0.mk (below_step (by repeat (first | (with_reducible first | exact HB.out | apply below_alloc | apply pw_below_drewN | apply below_drew1) | exact HB.out)) hb); clear HO172; clear HB; have HO172 := n0_; have HO175 := n1_; have HB := n2_; clear n0_ n1_ n2_; clear hb ho21) | ((with_reducible refine gate_dst (N := 11) rfl ?_); (try (refine gate_guard (by rfl) ?_; dsimp only)); refine Kd.R_lit (Kd.int .i64) _ 29 ?hg (N := 11) ?hd (xs := ([0] : List Int)) (inner := [.int .i64 0]) (ok := fun _ => True) (okp := fun _ => True) ?hr ?hp (fun _ hk => hk) trivial (Below.refl _ _) (Nat.le_refl _) (by simp) ?_; (case hd => rfl); (case hg => rfl); (case hr => first | (go_simp; done) | (go_simp; rfl)); (case hp => exact (Reps.one (show Kd.M (Kd.int .i64) _ _ _ 0 [.int .i64 0] from rfl) (Reps.none _ _))); intro v177 w22 ho23 hb hg_ hnew_; clear hg_ hnew_; (first | rw [← Ny176.out] at ho23 | (simp only [Int.reduceToNat] at ho23; rw [← Ny176.out] at ho23)); have n0_ := Aside0.mk (Kd.R_below (by (with_reducible repeat (first | apply Kd.R_alloc | apply Kd.R_drewN | apply Kd.R_drew)); exact HO172.out) hb); have n1_ := Aside0.mk (Kd.R_below (by (with_reducible repeat (first | apply Kd.R_alloc | apply Kd.R_drewN | apply Kd.R_drew)); exact HO175.out) hb); have n2_ := Aside0.mk (Kd.R_lower ho23 (below_size (by repeat (first | (with_reducible first | exact HB.out | apply below_alloc | apply pw_below_drewN | apply below_drew1) | exact HB.out)))); have n3_ := Aside0.mk (below_step (by repeat (first | (with_reducible first | exact HB.out | apply below_alloc | apply pw_below_drewN | apply below_drew1) | exact HB.out)) hb); clear HO172; clear HO175; clear HB; have HO172 := n0_; have HO175 := n1_; have HO178 := n2_; have HB := n3_; clear n0_ n1_ n2_ n3_; clear hb ho23; obtain ⟨Ao24, co24, eo24⟩ := Kd.R_slice HO178.out; subst eo24) | ((with_reducible refine gate_dst (N := 13) rfl ?_); (try (refine gate_guard (by rfl) ?_; dsimp only)); refine Kd.N_lit k64 _ 64 ?hg (N' := 13) ?hd (xs := ([(⟨(⟨#[112]⟩ : ByteArray), 0, y176, 0⟩ : S64)] : List (S64))) (inner := [.string (⟨#[112]⟩ : ByteArray), .int .i64 0, .slice Ao24 y176.length co24, .int .i64 0]) (ok := (fun k_ => some k_ ≠ (v171 : Value).ownBlock ∧ some k_ ≠ (v174 : Value).ownBlock)) (okp := (fun k_ => some k_ ≠ (v171 : Value).ownBlock ∧ some k_ ≠ (v174 : Value).ownBlock)) ?hr ?hp (fun _ hk => hk) ((show ∀ k_, w22.heap.size ≤ k_ → (fun k_ => some k_ ≠ (v171 : Value).ownBlock ∧ some k_ ≠ (v174 : Value).ownBlock) k_ from fun k_ hk => ⟨Kd.fresh' (Kd.R_lt (by (with_reducible repeat (first | apply Kd.R_alloc | apply Kd.R_drewN | apply Kd.R_drew)); exact HO172.out)) k_ hk, Kd.fresh' (Kd.R_lt (by (with_reducible repeat (first | apply Kd.R_alloc | apply Kd.R_drewN | apply Kd.R_drew)); exact HO175.out)) k_ hk⟩) _ (Nat.le_refl _)) (Below.refl _ _) (Nat.le_refl _) (by simp) ?_; (case hd => rfl); (case hg => rfl); (case hr => first | (go_simp; done) | (go_simp; rfl)); (case hp => exact (Reps.c4 (show Kd.FK k64 _ _ (⟨(⟨#[112]⟩ : ByteArray), 0, y176, 0⟩ : S64) [.string (⟨#[112]⟩ : ByteArray), .int .i64 0, .slice Ao24 y176.length co24, .int .i64 0] from (k64_mkF _ _ (⟨(⟨#[112]⟩ : ByteArray), 0, y176, 0⟩ : S64) (Kd.R_reads' (Kd.R_mono (ok' := (fun k_ => some k_ ≠ (v171 : Value).ownBlock ∧ some k_ ≠ (v174 : Value).ownBlock)) (Kd.R_apart' (Kd.R_apart' (HO178.out) (Kd.R_typed HO172.out) (by decide)) (Kd.R_typed HO175.out) (by decide)) (fun k_ hk => ⟨hk.1.2, hk.2⟩))).2.1 (Kd.R_F (Kd.R_mono (ok' := (fun k_ => some k_ ≠ (v171 : Value).ownBlock ∧ some k_ ≠ (v174 : Value).ownBlock)) (Kd.R_apart' (Kd.R_apart' (HO178.out) (Kd.R_typed HO172.out) (by decide)) (Kd.R_typed HO175.out) (by decide)) (fun k_ hk => ⟨hk.1.2, hk.2⟩))))) (Reps.none _ _))); intro v180 w25 ho26 hb hg_ hnew_; clear hg_ hnew_; (first | rw [← Ny179.out] at ho26 | (simp only [Int.reduceToNat] at ho26; rw [← Ny179.out] at ho26)); have n0_ := Aside0.mk (Kd.R_below (by (with_reducible repeat (first | apply Kd.R_alloc | apply Kd.R_drewN | apply Kd.R_drew)); exact HO172.out) hb); have n1_ := Aside0.mk (Kd.R_below (by (with_reducible repeat (first | apply Kd.R_alloc | apply Kd.R_drewN | apply Kd.R_drew)); exact HO175.out) hb); have n2_ := Aside0.mk (Kd.N_lower ho26 (below_size (by repeat (first | (with_reducible first | exact HB.out | apply below_alloc | apply pw_below_drewN | apply below_drew1) | exact HB.out)))); have n3_ := Aside0.mk (below_step (by repeat (first | (with_reducible first | exact HB.out | apply below_alloc | apply pw_below_drewN | apply below_drew1) | exact HB.out)) hb); clear HO172; clear HO175; clear HB; clear HO178; have HO172 := n0_; have HO175 := n1_; have HO181 := n2_; have HB := n3_; clear n0_ n1_ n2_ n3_; clear hb ho26; obtain ⟨Ao27, co27, eo27⟩ := Kd.N_slice HO181.out; subst eo27; obtain ⟨Ao28, co28, eo28⟩ := Kd.R_slice HO175.out; subst eo28; obtain ⟨Ao29, co29, eo29⟩ := Kd.R_slice HO172.out; subst eo29) | ((with_reducible refine gate_dst (N := 1) rfl ?_); (try (refine gate_guard (by rfl) ?_; dsimp only)); refine box_event ?hg (N := 1) ?hd (cs := #[.slice none 0 0, .slice none 0 0, .slice none 0 0, .slice none 0 0, .int .i64 0]) (t := 27) ?hr ?_; (case hd => rfl); (case hg => rfl); (case hr => first | (go_simp; done) | (go_simp; rfl)); intro gb182 hg w30 hbox hb; have n0_ := Aside0.mk (Kd.R_below (by (with_reducible repeat (first | apply Kd.R_alloc | apply Kd.R_drewN | apply Kd.R_drew)); exact HO172.out) hb); have n1_ := Aside0.mk (Kd.R_below (by (with_reducible repeat (first | apply Kd.R_alloc | apply Kd.R_drewN | apply Kd.R_drew)); exact HO175.out) hb); have n2_ := Aside0.mk (Kd.N_below (Kd.N_elderB (by (with_reducible repeat (first | apply Kd.N_alloc | apply Kd.N_drewN | apply Kd.N_drew)); exact HO181.out) gb182 (Nat.le_of_eq hg.symm)) hb); have n3_ := Aside0.mk (below_step (by repeat (first | (with_reducible first | exact HB.out | apply below_alloc | apply pw_below_drewN | apply below_drew1) | exact HB.out)) hb); have n4_ := Aside0.mk (hbox); have n5_ := Aside0.mk ((by rw [hg]; exact (below_size (by repeat (first | (with_reducible first | exact HB.out | apply below_alloc | apply pw_below_drewN | apply below_drew1) | exact HB.out))) : w.heap.size ≤ gb182)); have n6_ := Aside0.mk ((by rw [hg]; exact (below_size (by repeat (first | (with_reducible first | exact HB.out | apply below_alloc | apply pw_below_drewN | apply below_drew1) | exact HB.out))) : w.heap.size ≤ gb182)); clear HO172; clear HO175; clear HO181; clear HB; have HO172 := n0_; have HO175 := n1_; have HO181 := n2_; have HB := n3_; have BK182 := n4_; have GW182 := n5_; have GE182 := n6_; clear n0_ n1_ n2_ n3_ n4_ n5_ n6_; clear hb hbox hg; have hcz31_0 : w30.cell? ⟨gb182, 0, none⟩ = some (.slice none 0 0) := (blk_cell BK182.out 0).trans rfl; have hcz31_1 : w30.cell? ⟨gb182, 1, none⟩ = some (.slice none 0 0) := (blk_cell BK182.out 1).trans rfl; have hcz31_2 : w30.cell? ⟨gb182, 2, none⟩ = some (.slice none 0 0) := (blk_cell BK182.out 2).trans rfl; have hcz31_3 : w30.cell? ⟨gb182, 3, none⟩ = some (.slice none 0 0) := (blk_cell BK182.out 3).trans rfl; have hcz31_4 : w30.cell? ⟨gb182, 4, none⟩ = some (.int .i64 0) := (blk_cell BK182.out 4).trans rfl; have hfz31_0 := blk_frozen BK182.out 0; have hfz31_1 := blk_frozen BK182.out 1; have hfz31_2 := blk_frozen BK182.out 2; have hfz31_3 := blk_frozen BK182.out 3; have hfz31_4 := blk_frozen BK182.out 4) | ((with_reducible refine gate_callee (f := 23) rfl ?_); refine goesL_ (some 17) rfl rfl Tryd.func23 (by kernel_rfl) rfl #[.agg #[.slice Ao29 y170.length co29, .slice none 0 0, .slice Ao28 y173.length co28, .slice Ao27 y179.length co27, .int .i64 0]] rfl (by (try simp only [List.map_toArray, List.map_cons, List.map_nil]); first | done | rfl | (simp only [List.length_drop, List.length_take]; rfl)) ?_; (refine (states_Build.calls _ _ y170 _ _ ([] : List (S101)) _ _ y173 _ _ y179 0 t183 t186 t189 _ ?side1 ?side2 ?side3 ?side4 ?side5 ?side6 ?side7 ?side8 ?side9 A1.out).mono ?_); (case side1 => exact GTab.below HG.out (by repeat (first | (with_reducible first | exact HB.out | apply below_alloc | apply pw_below_drewN | apply below_drew1 | refine below_set ?_ GE182.out) | exact HB.out))); (case side2 => refine (Kd.R_reads' (e := 82) (base := w.heap.size) (ok := fun k_ => True) (n := y170.length) (c := co29) ?_).2.2; exact (by (with_reducible repeat (first | apply Kd.R_alloc | apply Kd.R_drewN | apply Kd.R_drew)); exact (Kd.R_mono (Kd.R_far (p := ⟨gb182, 4, none⟩) (Kd.R_far (p := ⟨gb182, 3, none⟩) (Kd.R_far (p := ⟨gb182, 2, none⟩) (Kd.R_far (p := ⟨gb182, 1, none⟩) (Kd.R_far (p := ⟨gb182, 0, none⟩) (Kd.R_types HO172.out BK182.out (by decide)) (fun _ hk => hk.2) (.slice Ao29 y170.length co29)) (fun _ hk => hk.2) (.slice none 0 0)) (fun _ hk => hk.2) (.slice Ao28 y173.length co28)) (fun _ hk => hk.2) (.slice Ao27 y179.length co27)) (fun _ hk => hk.2) (.int .i64 0)) (fun _ h_ => h_.1)))); (case side3 => exact (Kd.R_reads' HO172.out).2.1); (case side4 => exact Kd.C_nil _ _); (case side5 => exact Nat.le_refl _); (case side6 => refine (Kd.R_reads' (e := 9) (base := w.heap.size) (ok := fun k_ => True) (n := y173.length) (c := co28) ?_).2.2; exact (by (with_reducible repeat (first | apply Kd.R_alloc | apply Kd.R_drewN | apply Kd.R_drew)); exact (Kd.R_mono (Kd.R_far (p := ⟨gb182, 4, none⟩) (Kd.R_far (p := ⟨gb182, 3, none⟩) (Kd.R_far (p := ⟨gb182, 2, none⟩) (Kd.R_far (p := ⟨gb182, 1, none⟩) (Kd.R_far (p := ⟨gb182, 0, none⟩) (Kd.R_types HO175.out BK182.out (by decide)) (fun _ hk => hk.2) (.slice Ao29 y170.length co29)) (fun _ hk => hk.2) (.slice none 0 0)) (fun _ hk => hk.2) (.slice Ao28 y173.length co28)) (fun _ hk => hk.2) (.slice Ao27 y179.length co27)) (fun _ hk => hk.2) (.int .i64 0)) (fun _ h_ => h_.1)))); (case side7 => exact (Kd.R_reads' HO175.out).2.1); (case side8 => refine (Kd.N_reads' (e := 64) (base := w.heap.size) (ok := fun k_ => ((some k_ ≠ (.slice Ao29 y170.length co29 : Value).ownBlock ∧ some k_ ≠ (.slice Ao28 y173.length co28 : Value).ownBlock) ∧ k_ ≠ gb182)) (n := y179.length) (c := co27) ?_).2.2; exact (by (with_reducible repeat (first | apply Kd.N_alloc | apply Kd.N_drewN | apply Kd.N_drew)); exact (Kd.N_mono (Kd.N_far (p := ⟨gb182, 4, none⟩) (Kd.N_far (p := ⟨gb182, 3, none⟩) (Kd.N_far (p := ⟨gb182, 2, none⟩) (Kd.N_far (p := ⟨gb182, 1, none⟩) (Kd.N_far (p := ⟨gb182, 0, none⟩) (Kd.N_mono HO181.out (fun k_ hk => (⟨hk, hk.2⟩ : _ ∧ k_ ≠ gb182))) (fun _ hk => hk.2) (.slice Ao29 y170.length co29)) (fun _ hk => hk.2) (.slice none 0 0)) (fun _ hk => hk.2) (.slice Ao28 y173.length co28)) (fun _ hk => hk.2) (.slice Ao27 y179.length co27)) (fun _ hk => hk.2) (.int .i64 0)) (fun _ h_ => h_.1)))); (case side9 => exact (Kd.N_reads' HO181.out).2.1); rintro e w32 ⟨v184, v187, rfl, ho0, ho1, hb⟩; refine ⟨_, rfl, ?_⟩; have n0_ := Aside0.mk (Kd.R_below (by (with_reducible repeat (first | apply Kd.R_alloc | apply Kd.R_drewN | apply Kd.R_drew)); exact (Kd.R_mono (Kd.R_far (p := ⟨gb182, 4, none⟩) (Kd.R_far (p := ⟨gb182, 3, none⟩) (Kd.R_far (p := ⟨gb182, 2, none⟩) (Kd.R_far (p := ⟨gb182, 1, none⟩) (Kd.R_far (p := ⟨gb182, 0, none⟩) (Kd.R_types HO172.out BK182.out (by decide)) (fun _ hk => hk.2) (.slice Ao29 y170.length co29)) (fun _ hk => hk.2) (.slice none 0 0)) (fun _ hk => hk.2) (.slice Ao28 y173.length co28)) (fun _ hk => hk.2) (.slice Ao27 y179.length co27)) (fun _ hk => hk.2) (.int .i64 0)) (fun _ h_ => h_.1))) hb); have n1_ := Aside0.mk (Kd.R_below (by (with_reducible repeat (first | apply Kd.R_alloc | apply Kd.R_drewN | apply Kd.R_drew)); exact (Kd.R_mono (Kd.R_far (p := ⟨gb182, 4, none⟩) (Kd.R_far (p := ⟨gb182, 3, none⟩) (Kd.R_far (p := ⟨gb182, 2, none⟩) (Kd.R_far (p := ⟨gb182, 1, none⟩) (Kd.R_far (p := ⟨gb182, 0, none⟩) (Kd.R_types HO175.out BK182.out (by decide)) (fun _ hk => hk.2) (.slice Ao29 y170.length co29)) (fun _ hk => hk.2) (.slice none 0 0)) (fun _ hk => hk.2) (.slice Ao28 y173.length co28)) (fun _ hk => hk.2) (.slice Ao27 y179.length co27)) (fun _ hk => hk.2) (.int .i64 0)) (fun _ h_ => h_.1))) hb); have n2_ := Aside0.mk (Kd.N_mono (Kd.N_told (Kd.N_told (Kd.N_old (by (with_reducible repeat (first | apply Kd.N_alloc | apply Kd.N_drewN | apply Kd.N_drew)); exact (Kd.N_mono (Kd.N_far (p := ⟨gb182, 4, none⟩) (Kd.N_far (p := ⟨gb182, 3, none⟩) (Kd.N_far (p := ⟨gb182, 2, none⟩) (Kd.N_far (p := ⟨gb182, 1, none⟩) (Kd.N_far (p := ⟨gb182, 0, none⟩) (Kd.N_mono HO181.out (fun k_ hk => (⟨hk, hk.2⟩ : _ ∧ k_ ≠ gb182))) (fun _ hk => hk.2) (.slice Ao29 y170.length co29)) (fun _ hk => hk.2) (.slice none 0 0)) (fun _ hk => hk.2) (.slice Ao28 y173.length co28)) (fun _ hk => hk.2) (.slice Ao27 y179.length co27)) (fun _ hk => hk.2) (.int .i64 0)) (fun _ h_ => h_.1))) hb) (Kd.S_base ho0)) (Kd.S_base ho1)) (fun _ h_ => h_.1)); have n3_ := Aside0.mk (Kd.N_lower (Kd.N_mono (ok' := fun k_ => some k_ ≠ (v187 : Value).ownBlock ∧ some k_ ≠ (.slice Ao29 y170.length co29 : Value).ownBlock ∧ some k_ ≠ (.slice Ao28 y173.length co28 : Value).ownBlock ∧ some k_ ≠ (.slice Ao27 y179.length co27 : Value).ownBlock ∧ k_ ≠ gb182) (Kd.S_N (Kd.S_bound (Kd.S_apart' ho0 (Kd.S_typed ho1) (by decide)))) (fun k_ hk_ => ⟨hk_.1.2, (Kd.fresh' (Kd.R_lt (by (with_reducible repeat (first | apply Kd.R_alloc | apply Kd.R_drewN | apply Kd.R_drew)); exact (Kd.R_mono (Kd.R_far (p := ⟨gb182, 4, none⟩) (Kd.R_far (p := ⟨gb182, 3, none⟩) (Kd.R_far (p := ⟨gb182, 2, none⟩) (Kd.R_far (p := ⟨gb182, 1, none⟩) (Kd.R_far (p := ⟨gb182, 0, none⟩) (Kd.R_types HO172.out BK182.out (by decide)) (fun _ hk => hk.2) (.slice Ao29 y170.length co29)) (fun _ hk => hk.2) (.slice none 0 0)) (fun _ hk => hk.2) (.slice Ao28 y173.length co28)) (fun _ hk => hk.2) (.slice Ao27 y179.length co27)) (fun _ hk => hk.2) (.int .i64 0)) (fun _ h_ => h_.1)))) k_ hk_.2.1), (Kd.fresh' (Kd.R_lt (by (with_reducible repeat (first | apply Kd.R_alloc | apply Kd.R_drewN | apply Kd.R_drew)); exact (Kd.R_mono (Kd.R_far (p := ⟨gb182, 4, none⟩) (Kd.R_far (p := ⟨gb182, 3, none⟩) (Kd.R_far (p := ⟨gb182, 2, none⟩) (Kd.R_far (p := ⟨gb182, 1, none⟩) (Kd.R_far (p := ⟨gb182, 0, none⟩) (Kd.R_types HO175.out BK182.out (by decide)) (fun _ hk => hk.2) (.slice Ao29 y170.length co29)) (fun _ hk => hk.2) (.slice none 0 0)) (fun _ hk => hk.2) (.slice Ao28 y173.length co28)) (fun _ hk => hk.2) (.slice Ao27 y179.length co27)) (fun _ hk => hk.2) (.int .i64 0)) (fun _ h_ => h_.1)))) k_ hk_.2.1), (Kd.fresh' (Kd.N_lt (by (with_reducible repeat (first | apply Kd.N_alloc | apply Kd.N_drewN | apply Kd.N_drew)); exact (Kd.N_mono (Kd.N_far (p := ⟨gb182, 4, none⟩) (Kd.N_far (p := ⟨gb182, 3, none⟩) (Kd.N_far (p := ⟨gb182, 2, none⟩) (Kd.N_far (p := ⟨gb182, 1, none⟩) (Kd.N_far (p := ⟨gb182, 0, none⟩) (Kd.N_mono HO181.out (fun k_ hk => (⟨hk, hk.2⟩ : _ ∧ k_ ≠ gb182))) (fun _ hk => hk.2) (.slice Ao29 y170.length co29)) (fun _ hk => hk.2) (.slice none 0 0)) (fun _ hk => hk.2) (.slice Ao28 y173.length co28)) (fun _ hk => hk.2) (.slice Ao27 y179.length co27)) (fun _ hk => hk.2) (.int .i64 0)) (fun _ h_ => h_.1)))) k_ hk_.2.1), (Kd.freshB (g := gb182) (o := .cells #[.slice Ao29 y170.length co29, .slice none 0 0, .slice Ao28 y173.length co28, .slice Ao27 y179.length co27, .int .i64 0] 27 (0, 0)) (by (with_reducible repeat (first | refine blk_drewN ?_ _ | refine blk_drew ?_ | refine blk_alloc ?_ _)); refine blk_put (cs := #[.slice Ao29 y170.length co29, .slice none 0 0, .slice Ao28 y173.length co28, .slice Ao27 y179.length co27, .int .i64 0]) ?_ 4 _ rfl; (with_reducible repeat (first | refine blk_drewN ?_ _ | refine blk_drew ?_ | refine blk_alloc ?_ _)); refine blk_put (cs := #[.slice Ao29 y170.length co29, .slice none 0 0, .slice Ao28 y173.length co28, .slice none 0 0, .int .i64 0]) ?_ 3 _ rfl; (with_reducible repeat (first | refine blk_drewN ?_ _ | refine blk_drew ?_ | refine blk_alloc ?_ _)); refine blk_put (cs := #[.slice Ao29 y170.length co29, .slice none 0 0, .slice none 0 0, .slice none 0 0, .int .i64 0]) ?_ 2 _ rfl; (with_reducible repeat (first | refine blk_drewN ?_ _ | refine blk_drew ?_ | refine blk_alloc ?_ _)); refine blk_put (cs := #[.slice Ao29 y170.length co29, .slice none 0 0, .slice none 0 0, .slice none 0 0, .int .i64 0]) ?_ 1 _ rfl; (with_reducible repeat (first | refine blk_drewN ?_ _ | refine blk_drew ?_ | refine blk_alloc ?_ _)); refine blk_put (cs := #[.slice none 0 0, .slice none 0 0, .slice none 0 0, .slice none 0 0, .int .i64 0]) ?_ 0 _ rfl; (with_reducible repeat (first | refine blk_drewN ?_ _ | refine blk_drew ?_ | refine blk_alloc ?_ _)); exact BK182.out) k_ hk_.2.1)⟩)) (below_size (by repeat (first | (with_reducible first | exact HB.out | apply below_alloc | apply pw_below_drewN | apply below_drew1 | refine below_set ?_ GE182.out) | exact HB.out)))); have n4_ := Aside0.mk (Kd.N_lower (Kd.N_mono (ok' := fun k_ => some k_ ≠ (v184 : Value).ownBlock ∧ some k_ ≠ (.slice Ao29 y170.length co29 : Value).ownBlock ∧ some k_ ≠ (.slice Ao28 y173.length co28 : Value).ownBlock ∧ some k_ ≠ (.slice Ao27 y179.length co27 : Value).ownBlock ∧ k_ ≠ gb182) (Kd.S_N (Kd.S_bound (Kd.S_apart' ho1 (Kd.S_typed ho0) (by decide)))) (fun k_ hk_ => ⟨hk_.1.2, (Kd.fresh' (Kd.R_lt (by (with_reducible repeat (first | apply Kd.R_alloc | apply Kd.R_drewN | apply Kd.R_drew)); exact (Kd.R_mono (Kd.R_far (p := ⟨gb182, 4, none⟩) (Kd.R_far (p := ⟨gb182, 3, none⟩) (Kd.R_far (p := ⟨gb182, 2, none⟩) (Kd.R_far (p := ⟨gb182, 1, none⟩) (Kd.R_far (p := ⟨gb182, 0, none⟩) (Kd.R_types HO172.out BK182.out (by decide)) (fun _ hk => hk.2) (.slice Ao29 y170.length co29)) (fun _ hk => hk.2) (.slice none 0 0)) (fun _ hk => hk.2) (.slice Ao28 y173.length co28)) (fun _ hk => hk.2) (.slice Ao27 y179.length co27)) (fun _ hk => hk.2) (.int .i64 0)) (fun _ h_ => h_.1)))) k_ hk_.2.1), (Kd.fresh' (Kd.R_lt (by (with_reducible repeat (first | apply Kd.R_alloc | apply Kd.R_drewN | apply Kd.R_drew)); exact (Kd.R_mono (Kd.R_far (p := ⟨gb182, 4, none⟩) (Kd.R_far (p := ⟨gb182, 3, none⟩) (Kd.R_far (p := ⟨gb182, 2, none⟩) (Kd.R_far (p := ⟨gb182, 1, none⟩) (Kd.R_far (p := ⟨gb182, 0, none⟩) (Kd.R_types HO175.out BK182.out (by decide)) (fun _ hk => hk.2) (.slice Ao29 y170.length co29)) (fun _ hk => hk.2) (.slice none 0 0)) (fun _ hk => hk.2) (.slice Ao28 y173.length co28)) (fun _ hk => hk.2) (.slice Ao27 y179.length co27)) (fun _ hk => hk.2) (.int .i64 0)) (fun _ h_ => h_.1)))) k_ hk_.2.1), (Kd.fresh' (Kd.N_lt (by (with_reducible repeat (first | apply Kd.N_alloc | apply Kd.N_drewN | apply Kd.N_drew)); exact (Kd.N_mono (Kd.N_far (p := ⟨gb182, 4, none⟩) (Kd.N_far (p := ⟨gb182, 3, none⟩) (Kd.N_far (p := ⟨gb182, 2, none⟩) (Kd.N_far (p := ⟨gb182, 1, none⟩) (Kd.N_far (p := ⟨gb182, 0, none⟩) (Kd.N_mono HO181.out (fun k_ hk => (⟨hk, hk.2⟩ : _ ∧ k_ ≠ gb182))) (fun _ hk => hk.2) (.slice Ao29 y170.length co29)) (fun _ hk => hk.2) (.slice none 0 0)) (fun _ hk => hk.2) (.slice Ao28 y173.length co28)) (fun _ hk => hk.2) (.slice Ao27 y179.length co27)) (fun _ hk => hk.2) (.int .i64 0)) (fun _ h_ => h_.1)))) k_ hk_.2.1), (Kd.freshB (g := gb182) (o := .cells #[.slice Ao29 y170.length co29, .slice none 0 0, .slice Ao28 y173.length co28, .slice Ao27 y179.length co27, .int .i64 0] 27 (0, 0)) (by (with_reducible repeat (first | refine blk_drewN ?_ _ | refine blk_drew ?_ | refine blk_alloc ?_ _)); refine blk_put (cs := #[.slice Ao29 y170.length co29, .slice none 0 0, .slice Ao28 y173.length co28, .slice Ao27 y179.length co27, .int .i64 0]) ?_ 4 _ rfl; (with_reducible repeat (first | refine blk_drewN ?_ _ | refine blk_drew ?_ | refine blk_alloc ?_ _)); refine blk_put (cs := #[.slice Ao29 y170.length co29, .slice none 0 0, .slice Ao28 y173.length co28, .slice none 0 0, .int .i64 0]) ?_ 3 _ rfl; (with_reducible repeat (first | refine blk_drewN ?_ _ | refine blk_drew ?_ | refine blk_alloc ?_ _)); refine blk_put (cs := #[.slice Ao29 y170.length co29, .slice none 0 0, .slice none 0 0, .slice none 0 0, .int .i64 0]) ?_ 2 _ rfl; (with_reducible repeat (first | refine blk_drewN ?_ _ | refine blk_drew ?_ | refine blk_alloc ?_ _)); refine blk_put (cs := #[.slice Ao29 y170.length co29, .slice none 0 0, .slice none 0 0, .slice none 0 0, .int .i64 0]) ?_ 1 _ rfl; (with_reducible repeat (first | refine blk_drewN ?_ _ | refine blk_drew ?_ | refine blk_alloc ?_ _)); refine blk_put (cs := #[.slice none 0 0, .slice none 0 0, .slice none 0 0, .slice none 0 0, .int .i64 0]) ?_ 0 _ rfl; (with_reducible repeat (first | refine blk_drewN ?_ _ | refine blk_drew ?_ | refine blk_alloc ?_ _)); exact BK182.out) k_ hk_.2.1)⟩)) (below_size (by repeat (first | (with_reducible first | exact HB.out | apply below_alloc | apply pw_below_drewN | apply below_drew1 | refine below_set ?_ GE182.out) | exact HB.out)))); have n5_ := Aside0.mk (blk_below (g := gb182) (o := .cells #[.slice Ao29 y170.length co29, .slice none 0 0, .slice Ao28 y173.length co28, .slice Ao27 y179.length co27, .int .i64 0] 27 (0, 0)) (by (with_reducible repeat (first | refine blk_drewN ?_ _ | refine blk_drew ?_ | refine blk_alloc ?_ _)); refine blk_put (cs := #[.slice Ao29 y170.length co29, .slice none 0 0, .slice Ao28 y173.length co28, .slice Ao27 y179.length co27, .int .i64 0]) ?_ 4 _ rfl; (with_reducible repeat (first | refine blk_drewN ?_ _ | refine blk_drew ?_ | refine blk_alloc ?_ _)); refine blk_put (cs := #[.slice Ao29 y170.length co29, .slice none 0 0, .slice Ao28 y173.length co28, .slice none 0 0, .int .i64 0]) ?_ 3 _ rfl; (with_reducible repeat (first | refine blk_drewN ?_ _ | refine blk_drew ?_ | refine blk_alloc ?_ _)); refine blk_put (cs := #[.slice Ao29 y170.length co29, .slice none 0 0, .slice none 0 0, .slice none 0 0, .int .i64 0]) ?_ 2 _ rfl; (with_reducible repeat (first | refine blk_drewN ?_ _ | refine blk_drew ?_ | refine blk_alloc ?_ _)); refine blk_put (cs := #[.slice Ao29 y170.length co29, .slice none 0 0, .slice none 0 0, .slice none 0 0, .int .i64 0]) ?_ 1 _ rfl; (with_reducible repeat (first | refine blk_drewN ?_ _ | refine blk_drew ?_ | refine blk_alloc ?_ _)); refine blk_put (cs := #[.slice none 0 0, .slice none 0 0, .slice none 0 0, .slice none 0 0, .int .i64 0]) ?_ 0 _ rfl; (with_reducible repeat (first | refine blk_drewN ?_ _ | refine blk_drew ?_ | refine blk_alloc ?_ _)); exact BK182.out) hb); have n6_ := Aside0.mk (below_step (by repeat (first | (with_reducible first | exact HB.out | apply below_alloc | apply pw_below_drewN | apply below_drew1 | refine below_set ?_ GE182.out) | exact HB.out)) hb); clear HO172; clear HO175; clear HO181; clear BK182; clear HB; have HO172 := n0_; have HO175 := n1_; have HO181 := n2_; have HO185 := n3_; have HO188 := n4_; have BK182 := n5_; have HB := n6_; clear n0_ n1_ n2_ n3_ n4_ n5_ n6_; (try clear hb); (try clear hb2); (try clear hk); (try clear hi); (try clear ho0); (try clear ho1)) | ((with_reducible refine gate_dst (N := 2) rfl ?_); (try (refine gate_guard (by rfl) ?_; dsimp only)); refine box_event ?hg (N := 2) ?hd (cs := #[.slice none 0 0, .slice none 0 0]) (t := 49) ?hr ?_; (case hd => rfl); (case hg => rfl); (case hr => first | (go_simp; done) | (go_simp; rfl)); intro gb190 hg w33 hbox hb; have n0_ := Aside0.mk (Kd.R_below (by (with_reducible repeat (first | apply Kd.R_alloc | apply Kd.R_drewN | apply Kd.R_drew)); exact HO172.out) hb); have n1_ := Aside0.mk (Kd.R_below (by (with_reducible repeat (first | apply Kd.R_alloc | apply Kd.R_drewN | apply Kd.R_drew)); exact HO175.out) hb); have n2_ := Aside0.mk (Kd.N_below (Kd.N_elderB (by (with_reducible repeat (first | apply Kd.N_alloc | apply Kd.N_drewN | apply Kd.N_drew)); exact HO181.out) gb190 (Nat.le_of_eq hg.symm)) hb); have n3_ := Aside0.mk (Kd.N_below (Kd.N_elderB (by (with_reducible repeat (first | apply Kd.N_alloc | apply Kd.N_drewN | apply Kd.N_drew)); exact HO185.out) gb190 (Nat.le_of_eq hg.symm)) hb); have n4_ := Aside0.mk (Kd.N_below (Kd.N_elderB (by (with_reducible repeat (first | apply Kd.N_alloc | apply Kd.N_drewN | apply Kd.N_drew)); exact HO188.out) gb190 (Nat.le_of_eq hg.symm)) hb); have n5_ := Aside0.mk (blk_below (g := gb182) (o := .cells #[.slice Ao29 y170.length co29, .slice none 0 0, .slice Ao28 y173.length co28, .slice Ao27 y179.length co27, .int .i64 0] 27 (0, 0)) (by (with_reducible repeat (first | refine blk_drewN ?_ _ | refine blk_drew ?_ | refine blk_alloc ?_ _)); exact BK182.out) hb); have n6_ := Aside0.mk (below_step (by repeat (first | (with_reducible first | exact HB.out | apply below_alloc | apply pw_below_drewN | apply below_drew1 | refine below_set ?_ GE182.out) | exact HB.out)) hb); have n7_ := Aside0.mk (hbox); have n8_ := Aside0.mk ((by rw [hg]; exact (below_size (by repeat (first | (with_reducible first | exact HB.out | apply below_alloc | apply pw_below_drewN | apply below_drew1 | refine below_set ?_ GE182.out) | exact HB.out))) : w.heap.size ≤ gb190)); have n9_ := Aside0.mk ((by rw [hg]; exact (below_size (by repeat (first | (with_reducible first | exact HB.out | apply below_alloc | apply pw_below_drewN | apply below_drew1 | refine below_set ?_ GE182.out) | exact HB.out))) : w.heap.size ≤ gb190)); have n10_ := Aside0.mk ((by rw [hg]; exact Nat.ne_of_lt (blk_lt (g := gb182) (o := .cells #[.slice Ao29 y170.length co29, .slice none 0 0, .slice Ao28 y173.length co28, .slice Ao27 y179.length co27, .int .i64 0] 27 (0, 0)) (by (with_reducible repeat (first | refine blk_drewN ?_ _ | refine blk_drew ?_ | refine blk_alloc ?_ _)); exact BK182.out)) : gb182 ≠ gb190)); have n11_ := Aside0.mk ((by rw [hg]; exact Nat.ne_of_gt (blk_lt (g := gb182) (o := .cells #[.slice Ao29 y170.length co29, .slice none 0 0, .slice Ao28 y173.length co28, .slice Ao27 y179.length co27, .int .i64 0] 27 (0, 0)) (by (with_reducible repeat (first | refine blk_drewN ?_ _ | refine blk_drew ?_ | refine blk_alloc ?_ _)); exact BK182.out)) : gb190 ≠ gb182)); clear HO172; clear HO175; clear HO181; clear HO185; clear HO188; clear BK182; clear HB; have HO172 := n0_; have HO175 := n1_; have HO181 := n2_; have HO185 := n3_; have HO188 := n4_; have BK182 := n5_; have HB := n6_; have BK190 := n7_; have GW190 := n8_; have GE190 := n9_; have NB182_190 := n10_; have NB190_182 := n11_; clear n0_ n1_ n2_ n3_ n4_ n5_ n6_ n7_ n8_ n9_ n10_ n11_; clear hb hbox hg; obtain ⟨Ao34, co34, eo34⟩ := Kd.N_slice HO185.out; subst eo34; have hnb35 := NB190_182.out; have hnc35 := NB182_190.out; have hcz36_0 : w33.cell? ⟨gb190, 0, none⟩ = some (.slice none 0 0) := (blk_cell BK190.out 0).trans rfl; have hcz36_1 : w33.cell? ⟨gb190, 1, none⟩ = some (.slice none 0 0) := (blk_cell BK190.out 1).trans rfl; have hfz36_0 := blk_frozen BK190.out 0; have hfz36_1 := blk_frozen BK190.out 1; obtain ⟨Ao37, co37, eo37⟩ := Kd.N_slice HO188.out; subst eo37; have hcz38_0 : w33.cell? ⟨gb182, 0, none⟩ = some (.slice Ao29 y170.length co29) := (blk_cell BK182.out 0).trans rfl; have hcz38_1 : w33.cell? ⟨gb182, 1, none⟩ = some (.slice none 0 0) := (blk_cell BK182.out 1).trans rfl; have hcz38_2 : w33.cell? ⟨gb182, 2, none⟩ = some (.slice Ao28 y173.length co28) := (blk_cell BK182.out 2).trans rfl; have hcz38_3 : w33.cell? ⟨gb182, 3, none⟩ = some (.slice Ao27 y179.length co27) := (blk_cell BK182.out 3).trans rfl; have hcz38_4 : w33.cell? ⟨gb182, 4, none⟩ = some (.int .i64 0) := (blk_cell BK182.out 4).trans rfl; have hfz38_0 := blk_frozen BK182.out 0; have hfz38_1 := blk_frozen BK182.out 1; have hfz38_2 := blk_frozen BK182.out 2; have hfz38_3 := blk_frozen BK182.out 3; have hfz38_4 := blk_frozen BK182.out 4) | ((with_reducible refine gate_dst (N := 22) rfl ?_); (try (refine gate_guard (by rfl) ?_; dsimp only)); refine Kd.R_lit k37 _ 37 ?hg (N := 22) ?hd (xs := ([(⟨(-1), 0⟩ : S37)] : List (S37))) (inner := [.int .i64 (-1), .int .i64 0]) (ok := fun _ => True) (okp := fun _ => True) ?hr ?hp (fun _ hk => hk) trivial (Below.refl _ _) (Nat.le_refl _) (by simp) ?_; (case hd => rfl); (case hg => rfl); (case hr => first | (go_simp; done) | (go_simp; rfl)); (case hp => exact (Reps.c2 (show Kd.M k37 _ _ _ (⟨(-1), 0⟩ : S37) [.int .i64 (-1), .int .i64 0] from (k37_mkM _ _ _ (⟨(-1), 0⟩ : S37) )) (Reps.none _ _))); intro v192 w39 ho40 hb hg_ hnew_; clear hg_ hnew_; (first | rw [← Ny191.out] at ho40 | (simp only [Int.reduceToNat] at ho40; rw [← Ny191.out] at ho40)); have n0_ := Aside0.mk (Kd.R_below (by (with_reducible repeat (first | apply Kd.R_alloc | apply Kd.R_drewN | apply Kd.R_drew)); exact (Kd.R_mono (Kd.R_far (p := ⟨gb190, 1, none⟩) (Kd.R_far (p := ⟨gb190, 0, none⟩) (Kd.R_types HO172.out BK190.out (by decide)) (fun _ hk => hk.2) (.slice Ao34 t183.length co34)) (fun _ hk => hk.2) (.slice Ao37 t186.length co37)) (fun _ h_ => h_.1))) hb); have n1_ := Aside0.mk (Kd.R_below (by (with_reducible repeat (first | apply Kd.R_alloc | apply Kd.R_drewN | apply Kd.R_drew)); exact (Kd.R_mono (Kd.R_far (p := ⟨gb190, 1, none⟩) (Kd.R_far (p := ⟨gb190, 0, none⟩) (Kd.R_types HO175.out BK190.out (by decide)) (fun _ hk => hk.2) (.slice Ao34 t183.length co34)) (fun _ hk => hk.2) (.slice Ao37 t186.length co37)) (fun _ h_ => h_.1))) hb); have n2_ := Aside0.mk (Kd.N_elder' (by (with_reducible repeat (first | apply Kd.N_alloc | apply Kd.N_drewN | apply Kd.N_drew)); exact (Kd.N_mono (Kd.N_far (p := ⟨gb190, 1, none⟩) (Kd.N_far (p := ⟨gb190, 0, none⟩) (Kd.N_mono HO181.out (fun k_ hk => (⟨hk, hk.2⟩ : _ ∧ k_ ≠ gb190))) (fun _ hk => hk.2) (.slice Ao34 t183.length co34)) (fun _ hk => hk.2) (.slice Ao37 t186.length co37)) (fun _ h_ => h_.1))) (Kd.R_base ho40) hb); have n3_ := Aside0.mk (Kd.N_elder' (by (with_reducible repeat (first | apply Kd.N_alloc | apply Kd.N_drewN | apply Kd.N_drew)); exact (Kd.N_mono (Kd.N_far (p := ⟨gb190, 1, none⟩) (Kd.N_far (p := ⟨gb190, 0, none⟩) (Kd.N_mono HO185.out (fun k_ hk => (⟨hk, hk.2⟩ : _ ∧ k_ ≠ gb190))) (fun _ hk => hk.2) (.slice Ao34 t183.length co34)) (fun _ hk => hk.2) (.slice Ao37 t186.length co37)) (fun _ h_ => h_.1))) (Kd.R_base ho40) hb); have n4_ := Aside0.mk (Kd.N_elder' (by (with_reducible repeat (first | apply Kd.N_alloc | apply Kd.N_drewN | apply Kd.N_drew)); exact (Kd.N_mono (Kd.N_far (p := ⟨gb190, 1, none⟩) (Kd.N_far (p := ⟨gb190, 0, none⟩) (Kd.N_mono HO188.out (fun k_ hk => (⟨hk, hk.2⟩ : _ ∧ k_ ≠ gb190))) (fun _ hk => hk.2) (.slice Ao34 t183.length co34)) (fun _ hk => hk.2) (.slice Ao37 t186.length co37)) (fun _ h_ => h_.1))) (Kd.R_base ho40) hb); have n5_ := Aside0.mk (Kd.R_lower ho40 (below_size (by repeat (first | (with_reducible first | exact HB.out | apply below_alloc | apply pw_below_drewN | apply below_drew1 | refine below_set ?_ GE182.out | refine below_set ?_ GE190.out) | exact HB.out)))); have n6_ := Aside0.mk (blk_below (g := gb182) (o := .cells #[.slice Ao29 y170.length co29, .slice none 0 0, .slice Ao28 y173.length co28, .slice Ao27 y179.length co27, .int .i64 0] 27 (0, 0)) (by (with_reducible repeat (first | refine blk_drewN ?_ _ | refine blk_drew ?_ | refine blk_alloc ?_ _)); refine blk_far ?_ NB182_190.out _; (with_reducible repeat (first | refine blk_drewN ?_ _ | refine blk_drew ?_ | refine blk_alloc ?_ _)); refine blk_far ?_ NB182_190.out _; (with_reducible repeat (first | refine blk_drewN ?_ _ | refine blk_drew ?_ | refine blk_alloc ?_ _)); exact BK182.out) hb); have n7_ := Aside0.mk (blk_below (g := gb190) (o := .cells #[.slice Ao34 t183.length co34, .slice Ao37 t186.length co37] 49 (0, 0)) (by (with_reducible repeat (first | refine blk_drewN ?_ _ | refine blk_drew ?_ | refine blk_alloc ?_ _)); refine blk_put (cs := #[.slice Ao34 t183.length co34, .slice none 0 0]) ?_ 1 _ rfl; (with_reducible repeat (first | refine blk_drewN ?_ _ | refine blk_drew ?_ | refine blk_alloc ?_ _)); refine blk_put (cs := #[.slice none 0 0, .slice none 0 0]) ?_ 0 _ rfl; (with_reducible repeat (first | refine blk_drewN ?_ _ | refine blk_drew ?_ | refine blk_alloc ?_ _)); exact BK190.out) hb); have n8_ := Aside0.mk (below_step (by repeat (first | (with_reducible first | exact HB.out | apply below_alloc | apply pw_below_drewN | apply below_drew1 | refine below_set ?_ GE182.out | refine below_set ?_ GE190.out) | exact HB.out)) hb); clear HO172; clear HO175; clear HO181; clear HO185; clear HO188; clear BK182; clear BK190; clear HB; have HO172 := n0_; have HO175 := n1_; have HO181 := n2_; have HO185 := n3_; have HO188 := n4_; have HO193 := n5_; have BK182 := n6_; have BK190 := n7_; have HB := n8_; clear n0_ n1_ n2_ n3_ n4_ n5_ n6_ n7_ n8_; clear hb ho40; obtain ⟨Ao41, co41, eo41⟩ := Kd.R_slice HO193.out; subst eo41) | ((with_reducible refine gate_callee (f := 18) rfl ?_); refine goesL_ (some 23) rfl rfl Tryd.func18 (by kernel_rfl) rfl #[.agg #[.slice Ao29 y170.length co29, .slice none 0 0, .slice Ao28 y173.length co28, .slice Ao27 y179.length co27, .int .i64 0], .slice Ao41 y191.length co41] rfl (by (try simp only [List.map_toArray, List.map_cons, List.map_nil]); first | done | rfl | (simp only [List.length_drop, List.length_take]; rfl)) ?_; (refine (states_Close.calls _ _ y170 _ _ ([] : List (S101)) _ _ y173 _ _ y179 0 _ _ y191 t194 _ ?side1 ?side2 ?side3 ?side4 ?side5 ?side6 ?side7 ?side8 ?side9 ?side10 A2.out).mono ?_); (case side1 => repeat (first | exact (Kd.R_reads' HO172.out).2.2 | (with_reducible refine Kd.C_alloc ?_ _) | (with_reducible refine Kd.C_drewN ?_ _) | (with_reducible refine Kd.C_drew ?_))); (case side2 => exact (Kd.R_reads' HO172.out).2.1); (case side3 => exact Kd.C_nil _ _); (case side4 => exact Nat.le_refl _); (case side5 => repeat (first | exact (Kd.R_reads' HO175.out).2.2 | (with_reducible refine Kd.C_alloc ?_ _) | (with_reducible refine Kd.C_drewN ?_ _) | (with_reducible refine Kd.C_drew ?_))); (case side6 => exact (Kd.R_reads' HO175.out).2.1); (case side7 => repeat (first | exact (Kd.N_reads' HO181.out).2.2 | (with_reducible refine Kd.C_alloc ?_ _) | (with_reducible refine Kd.C_drewN ?_ _) | (with_reducible refine Kd.C_drew ?_))); (case side8 => exact (Kd.N_reads' HO181.out).2.1); (case side9 => repeat (first | exact (Kd.R_reads' HO193.out).2.2 | (with_reducible refine Kd.C_alloc ?_ _) | (with_reducible refine Kd.C_drewN ?_ _) | (with_reducible refine Kd.C_drew ?_))); (case side10 => exact (Kd.R_reads' HO193.out).2.1); rintro e w42 ⟨v195, rfl, ho0, hb⟩; refine ⟨_, rfl, ?_⟩; have n0_ := Aside0.mk (Kd.R_below (by (with_reducible repeat (first | apply Kd.R_alloc | apply Kd.R_drewN | apply Kd.R_drew)); exact HO172.out) hb); have n1_ := Aside0.mk (Kd.R_below (by (with_reducible repeat (first | apply Kd.R_alloc | apply Kd.R_drewN | apply Kd.R_drew)); exact HO175.out) hb); have n2_ := Aside0.mk (Kd.N_elder' (by (with_reducible repeat (first | apply Kd.N_alloc | apply Kd.N_drewN | apply Kd.N_drew)); exact HO181.out) (Kd.R_base ho0) hb); have n3_ := Aside0.mk (Kd.N_elder' (by (with_reducible repeat (first | apply Kd.N_alloc | apply Kd.N_drewN | apply Kd.N_drew)); exact HO185.out) (Kd.R_base ho0) hb); have n4_ := Aside0.mk (Kd.N_elder' (by (with_reducible repeat (first | apply Kd.N_alloc | apply Kd.N_drewN | apply Kd.N_drew)); exact HO188.out) (Kd.R_base ho0) hb); have n5_ := Aside0.mk (Kd.R_elder' (by (with_reducible repeat (first | apply Kd.R_alloc | apply Kd.R_drewN | apply Kd.R_drew)); exact HO193.out) (Kd.R_base ho0) hb); have n6_ := Aside0.mk (Kd.R_lower (Kd.R_new' ho0 (Kd.R_lt (by (with_reducible repeat (first | apply Kd.R_alloc | apply Kd.R_drewN | apply Kd.R_drew)); exact HO193.out))) (below_size (by repeat (first | (with_reducible first | exact HB.out | apply below_alloc | apply pw_below_drewN | apply below_drew1 | refine below_set ?_ GE182.out | refine below_set ?_ GE190.out) | exact HB.out)))); have n7_ := Aside0.mk (blk_below (g := gb182) (o := .cells #[.slice Ao29 y170.length co29, .slice none 0 0, .slice Ao28 y173.length co28, .slice Ao27 y179.length co27, .int .i64 0] 27 (0, 0)) (by (with_reducible repeat (first | refine blk_drewN ?_ _ | refine blk_drew ?_ | refine blk_alloc ?_ _)); exact BK182.out) hb); have n8_ := Aside0.mk (blk_below (g := gb190) (o := .cells #[.slice Ao34 t183.length co34, .slice Ao37 t186.length co37] 49 (0, 0)) (by (with_reducible repeat (first | refine blk_drewN ?_ _ | refine blk_drew ?_ | refine blk_alloc ?_ _)); exact BK190.out) hb); have n9_ := Aside0.mk (below_step (by repeat (first | (with_reducible first | exact HB.out | apply below_alloc | apply pw_below_drewN | apply below_drew1 | refine below_set ?_ GE182.out | refine below_set ?_ GE190.out) | exact HB.out)) hb); clear HO172; clear HO175; clear HO181; clear HO185; clear HO188; clear HO193; clear BK182; clear BK190; clear HB; have HO172 := n0_; have HO175 := n1_; have HO181 := n2_; have HO185 := n3_; have HO188 := n4_; have HO193 := n5_; have HO196 := n6_; have BK182 := n7_; have BK190 := n8_; have HB := n9_; clear n0_ n1_ n2_ n3_ n4_ n5_ n6_ n7_ n8_ n9_; (try clear hb); (try clear hb2); (try clear hk); (try clear hi); (try clear ho0); have hcz43_0 : w42.cell? ⟨gb182, 0, none⟩ = some (.slice Ao29 y170.length co29) := (blk_cell BK182.out 0).trans rfl; have hcz43_1 : w42.cell? ⟨gb182, 1, none⟩ = some (.slice none 0 0) := (blk_cell BK182.out 1).trans rfl; have hcz43_2 : w42.cell? ⟨gb182, 2, none⟩ = some (.slice Ao28 y173.length co28) := (blk_cell BK182.out 2).trans rfl; have hcz43_3 : w42.cell? ⟨gb182, 3, none⟩ = some (.slice Ao27 y179.length co27) := (blk_cell BK182.out 3).trans rfl; have hcz43_4 : w42.cell? ⟨gb182, 4, none⟩ = some (.int .i64 0) := (blk_cell BK182.out 4).trans rfl; have hfz43_0 := blk_frozen BK182.out 0; have hfz43_1 := blk_frozen BK182.out 1; have hfz43_2 := blk_frozen BK182.out 2; have hfz43_3 := blk_frozen BK182.out 3; have hfz43_4 := blk_frozen BK182.out 4; obtain ⟨Ao44, co44, eo44⟩ := Kd.R_slice HO196.out; subst eo44) | ((with_reducible refine gate_callee (f := 20) rfl ?_); refine goesL_ (some 26) rfl rfl Tryd.func20 (by kernel_rfl) rfl #[.agg #[.slice Ao29 y170.length co29, .slice none 0 0, .slice Ao28 y173.length co28, .slice Ao27 y179.length co27, .int .i64 0], .slice Ao44 t194.length co44, .int .i64 0] rfl (by (try simp only [List.map_toArray, List.map_cons, List.map_nil]); first | done | rfl | (simp only [List.length_drop, List.length_take]; rfl)) ?_; (refine (states_Step.calls _ _ y170 _ _ ([] : List (S101)) _ _ y173 _ _ y179 0 _ _ t194 0 t197 _ ?side1 ?side2 ?side3 ?side4 ?side5 ?side6 ?side7 ?side8 ?side9 ?side10 A3.out).mono ?_); (case side1 => repeat (first | exact (Kd.R_reads' HO172.out).2.2 | (with_reducible refine Kd.C_alloc ?_ _) | (with_reducible refine Kd.C_drewN ?_ _) | (with_reducible refine Kd.C_drew ?_))); (case side2 => exact (Kd.R_reads' HO172.out).2.1); (case side3 => exact Kd.C_nil _ _); (case side4 => exact Nat.le_refl _); (case side5 => repeat (first | exact (Kd.R_reads' HO175.out).2.2 | (with_reducible refine Kd.C_alloc ?_ _) | (with_reducible refine Kd.C_drewN ?_ _) | (with_reducible refine Kd.C_drew ?_))); (case side6 => exact (Kd.R_reads' HO175.out).2.1); (case side7 => repeat (first | exact (Kd.N_reads' HO181.out).2.2 | (with_reducible refine Kd.C_alloc ?_ _) | (with_reducible refine Kd.C_drewN ?_ _) | (with_reducible refine Kd.C_drew ?_))); (case side8 => exact (Kd.N_reads' HO181.out).2.1); (case side9 => repeat (first | exact (Kd.R_reads' HO196.out).2.2 | (with_reducible refine Kd.C_alloc ?_ _) | (with_reducible refine Kd.C_drewN ?_ _) | (with_reducible refine Kd.C_drew ?_))); (case side10 => exact (Kd.R_reads' HO196.out).2.1); rintro e w45 ⟨v198, rfl, ho0, hb⟩; refine ⟨_, rfl, ?_⟩; have n0_ := Aside0.mk (Kd.R_below (by (with_reducible repeat (first | apply Kd.R_alloc | apply Kd.R_drewN | apply Kd.R_drew)); exact HO172.out) hb); have n1_ := Aside0.mk (Kd.R_below (by (with_reducible repeat (first | apply Kd.R_alloc | apply Kd.R_drewN | apply Kd.R_drew)); exact HO175.out) hb); have n2_ := Aside0.mk (Kd.N_elder' (by (with_reducible repeat (first | apply Kd.N_alloc | apply Kd.N_drewN | apply Kd.N_drew)); exact HO181.out) (Kd.R_base ho0) hb); have n3_ := Aside0.mk (Kd.N_elder' (by (with_reducible repeat (first | apply Kd.N_alloc | apply Kd.N_drewN | apply Kd.N_drew)); exact HO185.out) (Kd.R_base ho0) hb); have n4_ := Aside0.mk (Kd.N_elder' (by (with_reducible repeat (first | apply Kd.N_alloc | apply Kd.N_drewN | apply Kd.N_drew)); exact HO188.out) (Kd.R_base ho0) hb); have n5_ := Aside0.mk (Kd.R_elder' (by (with_reducible repeat (first | apply Kd.R_alloc | apply Kd.R_drewN | apply Kd.R_drew)); exact HO193.out) (Kd.R_base ho0) hb); have n6_ := Aside0.mk (Kd.R_elder' (by (with_reducible repeat (first | apply Kd.R_alloc | apply Kd.R_drewN | apply Kd.R_drew)); exact HO196.out) (Kd.R_base ho0) hb); have n7_ := Aside0.mk (Kd.R_lower (Kd.R_new' (Kd.R_new' ho0 (Kd.R_lt (by (with_reducible repeat (first | apply Kd.R_alloc | apply Kd.R_drewN | apply Kd.R_drew)); exact HO193.out))) (Kd.R_lt (by (with_reducible repeat (first | apply Kd.R_alloc | apply Kd.R_drewN | apply Kd.R_drew)); exact HO196.out))) (below_size (by repeat (first | (with_reducible first | exact HB.out | apply below_alloc | apply pw_below_drewN | apply below_drew1 | refine below_set ?_ GE182.out | refine below_set ?_ GE190.out) | exact HB.out)))); have n8_ := Aside0.mk (blk_below (g := gb182) (o := .cells #[.slice Ao29 y170.length co29, .slice none 0 0, .slice Ao28 y173.length co28, .slice Ao27 y179.length co27, .int .i64 0] 27 (0, 0)) (by (with_reducible repeat (first | refine blk_drewN ?_ _ | refine blk_drew ?_ | refine blk_alloc ?_ _)); exact BK182.out) hb); have n9_ := Aside0.mk (blk_below (g := gb190) (o := .cells #[.slice Ao34 t183.length co34, .slice Ao37 t186.length co37] 49 (0, 0)) (by (with_reducible repeat (first | refine blk_drewN ?_ _ | refine blk_drew ?_ | refine blk_alloc ?_ _)); exact BK190.out) hb); have n10_ := Aside0.mk (below_step (by repeat (first | (with_reducible first | exact HB.out | apply below_alloc | apply pw_below_drewN | apply below_drew1 | refine below_set ?_ GE182.out | refine below_set ?_ GE190.out) | exact HB.out)) hb); clear HO172; clear HO175; clear HO181; clear HO185; clear HO188; clear HO193; clear HO196; clear BK182; clear BK190; clear HB; have HO172 := n0_; have HO175 := n1_; have HO181 := n2_; have HO185 := n3_; have HO188 := n4_; have HO193 := n5_; have HO196 := n6_; have HO199 := n7_; have BK182 := n8_; have BK190 := n9_; have HB := n10_; clear n0_ n1_ n2_ n3_ n4_ n5_ n6_ n7_ n8_ n9_ n10_; (try clear hb); (try clear hb2); (try clear hk); (try clear hi); (try clear ho0); have hcz46_0 : w45.cell? ⟨gb182, 0, none⟩ = some (.slice Ao29 y170.length co29) := (blk_cell BK182.out 0).trans rfl; have hcz46_1 : w45.cell? ⟨gb182, 1, none⟩ = some (.slice none 0 0) := (blk_cell BK182.out 1).trans rfl; have hcz46_2 : w45.cell? ⟨gb182, 2, none⟩ = some (.slice Ao28 y173.length co28) := (blk_cell BK182.out 2).trans rfl; have hcz46_3 : w45.cell? ⟨gb182, 3, none⟩ = some (.slice Ao27 y179.length co27) := (blk_cell BK182.out 3).trans rfl; have hcz46_4 : w45.cell? ⟨gb182, 4, none⟩ = some (.int .i64 0) := (blk_cell BK182.out 4).trans rfl; have hfz46_0 := blk_frozen BK182.out 0; have hfz46_1 := blk_frozen BK182.out 1; have hfz46_2 := blk_frozen BK182.out 2; have hfz46_3 := blk_frozen BK182.out 3; have hfz46_4 := blk_frozen BK182.out 4) | ((with_reducible refine gate_callee (f := 15) rfl ?_); refine goesL_ (some 30) rfl rfl Tryd.func15 (by kernel_rfl) rfl #[.agg #[.slice Ao29 y170.length co29, .slice none 0 0, .slice Ao28 y173.length co28, .slice Ao27 y179.length co27, .int .i64 0], .agg #[.int .i64 0, .int .i64 0]] rfl (by (try simp only [List.map_toArray, List.map_cons, List.map_nil]); first | done | rfl | (simp only [List.length_drop, List.length_take]; rfl)) ?_; (refine (states_Behind.calls _ _ y170 _ _ ([] : List (S101)) _ _ y173 _ _ y179 0 0 0 t200 true _ ?side1 ?side2 ?side3 ?side4 ?side5 ?side6 ?side7 ?side8 A4.out).mono ?_); (case side1 => repeat (first | exact (Kd.R_reads' HO172.out).2.2 | (with_reducible refine Kd.C_alloc ?_ _) | (with_reducible refine Kd.C_drewN ?_ _) | (with_reducible refine Kd.C_drew ?_))); (case side2 => exact (Kd.R_reads' HO172.out).2.1); (case side3 => exact Kd.C_nil _ _); (case side4 => exact Nat.le_refl _); (case side5 => repeat (first | exact (Kd.R_reads' HO175.out).2.2 | (with_reducible refine Kd.C_alloc ?_ _) | (with_reducible refine Kd.C_drewN ?_ _) | (with_reducible refine Kd.C_drew ?_))); (case side6 => exact (Kd.R_reads' HO175.out).2.1); (case side7 => repeat (first | exact (Kd.N_reads' HO181.out).2.2 | (with_reducible refine Kd.C_alloc ?_ _) | (with_reducible refine Kd.C_drewN ?_ _) | (with_reducible refine Kd.C_drew ?_))); (case side8 => exact (Kd.N_reads' HO181.out).2.1); rintro e w47 ⟨rfl, hb⟩; refine ⟨_, rfl, ?_⟩; have n0_ := Aside0.mk (Kd.R_below (by (with_reducible repeat (first | apply Kd.R_alloc | apply Kd.R_drewN | apply Kd.R_drew)); exact HO172.out) hb); have n1_ := Aside0.mk (Kd.R_below (by (with_reducible repeat (first | apply Kd.R_alloc | apply Kd.R_drewN | apply Kd.R_drew)); exact HO175.out) hb); have n2_ := Aside0.mk (Kd.N_below (by (with_reducible repeat (first | apply Kd.N_alloc | apply Kd.N_drewN | apply Kd.N_drew)); exact HO181.out) hb); have n3_ := Aside0.mk (Kd.N_below (by (with_reducible repeat (first | apply Kd.N_alloc | apply Kd.N_drewN | apply Kd.N_drew)); exact HO185.out) hb); have n4_ := Aside0.mk (Kd.N_below (by (with_reducible repeat (first | apply Kd.N_alloc | apply Kd.N_drewN | apply Kd.N_drew)); exact HO188.out) hb); have n5_ := Aside0.mk (Kd.R_below (by (with_reducible repeat (first | apply Kd.R_alloc | apply Kd.R_drewN | apply Kd.R_drew)); exact HO193.out) hb); have n6_ := Aside0.mk (Kd.R_below (by (with_reducible repeat (first | apply Kd.R_alloc | apply Kd.R_drewN | apply Kd.R_drew)); exact HO196.out) hb); have n7_ := Aside0.mk (Kd.R_below (by (with_reducible repeat (first | apply Kd.R_alloc | apply Kd.R_drewN | apply Kd.R_drew)); exact HO199.out) hb); have n8_ := Aside0.mk (blk_below (g := gb182) (o := .cells #[.slice Ao29 y170.length co29, .slice none 0 0, .slice Ao28 y173.length co28, .slice Ao27 y179.length co27, .int .i64 0] 27 (0, 0)) (by (with_reducible repeat (first | refine blk_drewN ?_ _ | refine blk_drew ?_ | refine blk_alloc ?_ _)); exact BK182.out) hb); have n9_ := Aside0.mk (blk_below (g := gb190) (o := .cells #[.slice Ao34 t183.length co34, .slice Ao37 t186.length co37] 49 (0, 0)) (by (with_reducible repeat (first | refine blk_drewN ?_ _ | refine blk_drew ?_ | refine blk_alloc ?_ _)); exact BK190.out) hb); have n10_ := Aside0.mk (below_step (by repeat (first | (with_reducible first | exact HB.out | apply below_alloc | apply pw_below_drewN | apply below_drew1 | refine below_set ?_ GE182.out | refine below_set ?_ GE190.out) | exact HB.out)) hb); clear HO172; clear HO175; clear HO181; clear HO185; clear HO188; clear HO193; clear HO196; clear HO199; clear BK182; clear BK190; clear HB; have HO172 := n0_; have HO175 := n1_; have HO181 := n2_; have HO185 := n3_; have HO188 := n4_; have HO193 := n5_; have HO196 := n6_; have HO199 := n7_; have BK182 := n8_; have BK190 := n9_; have HB := n10_; clear n0_ n1_ n2_ n3_ n4_ n5_ n6_ n7_ n8_ n9_ n10_; (try clear hb); (try clear hb2); (try clear hk); (try clear hi); have hcz48_0 : w47.cell? ⟨gb190, 0, none⟩ = some (.slice Ao34 t183.length co34) := (blk_cell BK190.out 0).trans rfl; have hcz48_1 : w47.cell? ⟨gb190, 1, none⟩ = some (.slice Ao37 t186.length co37) := (blk_cell BK190.out 1).trans rfl; have hfz48_0 := blk_frozen BK190.out 0; have hfz48_1 := blk_frozen BK190.out 1; obtain ⟨Ao49, co49, eo49⟩ := Kd.R_slice HO199.out; subst eo49; have p202 : 0 ≤ (0 : Int) := (by omega); have q202 : 0 < (t197.length : Int) := of_decide_eq_true (by first | (with_reducible assumption) | assumption); obtain ⟨ad202, e202, hx202_0, hx202_1⟩ := at_T37 (Kd.R_reads' HO199.out).2.2 0 p202 q202; cases e202; have qi202 : (0 < t197.length) = True := eq_true (by omega); (try rw [show ((0 : Int)).toNat = 0 from rfl] at hx202_0); (try rw [show 0 * 2 = 0 from rfl] at hx202_0); (try rw [Addr.add_zero'] at hx202_0); (try rw [show ((0 : Int)).toNat = 0 from rfl] at hx202_1); (try rw [show 0 * 2 = 0 from rfl] at hx202_1); (try rw [Addr.add_zero'] at hx202_1); replace p202 := eq_true p202; replace q202 := eq_true q202; have hcz50_0 : w47.cell? ⟨gb182, 0, none⟩ = some (.slice Ao29 y170.length co29) := (blk_cell BK182.out 0).trans rfl; have hcz50_1 : w47.cell? ⟨gb182, 1, none⟩ = some (.slice none 0 0) := (blk_cell BK182.out 1).trans rfl; have hcz50_2 : w47.cell? ⟨gb182, 2, none⟩ = some (.slice Ao28 y173.length co28) := (blk_cell BK182.out 2).trans rfl; have hcz50_3 : w47.cell? ⟨gb182, 3, none⟩ = some (.slice Ao27 y179.length co27) := (blk_cell BK182.out 3).trans rfl; have hcz50_4 : w47.cell? ⟨gb182, 4, none⟩ = some (.int .i64 0) := (blk_cell BK182.out 4).trans rfl; have hfz50_0 := blk_frozen BK182.out 0; have hfz50_1 := blk_frozen BK182.out 1; have hfz50_2 := blk_frozen BK182.out 2; have hfz50_3 := blk_frozen BK182.out 3; have hfz50_4 := blk_frozen BK182.out 4) | (go_at_call 25; (with_reducible show Calls _ _ #[_, _, .int .i64 0, .int .i64 0] _ _); (refine (states_Go.calls _ _ y170 _ _ ([] : List (S101)) _ _ y173 _ _ y179 0 _ _ t183 _ _ t186 0 0 t203 _ ?side1 ?side2 ?side3 ?side4 ?side5 ?side6 ?side7 ?side8 ?side9 ?side10 ?side11 ?side12 A13.out).mono ?_); (case side1 => repeat (first | exact (Kd.R_reads' HO172.out).2.2 | (with_reducible refine Kd.C_alloc ?_ _) | (with_reducible refine Kd.C_drewN ?_ _) | (with_reducible refine Kd.C_drew ?_))); (case side2 => exact (Kd.R_reads' HO172.out).2.1); (case side3 => exact Kd.C_nil _ _); (case side4 => exact Nat.le_refl _); (case side5 => repeat (first | exact (Kd.R_reads' HO175.out).2.2 | (with_reducible refine Kd.C_alloc ?_ _) | (with_reducible refine Kd.C_drewN ?_ _) | (with_reducible refine Kd.C_drew ?_))); (case side6 => exact (Kd.R_reads' HO175.out).2.1); (case side7 => repeat (first | exact (Kd.N_reads' HO181.out).2.2 | (with_reducible refine Kd.C_alloc ?_ _) | (with_reducible refine Kd.C_drewN ?_ _) | (with_reducible refine Kd.C_drew ?_))); (case side8 => exact (Kd.N_reads' HO181.out).2.1); (case side9 => repeat (first | exact (Kd.N_reads' HO185.out).2.2 | (with_reducible refine Kd.C_alloc ?_ _) | (with_reducible refine Kd.C_drewN ?_ _) | (with_reducible refine Kd.C_drew ?_))); (case side10 => exact (Kd.N_reads' HO185.out).2.1); (case side11 => repeat (first | exact (Kd.N_reads' HO188.out).2.2 | (with_reducible refine Kd.C_alloc ?_ _) | (with_reducible refine Kd.C_drewN ?_ _) | (with_reducible refine Kd.C_drew ?_))); (case side12 => exact (Kd.N_reads' HO188.out).2.1); rintro e w51 ⟨rfl, hb⟩; have n0_ := Aside0.mk (Kd.R_below (by (with_reducible repeat (first | apply Kd.R_alloc | apply Kd.R_drewN | apply Kd.R_drew)); exact HO172.out) hb); have n1_ := Aside0.mk (Kd.R_below (by (with_reducible repeat (first | apply Kd.R_alloc | apply Kd.R_drewN | apply Kd.R_drew)); exact HO175.out) hb); have n2_ := Aside0.mk (Kd.N_below (by (with_reducible repeat (first | apply Kd.N_alloc | apply Kd.N_drewN | apply Kd.N_drew)); exact HO181.out) hb); have n3_ := Aside0.mk (Kd.N_below (by (with_reducible repeat (first | apply Kd.N_alloc | apply Kd.N_drewN | apply Kd.N_drew)); exact HO185.out) hb); have n4_ := Aside0.mk (Kd.N_below (by (with_reducible repeat (first | apply Kd.N_alloc | apply Kd.N_drewN | apply Kd.N_drew)); exact HO188.out) hb); have n5_ := Aside0.mk (Kd.R_below (by (with_reducible repeat (first | apply Kd.R_alloc | apply Kd.R_drewN | apply Kd.R_drew)); exact HO193.out) hb); have n6_ := Aside0.mk (Kd.R_below (by (with_reducible repeat (first | apply Kd.R_alloc | apply Kd.R_drewN | apply Kd.R_drew)); exact HO196.out) hb); have n7_ := Aside0.mk (Kd.R_below (by (with_reducible repeat (first | apply Kd.R_alloc | apply Kd.R_drewN | apply Kd.R_drew)); exact HO199.out) hb); have n8_ := Aside0.mk (blk_below (g := gb182) (o := .cells #[.slice Ao29 y170.length co29, .slice none 0 0, .slice Ao28 y173.length co28, .slice Ao27 y179.length co27, .int .i64 0] 27 (0, 0)) (by (with_reducible repeat (first | refine blk_drewN ?_ _ | refine blk_drew ?_ | refine blk_alloc ?_ _)); exact BK182.out) hb); have n9_ := Aside0.mk (blk_below (g := gb190) (o := .cells #[.slice Ao34 t183.length co34, .slice Ao37 t186.length co37] 49 (0, 0)) (by (with_reducible repeat (first | refine blk_drewN ?_ _ | refine blk_drew ?_ | refine blk_alloc ?_ _)); exact BK190.out) hb); have n10_ := Aside0.mk (below_step (by repeat (first | (with_reducible first | exact HB.out | apply below_alloc | apply pw_below_drewN | apply below_drew1 | refine below_set ?_ GE182.out | refine below_set ?_ GE190.out) | exact HB.out)) hb); clear HO172; clear HO175; clear HO181; clear HO185; clear HO188; clear HO193; clear HO196; clear HO199; clear BK182; clear BK190; clear HB; have HO172 := n0_; have HO175 := n1_; have HO181 := n2_; have HO185 := n3_; have HO188 := n4_; have HO193 := n5_; have HO196 := n6_; have HO199 := n7_; have BK182 := n8_; have BK190 := n9_; have HB := n10_; clear n0_ n1_ n2_ n3_ n4_ n5_ n6_ n7_ n8_ n9_ n10_; (try clear hb); (try clear hb2); (try clear hk); (try clear hi); have hcz52_0 : w51.cell? ⟨gb182, 0, none⟩ = some (.slice Ao29 y170.length co29) := (blk_cell BK182.out 0).trans rfl; have hcz52_1 : w51.cell? ⟨gb182, 1, none⟩ = some (.slice none 0 0) := (blk_cell BK182.out 1).trans rfl; have hcz52_2 : w51.cell? ⟨gb182, 2, none⟩ = some (.slice Ao28 y173.length co28) := (blk_cell BK182.out 2).trans rfl; have hcz52_3 : w51.cell? ⟨gb182, 3, none⟩ = some (.slice Ao27 y179.length co27) := (blk_cell BK182.out 3).trans rfl; have hcz52_4 : w51.cell? ⟨gb182, 4, none⟩ = some (.int .i64 0) := (blk_cell BK182.out 4).trans rfl; have hfz52_0 := blk_frozen BK182.out 0; have hfz52_1 := blk_frozen BK182.out 1; have hfz52_2 := blk_frozen BK182.out 2; have hfz52_3 := blk_frozen BK182.out 3; have hfz52_4 := blk_frozen BK182.out 4; have hcz53_0 : w51.cell? ⟨gb190, 0, none⟩ = some (.slice Ao34 t183.length co34) := (blk_cell BK190.out 0).trans rfl; have hcz53_1 : w51.cell? ⟨gb190, 1, none⟩ = some (.slice Ao37 t186.length co37) := (blk_cell BK190.out 1).trans rfl; have hfz53_0 := blk_frozen BK190.out 0; have hfz53_1 := blk_frozen BK190.out 1) | (go_at_call 25; (with_reducible show Calls _ _ #[_, _, .int .i64 0, .int .i64 (-1)] _ _); (refine (states_Go.calls _ _ y170 _ _ ([] : List (S101)) _ _ y173 _ _ y179 0 _ _ t183 _ _ t186 0 (-1) t204 _ ?side1 ?side2 ?side3 ?side4 ?side5 ?side6 ?side7 ?side8 ?side9 ?side10 ?side11 ?side12 A15.out).mono ?_); (case side1 => repeat (first | exact (Kd.R_reads' HO172.out).2.2 | (with_reducible refine Kd.C_alloc ?_ _) | (with_reducible refine Kd.C_drewN ?_ _) | (with_reducible refine Kd.C_drew ?_))); (case side2 => exact (Kd.R_reads' HO172.out).2.1); (case side3 => exact Kd.C_nil _ _); (case side4 => exact Nat.le_refl _); (case side5 => repeat (first | exact (Kd.R_reads' HO175.out).2.2 | (with_reducible refine Kd.C_alloc ?_ _) | (with_reducible refine Kd.C_drewN ?_ _) | (with_reducible refine Kd.C_drew ?_))); (case side6 => exact (Kd.R_reads' HO175.out).2.1); (case side7 => repeat (first | exact (Kd.N_reads' HO181.out).2.2 | (with_reducible refine Kd.C_alloc ?_ _) | (with_reducible refine Kd.C_drewN ?_ _) | (with_reducible refine Kd.C_drew ?_))); (case side8 => exact (Kd.N_reads' HO181.out).2.1); (case side9 => repeat (first | exact (Kd.N_reads' HO185.out).2.2 | (with_reducible refine Kd.C_alloc ?_ _) | (with_reducible refine Kd.C_drewN ?_ _) | (with_reducible refine Kd.C_drew ?_))); (case side10 => exact (Kd.N_reads' HO185.out).2.1); (case side11 => repeat (first | exact (Kd.N_reads' HO188.out).2.2 | (with_reducible refine Kd.C_alloc ?_ _) | (with_reducible refine Kd.C_drewN ?_ _) | (with_reducible refine Kd.C_drew ?_))); (case side12 => exact (Kd.N_reads' HO188.out).2.1); rintro e w54 ⟨rfl, hb⟩; have n0_ := Aside0.mk (Kd.R_below (by (with_reducible repeat (first | apply Kd.R_alloc | apply Kd.R_drewN | apply Kd.R_drew)); exact HO172.out) hb); have n1_ := Aside0.mk (Kd.R_below (by (with_reducible repeat (first | apply Kd.R_alloc | apply Kd.R_drewN | apply Kd.R_drew)); exact HO175.out) hb); have n2_ := Aside0.mk (Kd.N_below (by (with_reducible repeat (first | apply Kd.N_alloc | apply Kd.N_drewN | apply Kd.N_drew)); exact HO181.out) hb); have n3_ := Aside0.mk (Kd.N_below (by (with_reducible repeat (first | apply Kd.N_alloc | apply Kd.N_drewN | apply Kd.N_drew)); exact HO185.out) hb); have n4_ := Aside0.mk (Kd.N_below (by (with_reducible repeat (first | apply Kd.N_alloc | apply Kd.N_drewN | apply Kd.N_drew)); exact HO188.out) hb); have n5_ := Aside0.mk (Kd.R_below (by (with_reducible repeat (first | apply Kd.R_alloc | apply Kd.R_drewN | apply Kd.R_drew)); exact HO193.out) hb); have n6_ := Aside0.mk (Kd.R_below (by (with_reducible repeat (first | apply Kd.R_alloc | apply Kd.R_drewN | apply Kd.R_drew)); exact HO196.out) hb); have n7_ := Aside0.mk (Kd.R_below (by (with_reducible repeat (first | apply Kd.R_alloc | apply Kd.R_drewN | apply Kd.R_drew)); exact HO199.out) hb); have n8_ := Aside0.mk (blk_below (g := gb182) (o := .cells #[.slice Ao29 y170.length co29, .slice none 0 0, .slice Ao28 y173.length co28, .slice Ao27 y179.length co27, .int .i64 0] 27 (0, 0)) (by (with_reducible repeat (first | refine blk_drewN ?_ _ | refine blk_drew ?_ | refine blk_alloc ?_ _)); exact BK182.out) hb); have n9_ := Aside0.mk (blk_below (g := gb190) (o := .cells #[.slice Ao34 t183.length co34, .slice Ao37 t186.length co37] 49 (0, 0)) (by (with_reducible repeat (first | refine blk_drewN ?_ _ | refine blk_drew ?_ | refine blk_alloc ?_ _)); exact BK190.out) hb); have n10_ := Aside0.mk (below_step (by repeat (first | (with_reducible first | exact HB.out | apply below_alloc | apply pw_below_drewN | apply below_drew1 | refine below_set ?_ GE182.out | refine below_set ?_ GE190.out) | exact HB.out)) hb); clear HO172; clear HO175; clear HO181; clear HO185; clear HO188; clear HO193; clear HO196; clear HO199; clear BK182; clear BK190; clear HB; have HO172 := n0_; have HO175 := n1_; have HO181 := n2_; have HO185 := n3_; have HO188 := n4_; have HO193 := n5_; have HO196 := n6_; have HO199 := n7_; have BK182 := n8_; have BK190 := n9_; have HB := n10_; clear n0_ n1_ n2_ n3_ n4_ n5_ n6_ n7_ n8_ n9_ n10_; (try clear hb); (try clear hb2); (try clear hk); (try clear hi); have hcz55_0 : w54.cell? ⟨gb182, 0, none⟩ = some (.slice Ao29 y170.length co29) := (blk_cell BK182.out 0).trans rfl; have hcz55_1 : w54.cell? ⟨gb182, 1, none⟩ = some (.slice none 0 0) := (blk_cell BK182.out 1).trans rfl; have hcz55_2 : w54.cell? ⟨gb182, 2, none⟩ = some (.slice Ao28 y173.length co28) := (blk_cell BK182.out 2).trans rfl; have hcz55_3 : w54.cell? ⟨gb182, 3, none⟩ = some (.slice Ao27 y179.length co27) := (blk_cell BK182.out 3).trans rfl; have hcz55_4 : w54.cell? ⟨gb182, 4, none⟩ = some (.int .i64 0) := (blk_cell BK182.out 4).trans rfl; have hfz55_0 := blk_frozen BK182.out 0; have hfz55_1 := blk_frozen BK182.out 1; have hfz55_2 := blk_frozen BK182.out 2; have hfz55_3 := blk_frozen BK182.out 3; have hfz55_4 := blk_frozen BK182.out 4; have hcz56_0 : w54.cell? ⟨gb190, 0, none⟩ = some (.slice Ao34 t183.length co34) := (blk_cell BK190.out 0).trans rfl; have hcz56_1 : w54.cell? ⟨gb190, 1, none⟩ = some (.slice Ao37 t186.length co37) := (blk_cell BK190.out 1).trans rfl; have hfz56_0 := blk_frozen BK190.out 0; have hfz56_1 := blk_frozen BK190.out 1) | (go_at_call 25; (with_reducible show Calls _ _ #[_, _, .int .i64 1, .int .i64 0] _ _); (refine (states_Go.calls _ _ y170 _ _ ([] : List (S101)) _ _ y173 _ _ y179 0 _ _ t183 _ _ t186 1 0 t205 _ ?side1 ?side2 ?side3 ?side4 ?side5 ?side6 ?side7 ?side8 ?side9 ?side10 ?side11 ?side12 A17.out).mono ?_); (case side1 => repeat (first | exact (Kd.R_reads' HO172.out).2.2 | (with_reducible refine Kd.C_alloc ?_ _) | (with_reducible refine Kd.C_drewN ?_ _) | (with_reducible refine Kd.C_drew ?_))); (case side2 => exact (Kd.R_reads' HO172.out).2.1); (case side3 => exact Kd.C_nil _ _); (case side4 => exact Nat.le_refl _); (case side5 => repeat (first | exact (Kd.R_reads' HO175.out).2.2 | (with_reducible refine Kd.C_alloc ?_ _) | (with_reducible refine Kd.C_drewN ?_ _) | (with_reducible refine Kd.C_drew ?_))); (case side6 => exact (Kd.R_reads' HO175.out).2.1); (case side7 => repeat (first | exact (Kd.N_reads' HO181.out).2.2 | (with_reducible refine Kd.C_alloc ?_ _) | (with_reducible refine Kd.C_drewN ?_ _) | (with_reducible refine Kd.C_drew ?_))); (case side8 => exact (Kd.N_reads' HO181.out).2.1); (case side9 => repeat (first | exact (Kd.N_reads' HO185.out).2.2 | (with_reducible refine Kd.C_alloc ?_ _) | (with_reducible refine Kd.C_drewN ?_ _) | (with_reducible refine Kd.C_drew ?_))); (case side10 => exact (Kd.N_reads' HO185.out).2.1); (case side11 => repeat (first | exact (Kd.N_reads' HO188.out).2.2 | (with_reducible refine Kd.C_alloc ?_ _) | (with_reducible refine Kd.C_drewN ?_ _) | (with_reducible refine Kd.C_drew ?_))); (case side12 => exact (Kd.N_reads' HO188.out).2.1); rintro e w57 ⟨rfl, hb⟩; have n0_ := Aside0.mk (Kd.R_below (by (with_reducible repeat (first | apply Kd.R_alloc | apply Kd.R_drewN | apply Kd.R_drew)); exact HO172.out) hb); have n1_ := Aside0.mk (Kd.R_below (by (with_reducible repeat (first | apply Kd.R_alloc | apply Kd.R_drewN | apply Kd.R_drew)); exact HO175.out) hb); have n2_ := Aside0.mk (Kd.N_below (by (with_reducible repeat (first | apply Kd.N_alloc | apply Kd.N_drewN | apply Kd.N_drew)); exact HO181.out) hb); have n3_ := Aside0.mk (Kd.N_below (by (with_reducible repeat (first | apply Kd.N_alloc | apply Kd.N_drewN | apply Kd.N_drew)); exact HO185.out) hb); have n4_ := Aside0.mk (Kd.N_below (by (with_reducible repeat (first | apply Kd.N_alloc | apply Kd.N_drewN | apply Kd.N_drew)); exact HO188.out) hb); have n5_ := Aside0.mk (Kd.R_below (by (with_reducible repeat (first | apply Kd.R_alloc | apply Kd.R_drewN | apply Kd.R_drew)); exact HO193.out) hb); have n6_ := Aside0.mk (Kd.R_below (by (with_reducible repeat (first | apply Kd.R_alloc | apply Kd.R_drewN | apply Kd.R_drew)); exact HO196.out) hb); have n7_ := Aside0.mk (Kd.R_below (by (with_reducible repeat (first | apply Kd.R_alloc | apply Kd.R_drewN | apply Kd.R_drew)); exact HO199.out) hb); have n8_ := Aside0.mk (blk_below (g := gb182) (o := .cells #[.slice Ao29 y170.length co29, .slice none 0 0, .slice Ao28 y173.length co28, .slice Ao27 y179.length co27, .int .i64 0] 27 (0, 0)) (by (with_reducible repeat (first | refine blk_drewN ?_ _ | refine blk_drew ?_ | refine blk_alloc ?_ _)); exact BK182.out) hb); have n9_ := Aside0.mk (blk_below (g := gb190) (o := .cells #[.slice Ao34 t183.length co34, .slice Ao37 t186.length co37] 49 (0, 0)) (by (with_reducible repeat (first | refine blk_drewN ?_ _ | refine blk_drew ?_ | refine blk_alloc ?_ _)); exact BK190.out) hb); have n10_ := Aside0.mk (below_step (by repeat (first | (with_reducible first | exact HB.out | apply below_alloc | apply pw_below_drewN | apply below_drew1 | refine below_set ?_ GE182.out | refine below_set ?_ GE190.out) | exact HB.out)) hb); clear HO172; clear HO175; clear HO181; clear HO185; clear HO188; clear HO193; clear HO196; clear HO199; clear BK182; clear BK190; clear HB; have HO172 := n0_; have HO175 := n1_; have HO181 := n2_; have HO185 := n3_; have HO188 := n4_; have HO193 := n5_; have HO196 := n6_; have HO199 := n7_; have BK182 := n8_; have BK190 := n9_; have HB := n10_; clear n0_ n1_ n2_ n3_ n4_ n5_ n6_ n7_ n8_ n9_ n10_; (try clear hb); (try clear hb2); (try clear hk); (try clear hi)))
           go_ret
           exact ⟨by first | rfl | (simp [errW_none, errW_some] <;> rfl) | (simp [*, errW_none, errW_some] <;> rfl), by repeat (first | (with_reducible first | exact HB.out | apply below_alloc | apply pw_below_drewN | apply below_drew1 | refine below_set ?_ GE182.out | refine below_set ?_ GE190.out) | exact HB.out)⟩
          ·rw [if_neg c16] at H
           have c16b0 : (t204 == 2) = false := beq_eq_false_iff_ne.mpr c16
           have c16b1 : (t204 != 2) = true := bne_iff_ne.mpr c16
           exact absurd ((Option.some.inj H).trans HT.out) (by decide)
         ·rw [if_neg c14] at H
          have c14b0 : (t203 == 1) = false := beq_eq_false_iff_ne.mpr c14
          have c14b1 : (t203 != 1) = true := bne_iff_ne.mpr c14
          exact absurd ((Option.some.inj H).trans HT.out) (by decide)
        ·rw [if_neg c12] at H
         have c12b0 : (t200 == 0) = false := beq_eq_false_iff_ne.mpr c12
         have c12b1 : (t200 != 0) = true := bne_iff_ne.mpr c12
         exact absurd ((Option.some.inj H).trans HT.out) (by decide)
       ·replace c11 := Bool.eq_false_iff.mpr c11
        subst c11
        have H1 : (some false) = some r := by rw [if_neg (show ¬ (false = true) by decide)] at H; exact H
        clear H
        have H := H1
        clear H1
        exact absurd ((Option.some.inj H).trans HT.out) (by decide)
      ·rw [if_neg c10] at H
       have c10b0 : (((rd_T37 t197 0).f0) == 0 && (((rd_T37 t197 0).f1) == 1)) = false := by simpa using c10
       (try (have c10b1 : decide (((rd_T37 t197 0).f0) = 0 && (((rd_T37 t197 0).f1) == 1)) = false := by simpa using c10))
       (try (have c10b2 : (((rd_T37 t197 0).f0) == 0 && (((rd_T37 t197 0).f1) == 1)) = false := by simpa using c10))
       (try (have c10b3 : ¬ (((rd_T37 t197 0).f0) = 0 && (((rd_T37 t197 0).f1) == 1)) := by simpa using c10))
       clear c10
       exact absurd ((Option.some.inj H).trans HT.out) (by decide)
     ·rw [if_neg c9] at H
      exact absurd H (by simp)
    ·rw [if_neg c8] at H
     have c8b0 : ((t197.length : Int) == 1) = false := beq_eq_false_iff_ne.mpr c8
     have c8b1 : ((t197.length : Int) != 1) = true := bne_iff_ne.mpr c8
     exact absurd ((Option.some.inj H).trans HT.out) (by decide)
   ·rw [if_neg c7] at H
    have c7b0 : ((t194.length : Int) == 2) = false := beq_eq_false_iff_ne.mpr c7
    have c7b1 : ((t194.length : Int) != 2) = true := bne_iff_ne.mpr c7
    exact absurd ((Option.some.inj H).trans HT.out) (by decide)
  ·rw [if_neg c6] at H
   have c6b0 : ((t183.length : Int) == 3) = false := beq_eq_false_iff_ne.mpr c6
   have c6b1 : ((t183.length : Int) != 3) = true := bne_iff_ne.mpr c6
   exact absurd ((Option.some.inj H).trans HT.out) (by decide)
 ·rw [if_neg c5] at H
  have c5b0 : (t189 == 0) = false := beq_eq_false_iff_ne.mpr c5
  have c5b1 : (t189 != 0) = true := bne_iff_ne.mpr c5
  exact absurd ((Option.some.inj H).trans HT.out) (by decide)

end Go.Proofs.YtclollnicbcooaaDoor.P
end

section
namespace Go.Proofs.YtclollnicbcooaaDoor.P
open Go.RowKit Go.Proofs.YtclollnicbcooaaDoorW.PrintWords Go.Proofs.YtclollnicbcooaaDoorW.PrintLast Go.Proofs.YtclollnicbcooaaDoorW.PrintMore
attribute [local go_sem] max2_int min2_int max_two min_two max_three min_three max_four min_four   -- for this text's walks alone
set_option linter.unusedVariables false
set_option linter.unusedSimpArgs false

/-! ### syntagmlaw14_Row: function 14 -/
def syntagmlaw14_Row.l0 : Nat → List (S37) → List (S39) → Int → Option ((List (S39)))
 | 0, _, _, _ => none
 | k + 1, x0, x3, x4 => if x4 < (x0.length : Int) then (if 0 ≤ x4 then (if x3.length < 8796093022208 then (syntagmlaw14_Row.l0 k x0 (x3 ++ [(⟨(rd_T37 x0 x4).f0, (rd_T37 x0 x4).f1⟩ : S39)]) (wrap64 (x4 + 1))) else (none)) else (none)) else (some x3)
def syntagmlaw14_Row.f (k : Nat) (l0 : List (S37)) : Option ((List (S39))) := syntagmlaw14_Row.l0 k l0 ([] : List (S39)) 0
def syntagmlaw14_Row.T5 : Bool × List (List Nat × List Nat) := (true, [([], []), ([], []), ([], []), ([1, 2], [1, 2]), ([3], [3]), ([4], [4]), ([], []), ([], []), ([6, 7], [6, 7]), ([8], [8]), ([9], [9]), ([5, 10], [5, 10]), ([11], [11]), ([0, 12], [0, 12]), ([13, 13, 0, 1, 2, 3, 4, 5, 6, 7, 8, 9, 10, 11, 12, 13], [0, 13])])
def syntagmlaw14_Row.B5 : List Nat := [0, 0, 0, 6, 14, 30, 0, 0, 192, 448, 960, 2046, 4094, 8191, 16383]
theorem syntagmlaw14_Row.tab5 : rtab .any (opsOf Tryd.f14 5) = syntagmlaw14_Row.T5 := by kernel_rfl
theorem syntagmlaw14_Row.bits5 : waitsOk syntagmlaw14_Row.T5.2 syntagmlaw14_Row.B5 = true := by kernel_rfl
set_option maxHeartbeats 8000000 in
set_option maxRecDepth 100000 in
theorem syntagmlaw14_Row.calls (k : Nat) (A0 : Option Addr) (c0 : Nat) (l0 : List (S37)) (r : List (S39)) (w : World) (hr0 : Kd.C k37 w A0 l0.length l0) (hc0 : l0.length ≤ c0) (h : syntagmlaw14_Row.f k l0 = some r) :
  Calls Tryd.prog 14 #[.slice A0 l0.length c0] w fun e w' => ∃ v0_ : Value, e = .returned (v0_) ∧ Kd.R k39 39 w' w.heap.size (fun _ => True) v0_ r ∧ Below w.heap.size w w' := by
 have hu39 := Tryd.underlying39
 have HR0 := Aside0.mk hr0
 have HC0 := Aside0.mk hc0
 clear hr0 hc0
 have HB := Aside0.mk (Below.refl w.heap.size w)
 have H : (syntagmlaw14_Row.l0 k l0 ([] : List (S39)) 0) = some r := h
 clear h
 have H' := Aside0.mk H
 clear H
 go_enter Tryd.func14, Tryd.ntmps14
 go_wp2
 go_loopg [3, 4] k (fun kq v3 v4 w' => ∃ (x3_1 : List (S39)) (x4_1 : Int), v4 = .int .i64 x4_1 ∧ Aside0 (syntagmlaw14_Row.l0 kq l0 x3_1 x4_1 = some r) ∧ Aside0 (kq ≤ k) ∧ Aside0 (Kd.R k39 39 w' w.heap.size (fun _ => True) v3 x3_1) ∧ Aside0 (Below w.heap.size w w'))
 case atStart => exact ⟨(([] : List (S39))), (0), (by first | rfl | (simp; done) | (simp [*]; done)), H', ⟨Nat.le_refl _⟩, ⟨by first | exact Kd.R_nil _ _ _ _ _ | exact Kd.N_nil _ _ _ _ _ | exact Kd.V_nil _ _ _ _ _ | exact Kd.Q_nil _ _ _ _ _ | exact Kd.S_nil _ _ _ _ _⟩, ⟨by repeat (first | (with_reducible first | exact HB.out | apply below_alloc | apply pw_below_drewN | apply below_drew1) | exact HB.out)⟩⟩
 case round =>
  clear H'
  try clear c1
  obtain ⟨x3_1, x4_1, rfl, HA, HK1, HO_3, HB⟩ := hrel
  cases gk with
  | zero => exact absurd HA.out (by simp [syntagmlaw14_Row.l0])
  | succ k1 =>
   have H := HA.out
   clear HA
   simp only [syntagmlaw14_Row.l0] at H
   by_cases c2 : x4_1 < (l0.length : Int)
   ·rw [if_pos c2] at H
    have c2b0 : decide (x4_1 < (l0.length : Int)) = true := decide_eq_true c2
    clear c2
    by_cases c3 : 0 ≤ x4_1
    ·rw [if_pos c3] at H
     have c3b0 : decide (0 ≤ x4_1) = true := decide_eq_true c3
     clear c3
     by_cases c4 : x3_1.length < 8796093022208
     ·rw [if_pos c4] at H
      have LMc4 := Aside0.mk c4
      clear c4
      obtain ⟨y210, hy210⟩ : ∃ y_ : List (S39), y_ = (x3_1 ++ [(⟨(rd_T37 l0 x4_1).f0, (rd_T37 l0 x4_1).f1⟩ : S39)]) := ⟨_, rfl⟩
      replace H : (syntagmlaw14_Row.l0 k1 l0 y210 (wrap64 (x4_1 + 1))) = some r := by first | (rw [hy210]; with_reducible exact H) | (have H2_ := (Option.bind_some _ _).symm.trans H; rw [hy210]; with_reducible exact H2_) | (have H2_ := (Option.bind_some _ _).symm.trans H; with_reducible exact H2_) | with_reducible exact H | (rw [hy210]; exact H) | exact H
      have Ny210 := Aside0.mk hy210
      clear hy210
      have H' := Aside0.mk H
      clear H
      try go_wp2
      have n0_ := Aside0.mk (Kd.R_drew HO_3.out)
      have n1_ := Aside0.mk (below_drew1 HB.out)
      clear HO_3
      clear HB
      have HO_3 := n0_
      have HB := n1_
      clear n0_ n1_
      have p208 : 0 ≤ (x4_1 : Int) := of_decide_eq_true (by first | (with_reducible assumption) | assumption)
      have q208 : x4_1 < (l0.length : Int) := of_decide_eq_true (by first | (with_reducible assumption) | assumption)
      obtain ⟨ad208, e208, hx208_0, hx208_1⟩ := at_T37 HR0.out x4_1 p208 q208
      have hw208_1 := hx208_1
      have hw208_0 := hx208_0
      cases e208
      replace hx208_0 := (HB.out.cell (World.block_lt_of_cell? w _ hx208_0)).trans hx208_0
      replace hx208_1 := (HB.out.cell (World.block_lt_of_cell? w _ hx208_1)).trans hx208_1
      replace p208 := eq_true p208
      replace q208 := eq_true q208
      have p209 : 0 ≤ (x4_1 : Int) := of_decide_eq_true (by first | (with_reducible assumption) | assumption)
      have q209 : x4_1 < (l0.length : Int) := of_decide_eq_true (by first | (with_reducible assumption) | assumption)
      obtain ⟨ad209, e209, hx209_0, hx209_1⟩ := at_T37 HR0.out x4_1 p209 q209
      have hw209_1 := hx209_1
      have hw209_0 := hx209_0
      obtain rfl : ad208 = ad209 := (by injection e209)
      replace hx209_0 := (HB.out.cell (World.block_lt_of_cell? w _ hx209_0)).trans hx209_0
      replace hx209_1 := (HB.out.cell (World.block_lt_of_cell? w _ hx209_1)).trans hx209_1
      replace p209 := eq_true p209
      replace q209 := eq_true q209
      refine start_ (n := 15) (S := fun w' => w'.cell? (ad208.add ((x4_1).toNat * 2)) = some (.int .i64 ((rd_T37 l0 x4_1).f0)) ∧ w'.cell? ⟨(ad208.add ((x4_1).toNat * 2)).block, (ad208.add ((x4_1).toNat * 2)).off + 1, none⟩ = some (.int .i64 ((rd_T37 l0 x4_1).f1)) ∧ w'.cell? (ad208.add ((x4_1).toNat * 2)) = some (.int .i64 ((rd_T37 l0 x4_1).f0)) ∧ w'.cell? ⟨(ad208.add ((x4_1).toNat * 2)).block, (ad208.add ((x4_1).toNat * 2)).off + 1, none⟩ = some (.int .i64 ((rd_T37 l0 x4_1).f1))) (ds := []) #[false, false, false, false, false, false, false, false, false, false, false, false, false, false, false] (by kernel_rfl) rfl rfl ⟨((HB.out.cell (World.block_lt_of_cell? w _ hw208_0)).trans hw208_0), ((HB.out.cell (World.block_lt_of_cell? w _ hw208_1)).trans hw208_1), ((HB.out.cell (World.block_lt_of_cell? w _ hw209_0)).trans hw209_0), ((HB.out.cell (World.block_lt_of_cell? w _ hw209_1)).trans hw209_1)⟩ (fun hHeld => ?_); refine with_tabW syntagmlaw14_Row.tab5 syntagmlaw14_Row.bits5 (fun HT_ HW_ => ?_)
      generalize wr.drew = w5 at HO_3 HB hx208_0 hx208_1 hx209_0 hx209_1 hHeld ⊢
      refine pure_ (i := 0) (N := some 11) (v := ?_) (a' := ?_) #[true, false, false, false, false, false, false, false, false, false, false, false, false, false, false] rfl rfl (any_of HT_.out (by kernel_rfl)) (fun _ _ _ h => h) (Or.inl ⟨by rfl, ?_⟩) ?_ ?_
      rotate_left
      ·intro w'
       go_simp
       with_reducible rfl
      rotate_left
      ·simp only [Act.put, List.setIfInBounds_toArray, List.set_cons_zero, List.set_cons_succ, i64_w, i32_w]
       rfl
      refine pure_ (i := 1) (N := some 12) (v := ?_) (a' := ?_) #[true, true, false, false, false, false, false, false, false, false, false, false, false, false, false] rfl rfl (any_of HT_.out (by kernel_rfl)) (fun _ _ _ h => h) (Or.inl ⟨by rfl, ?_⟩) ?_ ?_
      rotate_left
      ·intro w'
       go_simp
       with_reducible rfl
      rotate_left
      ·simp only [Act.put, List.setIfInBounds_toArray, List.set_cons_zero, List.set_cons_succ, i64_w, i32_w]
       rfl
      refine pure_ (i := 2) (N := some 13) (v := ?_) (a' := ?_) #[true, true, true, false, false, false, false, false, false, false, false, false, false, false, false] rfl rfl (any_of HT_.out (by kernel_rfl)) (fun _ _ _ h => h) (Or.inl ⟨by rfl, ?_⟩) ?_ ?_
      rotate_left
      ·intro w'
       go_simp
       with_reducible rfl
      rotate_left
      ·simp only [Act.put, List.setIfInBounds_toArray, List.set_cons_zero, List.set_cons_succ, i64_w, i32_w]
       rfl
      refine pure_ (i := 3) (N := some 14) (v := ?_) (a' := ?_) #[true, true, true, true, false, false, false, false, false, false, false, false, false, false, false] rfl rfl (any_of HT_.out (by kernel_rfl)) (fun _ _ _ h => h) (Or.inl ⟨by rfl, ?_⟩) ?_ ?_
      rotate_left
      ·intro w'
       go_simp
       with_reducible rfl
      rotate_left
      ·simp only [Act.put, List.setIfInBounds_toArray, List.set_cons_zero, List.set_cons_succ, i64_w, i32_w]
       rfl
      refine pure_ (i := 4) (N := some 15) (v := ?_) (a' := ?_) #[true, true, true, true, true, false, false, false, false, false, false, false, false, false, false] rfl rfl (any_of HT_.out (by kernel_rfl)) (fun _ _ _ h => h) (Or.inl ⟨by rfl, ?_⟩) ?_ ?_
      rotate_left
      ·intro w'
       go_simp
       with_reducible rfl
      rotate_left
      ·simp only [Act.put, List.setIfInBounds_toArray, List.set_cons_zero, List.set_cons_succ, i64_w, i32_w]
       rfl
      refine pure_ (i := 6) (N := some 17) (v := ?_) (a' := ?_) #[true, true, true, true, true, false, true, false, false, false, false, false, false, false, false] rfl rfl (any_of HT_.out (by kernel_rfl)) (fun _ _ _ h => h) (Or.inl ⟨by rfl, ?_⟩) ?_ ?_
      rotate_left
      ·intro w'
       go_simp
       with_reducible rfl
      rotate_left
      ·simp only [Act.put, List.setIfInBounds_toArray, List.set_cons_zero, List.set_cons_succ, i64_w, i32_w]
       rfl
      refine pure_ (i := 7) (N := some 18) (v := ?_) (a' := ?_) #[true, true, true, true, true, false, true, true, false, false, false, false, false, false, false] rfl rfl (any_of HT_.out (by kernel_rfl)) (fun _ _ _ h => h) (Or.inl ⟨by rfl, ?_⟩) ?_ ?_
      rotate_left
      ·intro w'
       go_simp
       with_reducible rfl
      rotate_left
      ·simp only [Act.put, List.setIfInBounds_toArray, List.set_cons_zero, List.set_cons_succ, i64_w, i32_w]
       rfl
      refine pure_ (i := 8) (N := some 19) (v := ?_) (a' := ?_) #[true, true, true, true, true, false, true, true, true, false, false, false, false, false, false] rfl rfl (any_of HT_.out (by kernel_rfl)) (fun _ _ _ h => h) (Or.inl ⟨by rfl, ?_⟩) ?_ ?_
      rotate_left
      ·intro w'
       go_simp
       with_reducible rfl
      rotate_left
      ·simp only [Act.put, List.setIfInBounds_toArray, List.set_cons_zero, List.set_cons_succ, i64_w, i32_w]
       rfl
      refine pure_ (i := 9) (N := some 20) (v := ?_) (a' := ?_) #[true, true, true, true, true, false, true, true, true, true, false, false, false, false, false] rfl rfl (any_of HT_.out (by kernel_rfl)) (fun _ _ _ h => h) (Or.inl ⟨by rfl, ?_⟩) ?_ ?_
      rotate_left
      ·intro w'
       go_simp
       with_reducible rfl
      rotate_left
      ·simp only [Act.put, List.setIfInBounds_toArray, List.set_cons_zero, List.set_cons_succ, i64_w, i32_w]
       rfl
      refine take_ (i := 5) (N := some 16) (v := ?_) (a' := ?_) #[true, true, true, true, true, true, true, true, true, true, false, false, false, false, false] rfl rfl (take_ofW HT_.out HW_.out (by kernel_rfl)) (fun _ _ _ h => h) (Or.inl ⟨by rfl, ?_⟩) hHeld ?_ ?_
      rotate_left
      ·rintro w' ⟨s0, s1, s2, s3⟩
       go_simp
       with_reducible rfl
      rotate_left
      ·simp only [Act.put, List.setIfInBounds_toArray, List.set_cons_zero, List.set_cons_succ, i64_w, i32_w]
       rfl
      refine take_ (i := 10) (N := some 21) (v := ?_) (a' := ?_) #[true, true, true, true, true, true, true, true, true, true, true, false, false, false, false] rfl rfl (take_ofW HT_.out HW_.out (by kernel_rfl)) (fun _ _ _ h => h) (Or.inl ⟨by rfl, ?_⟩) hHeld ?_ ?_
      rotate_left
      ·rintro w' ⟨s0, s1, s2, s3⟩
       go_simp
       with_reducible rfl
      rotate_left
      ·simp only [Act.put, List.setIfInBounds_toArray, List.set_cons_zero, List.set_cons_succ, i64_w, i32_w]
       rfl
      refine pure_ (i := 11) (N := some 22) (v := ?_) (a' := ?_) #[true, true, true, true, true, true, true, true, true, true, true, true, false, false, false] rfl rfl (any_of HT_.out (by kernel_rfl)) (fun _ _ _ h => h) (Or.inl ⟨by rfl, ?_⟩) ?_ ?_
      rotate_left
      ·intro w'
       go_simp
       with_reducible rfl
      rotate_left
      ·simp only [Act.put, List.setIfInBounds_toArray, List.set_cons_zero, List.set_cons_succ, i64_w, i32_w]
       rfl
      refine one_ (i := 12) (N := some 23) #[true, true, true, true, true, true, true, true, true, true, true, true, true, false, false] rfl rfl (one_of HT_.out (by kernel_rfl)) (by decide) (fun K hK => ?_)
      refine value_ (w1 := ?_) (v := ?_) (by rfl) rfl ?_ ?_
      rotate_left 2
      ·go_simp
       constructor
       ·rfl
       ·rfl
      refine hK.out _ _ ⟨(World.cell?_alloc_lt _ _ _ (World.block_lt_of_cell? _ _ (((HB.out.cell (World.block_lt_of_cell? w _ hw208_0)).trans hw208_0)))).trans (((HB.out.cell (World.block_lt_of_cell? w _ hw208_0)).trans hw208_0)), (World.cell?_alloc_lt _ _ _ (World.block_lt_of_cell? _ _ (((HB.out.cell (World.block_lt_of_cell? w _ hw208_1)).trans hw208_1)))).trans (((HB.out.cell (World.block_lt_of_cell? w _ hw208_1)).trans hw208_1)), (World.cell?_alloc_lt _ _ _ (World.block_lt_of_cell? _ _ (((HB.out.cell (World.block_lt_of_cell? w _ hw209_0)).trans hw209_0)))).trans (((HB.out.cell (World.block_lt_of_cell? w _ hw209_0)).trans hw209_0)), (World.cell?_alloc_lt _ _ _ (World.block_lt_of_cell? _ _ (((HB.out.cell (World.block_lt_of_cell? w _ hw209_1)).trans hw209_1)))).trans (((HB.out.cell (World.block_lt_of_cell? w _ hw209_1)).trans hw209_1))⟩ (fun hHeld => ?_)
      clear hK K
      refine norm_ (a' := ?_) ?_ ?_
      rotate_left
      ·show Act.put _ (some 23) _ = _
       simp only [Act.put, List.setIfInBounds_toArray, List.set_cons_zero, List.set_cons_succ, i64_w, i32_w]
       rfl
      refine one_ (i := 13) (N := some 24) #[true, true, true, true, true, true, true, true, true, true, true, true, true, true, false] rfl rfl (one_of HT_.out (by kernel_rfl)) (by decide) (fun K hK => ?_)
      refine Kd.R_append_step k39 (w0 := w) w.heap.size (by rfl) (.tmp 11) (.tmp 23) 32 39 (.agg #[(.int .i64 0), (.int .i64 0)]) 16 rfl Tryd.underlying32 info39 rfl (by decide) (by omega) u3 x3_1 (⟨(rd_T37 l0 x4_1).f0, (rd_T37 l0 x4_1).f1⟩ : S39) [.int .i64 ((rd_T37 l0 x4_1).f0), .int .i64 ((rd_T37 l0 x4_1).f1)] (fun _ => True) (fun _ => False) rfl rfl ?aP (fun _ hk => hk.elim) ?aF ?aO ?aB ?aS ?aL ?_
      (case aP => exact k39_mkM _ _ _ (⟨(rd_T37 l0 x4_1).f0, (rd_T37 l0 x4_1).f1⟩ : S39))
      (case aB => exact (by repeat (first | (with_reducible first | exact HB.out | apply below_alloc | apply pw_below_drewN | apply below_drew1) | exact HB.out)))
      (case aF => exact (fun _ _ => trivial))
      (case aO => exact (by (with_reducible repeat (first | apply Kd.R_alloc | apply Kd.R_drewN | apply Kd.R_drew)); exact HO_3.out))
      (case aS => exact (below_size (by repeat (first | (with_reducible first | exact HB.out | apply below_alloc | apply pw_below_drewN | apply below_drew1) | exact HB.out))))
      (case aL => have := LMc4.out; omega)
      intro v211 w6 ho hb hg hat
      rw [← Ny210.out] at ho
      have n0_ := Aside0.mk (hb)
      have n1_ := Aside0.mk (ho)
      clear HB
      clear HO_3
      have HB := n0_
      have HO212 := n1_
      clear n0_ n1_
      clear ho hb hg hat
      refine hK.out _ _ ⟨((HB.out.cell (World.block_lt_of_cell? w _ hw208_0)).trans hw208_0), ((HB.out.cell (World.block_lt_of_cell? w _ hw208_1)).trans hw208_1), ((HB.out.cell (World.block_lt_of_cell? w _ hw209_0)).trans hw209_0), ((HB.out.cell (World.block_lt_of_cell? w _ hw209_1)).trans hw209_1)⟩ (fun hHeld => ?_)
      clear hK K
      refine norm_ (a' := ?_) ?_ ?_
      rotate_left
      ·show Act.put _ (some 24) _ = _
       simp only [Act.put, List.setIfInBounds_toArray, List.set_cons_zero, List.set_cons_succ, i64_w, i32_w]
       rfl
      refine pure_ (i := 14) (N := some 3) (v := ?_) (a' := ?_) #[true, true, true, true, true, true, true, true, true, true, true, true, true, true, true] rfl rfl (any_of HT_.out (by kernel_rfl)) (fun _ _ _ h => h) (Or.inl ⟨by rfl, ?_⟩) ?_ ?_
      rotate_left
      ·intro w'
       go_simp
       with_reducible rfl
      rotate_left
      ·simp only [Act.put, List.setIfInBounds_toArray, List.set_cons_zero, List.set_cons_succ, i64_w, i32_w]
       rfl
      refine done_ (done_of HT_.out (by kernel_rfl)) ?_
      try go_wp2
      go_roundg k1
      case measure => have := HK1.out; omega
      case rel => exact ⟨(y210), (wrap64 (x4_1 + 1)), (by first | rfl | (simp; done) | (simp [*]; done)), H', ⟨by have := HK1.out; omega⟩, ⟨by (with_reducible repeat (first | apply Kd.R_alloc | apply Kd.R_drewN | apply Kd.R_drew)); exact HO212.out⟩, ⟨by repeat (first | (with_reducible first | exact HB.out | apply below_alloc | apply pw_below_drewN | apply below_drew1) | exact HB.out)⟩⟩
     ·rw [if_neg c4] at H
      exact absurd H (by simp)
    ·rw [if_neg c3] at H
     exact absurd H (by simp)
   ·rw [if_neg c2] at H
    have c2b0 : decide (x4_1 < (l0.length : Int)) = false := decide_eq_false c2
    clear c2
    obtain rfl := Option.some.inj H
    go_wp2
    go_ret
    exact ⟨_, by first | rfl | (simp [errW_none, errW_some] <;> rfl) | (simp [*, errW_none, errW_some] <;> rfl), by (with_reducible repeat (first | apply Kd.R_alloc | apply Kd.R_drewN | apply Kd.R_drew)); exact HO_3.out, by repeat (first | (with_reducible first | exact HB.out | apply below_alloc | apply pw_below_drewN | apply below_drew1) | exact HB.out)⟩

/-! ### syntagmref14_Right: function 37 -/
def syntagmref14_Right.f (l0_0 : List (S82)) (l0_1 : List (S101)) (l0_2 : List ByteArray) (l0_3 : List (S64)) (a0_4 : Int) (a1 : Int) : Option (List Int) := if a1 = (-1) then (some (([wrap64 ((-1) - a0_4)] : List Int))) else (if 0 ≤ a1 then (if a1 < (l0_3.length : Int) then (some ((rd_T64 l0_3 a1).f2)) else (none)) else (none))
end Go.Proofs.YtclollnicbcooaaDoor.P
end

section
namespace Go.Proofs.YtclollnicbcooaaDoor.P
open Go.RowKit Go.Proofs.YtclollnicbcooaaDoorW.PrintWords Go.Proofs.YtclollnicbcooaaDoorW.PrintLast Go.Proofs.YtclollnicbcooaaDoorW.PrintMore
attribute [local go_sem] max2_int min2_int max_two min_two max_three min_three max_four min_four   -- for this text's walks alone
set_option linter.unusedVariables false
set_option linter.unusedSimpArgs false

theorem eqA39 (d : Nat) (w : World) (x0 y0 : Int) (x1 y1 : Int) :
  (Op.equalIn (d + 2) 39 (.agg #[.int .i64 x0, .int .i64 x1]) (.agg #[.int .i64 y0, .int .i64 y1])).run Tryd.prog w = .ok (x0 == y0 && (x1 == y1)) w := by
 refine eqA_of Tryd.underlying39 (by kernel_rfl) ?_
 refine eqf_cons (by rfl) (by go_simp; rfl) (by go_simp; rfl) (by go_simp) ?_
 exact eqf_last (by rfl) (by go_simp; rfl) (by go_simp; rfl) (by go_simp)
end Go.Proofs.YtclollnicbcooaaDoor.P
end

section
namespace Go.Proofs.YtclollnicbcooaaDoor.P
open Go.RowKit Go.Proofs.YtclollnicbcooaaDoorW.PrintWords Go.Proofs.YtclollnicbcooaaDoorW.PrintLast Go.Proofs.YtclollnicbcooaaDoorW.PrintMore
attribute [local go_sem] max2_int min2_int max_two min_two max_three min_three max_four min_four   -- for this text's walks alone
set_option linter.unusedVariables false
set_option linter.unusedSimpArgs false

attribute [local go_sem high] eqA39
/-! ### syntagmref14_Row: function 17 -/
def syntagmref14_Row.l0 : Nat → List (S39) → List (S39) → Int → Option (Bool)
 | 0, _, _, _ => none
 | k + 1, x0, x1, x5 => if x5 < (x0.length : Int) then (if 0 ≤ x5 then (if x5 < (x1.length : Int) then (if (!(((rd_T39 x0 x5).f0) == ((rd_T39 x1 x5).f0)) || (!(((rd_T39 x0 x5).f1) == ((rd_T39 x1 x5).f1)))) = true then (some false) else (syntagmref14_Row.l0 k x0 x1 (wrap64 (x5 + 1)))) else (none)) else (none)) else (some true)
def syntagmref14_Row.f (k : Nat) (l0 : List (S39)) (l1 : List (S39)) : Option (Bool) := if (l0.length : Int) = (l1.length : Int) then (syntagmref14_Row.l0 k l0 l1 0) else (some false)
set_option maxHeartbeats 8000000 in
set_option maxRecDepth 100000 in
theorem syntagmref14_Row.calls (k : Nat) (A0 : Option Addr) (c0 : Nat) (l0 : List (S39)) (A1 : Option Addr) (c1 : Nat) (l1 : List (S39)) (r : Bool) (w : World) (hr0 : Kd.C k39 w A0 l0.length l0) (hc0 : l0.length ≤ c0) (hr1 : Kd.C k39 w A1 l1.length l1) (hc1 : l1.length ≤ c1) (h : syntagmref14_Row.f k l0 l1 = some r) :
  Calls Tryd.prog 17 #[.slice A0 l0.length c0, .slice A1 l1.length c1] w fun e w' => e = .returned (.bool r) ∧ Drawn0 w w' := by
 have hu39 := Tryd.underlying39
 have HR0 := Aside0.mk hr0
 have HC0 := Aside0.mk hc0
 clear hr0 hc0
 have HR1 := Aside0.mk hr1
 have HC1 := Aside0.mk hc1
 clear hr1 hc1
 have H : (if (l0.length : Int) = (l1.length : Int) then (syntagmref14_Row.l0 k l0 l1 0) else (some false)) = some r := h
 clear h
 by_cases c3 : (l0.length : Int) = (l1.length : Int)
 ·rw [if_pos c3] at H
  have c3b0 : ((l0.length : Int) == (l1.length : Int)) = true := beq_iff_eq.mpr c3
  have c3b1 : ((l0.length : Int) != (l1.length : Int)) = false := bne_eq_false_iff_eq.mpr c3
  have c3b2 : (l0.length == l1.length) = true := by first | simpa using c3 | (simp at c3 ⊢; omega)
  clear c3
  have H' := Aside0.mk H
  clear H
  go_enter Tryd.func17, Tryd.ntmps17
  go_wp2
  repeat (go_quiet (fail); try go_wp2)
  go_loopg [5] k (fun kq v5 w' => ∃ (x5_1 : Int), v5 = .int .i64 x5_1 ∧ Aside0 (syntagmref14_Row.l0 kq l0 l1 x5_1 = some r) ∧ Aside0 (kq ≤ k) ∧ Drawn0 w w')
  case atStart => exact ⟨(0), (by first | rfl | (simp; done) | (simp [*]; done)), H', ⟨Nat.le_refl _⟩, by repeat (first | exact Drawn0.refl _ | apply Drawn0.step)⟩
  case round =>
   clear H'
   try clear c1
   try clear p2
   try clear c3
   try clear c3b0
   try clear c3b1
   try clear c3b2
   obtain ⟨x5_1, rfl, HA, HK1, ⟨m1, rfl⟩⟩ := hrel
   cases gk with
   | zero => exact absurd HA.out (by simp [syntagmref14_Row.l0])
   | succ k1 =>
    have H := HA.out
    clear HA
    simp only [syntagmref14_Row.l0] at H
    by_cases c4 : x5_1 < (l0.length : Int)
    ·rw [if_pos c4] at H
     have c4b0 : decide (x5_1 < (l0.length : Int)) = true := decide_eq_true c4
     clear c4
     by_cases c5 : 0 ≤ x5_1
     ·rw [if_pos c5] at H
      have c5b0 : decide (0 ≤ x5_1) = true := decide_eq_true c5
      clear c5
      by_cases c6 : x5_1 < (l1.length : Int)
      ·rw [if_pos c6] at H
       have c6b0 : decide (x5_1 < (l1.length : Int)) = true := decide_eq_true c6
       clear c6
       by_cases c7 : (!(((rd_T39 l0 x5_1).f0) == ((rd_T39 l1 x5_1).f0)) || (!(((rd_T39 l0 x5_1).f1) == ((rd_T39 l1 x5_1).f1)))) = true
       ·rw [if_pos c7] at H
        have c7b0 : (!(((rd_T39 l0 x5_1).f0) == ((rd_T39 l1 x5_1).f0)) || (!(((rd_T39 l0 x5_1).f1) == ((rd_T39 l1 x5_1).f1)))) = true := c7
        clear c7
        obtain rfl := Option.some.inj H
        have p234 : 0 ≤ (x5_1 : Int) := of_decide_eq_true (by first | (with_reducible assumption) | assumption)
        have q234 : x5_1 < (l0.length : Int) := of_decide_eq_true (by first | (with_reducible assumption) | assumption)
        obtain ⟨ad234, e234, hx234_0, hx234_1⟩ := at_T39 HR0.out x5_1 p234 q234
        cases e234
        replace p234 := eq_true p234
        replace q234 := eq_true q234
        have p235 : 0 ≤ (x5_1 : Int) := of_decide_eq_true (by first | (with_reducible assumption) | assumption)
        have q235 : x5_1 < (l1.length : Int) := of_decide_eq_true (by first | (with_reducible assumption) | assumption)
        obtain ⟨ad235, e235, hx235_0, hx235_1⟩ := at_T39 HR1.out x5_1 p235 q235
        cases e235
        replace p235 := eq_true p235
        replace q235 := eq_true q235
        go_wp2
        repeat (go_quiet (fail); try go_wp2)
        go_ret
        exact ⟨by first | rfl | (simp; done) | (simp [*]; done), by repeat (first | exact Drawn0.refl _ | apply Drawn0.step)⟩
       ·rw [if_neg c7] at H
        have c7b0 : (!(((rd_T39 l0 x5_1).f0) == ((rd_T39 l1 x5_1).f0)) || (!(((rd_T39 l0 x5_1).f1) == ((rd_T39 l1 x5_1).f1)))) = false := by simpa using c7
        clear c7
        have H' := Aside0.mk H
        clear H
        have p234 : 0 ≤ (x5_1 : Int) := of_decide_eq_true (by first | (with_reducible assumption) | assumption)
        have q234 : x5_1 < (l0.length : Int) := of_decide_eq_true (by first | (with_reducible assumption) | assumption)
        obtain ⟨ad234, e234, hx234_0, hx234_1⟩ := at_T39 HR0.out x5_1 p234 q234
        cases e234
        replace p234 := eq_true p234
        replace q234 := eq_true q234
        have p235 : 0 ≤ (x5_1 : Int) := of_decide_eq_true (by first | (with_reducible assumption) | assumption)
        have q235 : x5_1 < (l1.length : Int) := of_decide_eq_true (by first | (with_reducible assumption) | assumption)
        obtain ⟨ad235, e235, hx235_0, hx235_1⟩ := at_T39 HR1.out x5_1 p235 q235
        cases e235
        replace p235 := eq_true p235
        replace q235 := eq_true q235
        go_wp2
        repeat (go_quiet (fail); try go_wp2)
        go_roundg k1
        case measure => have := HK1.out; omega
        case rel => exact ⟨(wrap64 (x5_1 + 1)), (by first | rfl | (simp; done) | (simp [*]; done)), H', ⟨by have := HK1.out; omega⟩, by repeat (first | exact Drawn0.refl _ | apply Drawn0.step)⟩
      ·rw [if_neg c6] at H
       exact absurd H (by simp)
     ·rw [if_neg c5] at H
      exact absurd H (by simp)
    ·rw [if_neg c4] at H
     have c4b0 : decide (x5_1 < (l0.length : Int)) = false := decide_eq_false c4
     clear c4
     obtain rfl := Option.some.inj H
     go_wp2
     repeat (go_quiet (fail); try go_wp2)
     go_ret
     exact ⟨by first | rfl | (simp; done) | (simp [*]; done), by repeat (first | exact Drawn0.refl _ | apply Drawn0.step)⟩
 ·rw [if_neg c3] at H
  have c3b0 : ((l0.length : Int) == (l1.length : Int)) = false := beq_eq_false_iff_ne.mpr c3
  have c3b1 : ((l0.length : Int) != (l1.length : Int)) = true := bne_iff_ne.mpr c3
  have c3b2 : (l0.length == l1.length) = false := by first | simpa using c3 | (simp at c3 ⊢; omega)
  obtain rfl := Option.some.inj H
  go_enter Tryd.func17, Tryd.ntmps17
  go_wp2
  repeat (go_quiet (fail); try go_wp2)
  go_ret
  exact ⟨by first | rfl | (simp; done) | (simp [*]; done), by repeat (first | exact Drawn0.refl _ | apply Drawn0.step)⟩

/-! ### syntagmref14_has: function 39 -/
def syntagmref14_has.l0 : Nat → List (S39) → Int → Int → Int → Option (Bool)
 | 0, _, _, _, _ => none
 | k + 1, x0, x5, x237000, x237001 => if x5 < (x0.length : Int) then (if 0 ≤ x5 then (if (((rd_T39 x0 x5).f0) == x237000 && (((rd_T39 x0 x5).f1) == x237001)) = true then (some true) else (syntagmref14_has.l0 k x0 (wrap64 (x5 + 1)) x237000 x237001)) else (none)) else (some false)
def syntagmref14_has.f (k : Nat) (l0 : List (S39)) (a1_0 : Int) (a1_1 : Int) : Option (Bool) := syntagmref14_has.l0 k l0 0 a1_0 a1_1
/-! ### syntagmref14_less: function 69 -/
def syntagmref14_less.f (a0_0 : Int) (a0_1 : Int) (a1_0 : Int) (a1_1 : Int) : Option (Bool) := if a0_0 < a1_0 then (some true) else (if a0_0 = a1_0 then (some (decide (a0_1 < a1_1))) else (some false))
end Go.Proofs.YtclollnicbcooaaDoor.P
end

section
namespace Go.Proofs.YtclollnicbcooaaDoor.P
open Go.RowKit Go.Proofs.YtclollnicbcooaaDoorW.PrintWords Go.Proofs.YtclollnicbcooaaDoorW.PrintLast Go.Proofs.YtclollnicbcooaaDoorW.PrintMore
attribute [local go_sem] max2_int min2_int max_two min_two max_three min_three max_four min_four   -- for this text's walks alone
set_option linter.unusedVariables false
set_option linter.unusedSimpArgs false

/-! ### syntagmlaw13_Few: function 13 -/
mutual
def syntagmlaw13_Few.l0 : Nat → Int → List (S82) → List (S101) → List ByteArray → List (S64) → Int → Option (Bool)
 | 0, _, _, _, _, _, _ => none
 | k + 1, x3, x207000, x207001, x207002, x207003, x207004 => if x3 < (x207003.length : Int) then (syntagmlaw13_Few.j1 k x3 (decide (x3 < 15)) x207000 x207001 x207002 x207003 x207004) else (syntagmlaw13_Few.j1 k x3 false x207000 x207001 x207002 x207003 x207004)
def syntagmlaw13_Few.j1 : Nat → Int → Bool → List (S82) → List (S101) → List ByteArray → List (S64) → Int → Option (Bool)
 | 0, _, _, _, _, _, _, _ => none
 | k + 1, x3, x12, x207000, x207001, x207002, x207003, x207004 => if x12 = true then (if 0 ≤ x3 then (if x3 < (x207003.length : Int) then (if (((rd_T64 x207003 x3).f2).length : Int) > 12 then (some false) else (syntagmlaw13_Few.l0 k (wrap64 (x3 + 1)) x207000 x207001 x207002 x207003 x207004)) else (none)) else (none)) else (if (x207000.length : Int) ≤ 10 then (if (x207002.length : Int) ≤ 8 then (if (x207003.length : Int) ≤ 14 then (some (decide ((x207001.length : Int) ≤ 30))) else (some false)) else (some false)) else (some false))
end
def syntagmlaw13_Few.f (k : Nat) (l0_0 : List (S82)) (l0_1 : List (S101)) (l0_2 : List ByteArray) (l0_3 : List (S64)) (a0_4 : Int) : Option (Bool) := syntagmlaw13_Few.l0 k 0 l0_0 l0_1 l0_2 l0_3 a0_4
theorem syntagmlaw13_Few.mono_l : ∀ k, (∀ y0 y1 y2 y3 y4 y5, LeO (syntagmlaw13_Few.l0 k y0 y1 y2 y3 y4 y5) (syntagmlaw13_Few.l0 (k + 1) y0 y1 y2 y3 y4 y5)) ∧ (∀ y0 y1 y2 y3 y4 y5 y6, LeO (syntagmlaw13_Few.j1 k y0 y1 y2 y3 y4 y5 y6) (syntagmlaw13_Few.j1 (k + 1) y0 y1 y2 y3 y4 y5 y6))
 | 0 => ⟨fun _ _ _ _ _ _ r h => by simp [syntagmlaw13_Few.l0] at h, fun _ _ _ _ _ _ _ r h => by simp [syntagmlaw13_Few.j1] at h⟩
 | k + 1 => by
  obtain ⟨ih0, ih1⟩ := syntagmlaw13_Few.mono_l k
  refine ⟨?_, ?_⟩
  ·intro y0 y1 y2 y3 y4 y5
   unfold syntagmlaw13_Few.l0
   repeat' first
   | (with_reducible exact ih0 _ _ _ _ _ _)
   | (with_reducible exact ih1 _ _ _ _ _ _ _)
   | (with_reducible exact LeO.refl _)
   | (with_reducible exact LeO.none _)
   | (with_reducible refine LeO.ite ?_ ?_)
   | (with_reducible refine LeO.bind ?_ (fun _ => ?_))
   | exact ih0 _ _ _ _ _ _
   | exact ih1 _ _ _ _ _ _ _
   | exact LeO.none _
   | refine LeO.ite ?_ ?_
   | refine LeO.bind ?_ (fun _ => ?_)
  ·intro y0 y1 y2 y3 y4 y5 y6
   unfold syntagmlaw13_Few.j1
   repeat' first
   | (with_reducible exact ih0 _ _ _ _ _ _)
   | (with_reducible exact ih1 _ _ _ _ _ _ _)
   | (with_reducible exact LeO.refl _)
   | (with_reducible exact LeO.none _)
   | (with_reducible refine LeO.ite ?_ ?_)
   | (with_reducible refine LeO.bind ?_ (fun _ => ?_))
   | exact ih0 _ _ _ _ _ _
   | exact ih1 _ _ _ _ _ _ _
   | exact LeO.none _
   | refine LeO.ite ?_ ?_
   | refine LeO.bind ?_ (fun _ => ?_)
theorem syntagmlaw13_Few.mono : ∀ a0 a1 a2 a3 a4 k, LeO (syntagmlaw13_Few.f k a0 a1 a2 a3 a4) (syntagmlaw13_Few.f (k + 1) a0 a1 a2 a3 a4) := by
 intro a0 a1 a2 a3 a4 k
 obtain ⟨ih0, ih1⟩ := syntagmlaw13_Few.mono_l k
 unfold syntagmlaw13_Few.f
 repeat' first
   | (with_reducible exact ih0 _ _ _ _ _ _)
   | (with_reducible exact ih1 _ _ _ _ _ _ _)
   | (with_reducible exact LeO.refl _)
   | (with_reducible exact LeO.none _)
   | (with_reducible refine LeO.ite ?_ ?_)
   | (with_reducible refine LeO.bind ?_ (fun _ => ?_))
   | exact ih0 _ _ _ _ _ _
   | exact ih1 _ _ _ _ _ _ _
   | exact LeO.none _
   | refine LeO.ite ?_ ?_
   | refine LeO.bind ?_ (fun _ => ?_)
set_option maxHeartbeats 8000000 in
set_option maxRecDepth 100000 in
theorem syntagmlaw13_Few.calls (k : Nat) (A0_0 : Option Addr) (c0_0 : Nat) (l0_0 : List (S82)) (A0_1 : Option Addr) (c0_1 : Nat) (l0_1 : List (S101)) (A0_2 : Option Addr) (c0_2 : Nat) (l0_2 : List ByteArray) (A0_3 : Option Addr) (c0_3 : Nat) (l0_3 : List (S64)) (a0_4 : Int) (r : Bool) (w : World) (hr0_0 : Kd.C k82 w A0_0 l0_0.length l0_0) (hc0_0 : l0_0.length ≤ c0_0) (hr0_1 : Kd.C k101 w A0_1 l0_1.length l0_1) (hc0_1 : l0_1.length ≤ c0_1) (hr0_2 : Kd.C Kd.string w A0_2 l0_2.length l0_2) (hc0_2 : l0_2.length ≤ c0_2) (hr0_3 : Kd.C k64 w A0_3 l0_3.length l0_3) (hc0_3 : l0_3.length ≤ c0_3) (h : syntagmlaw13_Few.f k l0_0 l0_1 l0_2 l0_3 a0_4 = some r) :
  Calls Tryd.prog 13 #[.agg #[.slice A0_0 l0_0.length c0_0, .slice A0_1 l0_1.length c0_1, .slice A0_2 l0_2.length c0_2, .slice A0_3 l0_3.length c0_3, .int .i64 a0_4]] w fun e w' => e = .returned (.bool r) ∧ Below w.heap.size w w' := by
 have hu27 := Tryd.underlying27
 have HR0_0 := Aside0.mk hr0_0
 have HC0_0 := Aside0.mk hc0_0
 clear hr0_0 hc0_0
 have HR0_1 := Aside0.mk hr0_1
 have HC0_1 := Aside0.mk hc0_1
 clear hr0_1 hc0_1
 have HR0_2 := Aside0.mk hr0_2
 have HC0_2 := Aside0.mk hc0_2
 clear hr0_2 hc0_2
 have HR0_3 := Aside0.mk hr0_3
 have HC0_3 := Aside0.mk hc0_3
 clear hr0_3 hc0_3
 have HB := Aside0.mk (Below.refl w.heap.size w)
 have H : (syntagmlaw13_Few.l0 k 0 l0_0 l0_1 l0_2 l0_3 a0_4) = some r := h
 clear h
 have H' := Aside0.mk H
 clear H
 go_enter Tryd.func13, Tryd.ntmps13
 go_wp2_with (first | ((with_reducible refine gate_dst (N := 1) rfl ?_); (try (refine gate_guard (by rfl) ?_; dsimp only)); refine box_event ?hg (N := 1) ?hd (cs := #[.slice A0_0 l0_0.length c0_0, .slice A0_1 l0_1.length c0_1, .slice A0_2 l0_2.length c0_2, .slice A0_3 l0_3.length c0_3, .int .i64 a0_4]) (t := 27) ?hr ?_; (case hd => rfl); (case hg => rfl); (case hr => first | (go_simp; done) | (go_simp; rfl)); intro gb206 hg w2 hbox hb; have n0_ := Aside0.mk (below_step (by repeat (first | (with_reducible first | exact HB.out | apply below_alloc | apply pw_below_drewN | apply below_drew1) | exact HB.out)) hb); have n1_ := Aside0.mk (hbox); have n2_ := Aside0.mk ((by rw [hg]; exact (below_size (by repeat (first | (with_reducible first | exact HB.out | apply below_alloc | apply pw_below_drewN | apply below_drew1) | exact HB.out))) : w.heap.size ≤ gb206)); have n3_ := Aside0.mk ((by rw [hg]; exact (below_size (by repeat (first | (with_reducible first | exact HB.out | apply below_alloc | apply pw_below_drewN | apply below_drew1) | exact HB.out))) : w.heap.size ≤ gb206)); clear HB; have HB := n0_; have BK206 := n1_; have GW206 := n2_; have GE206 := n3_; clear n0_ n1_ n2_ n3_; clear hb hbox hg))
 go_loopg [3] k (fun kq v3 w' => ∃ (x3_1 : Int), v3 = .int .i64 x3_1 ∧ Aside0 (syntagmlaw13_Few.l0 kq x3_1 l0_0 l0_1 l0_2 l0_3 a0_4 = some r) ∧ Aside0 (kq ≤ k) ∧ Aside0 (w'.heap[gb206]? = some (.cells #[(.slice A0_0 l0_0.length c0_0), (.slice A0_1 l0_1.length c0_1), (.slice A0_2 l0_2.length c0_2), (.slice A0_3 l0_3.length c0_3), .int .i64 a0_4] 27 (0, 0))) ∧ Aside0 (Below w.heap.size w w'))
 case atStart => exact ⟨(0), (by first | rfl | (simp; done) | (simp [*]; done)), H', ⟨Nat.le_refl _⟩, ⟨by (with_reducible repeat (first | refine blk_drewN ?_ _ | refine blk_drew ?_ | refine blk_alloc ?_ _)); exact BK206.out⟩, ⟨by repeat (first | (with_reducible first | exact HB.out | apply below_alloc | apply pw_below_drewN | apply below_drew1 | refine below_set ?_ GE206.out) | exact HB.out)⟩⟩
 case round =>
  clear H'
  try clear c1
  try clear p2
  obtain ⟨x3_1, rfl, HA, HK1, BK206, HB⟩ := hrel
  cases gk with
  | zero => exact absurd HA.out (by simp [syntagmlaw13_Few.l0])
  | succ k1 =>
   have H := HA.out
   clear HA
   simp only [syntagmlaw13_Few.l0] at H
   have HC3 := Aside0.mk H
   clear H
   go_upto_region 2 with (fail)
   go_cut [12] (fun v12 wc => ∃ (kq : Nat) (x12_2 : Bool), v12 = .bool x12_2 ∧ Aside0 (syntagmlaw13_Few.j1 kq x3_1 x12_2 l0_0 l0_1 l0_2 l0_3 a0_4 = some r) ∧ Aside0 (kq ≤ k1) ∧ Aside0 (wc.heap[gb206]? = some (.cells #[(.slice A0_0 l0_0.length c0_0), (.slice A0_1 l0_1.length c0_1), (.slice A0_2 l0_2.length c0_2), (.slice A0_3 l0_3.length c0_3), .int .i64 a0_4] 27 (0, 0))) ∧ Aside0 (Below w.heap.size w wc))
   case first =>
    have H := HC3.out
    clear HC3
    by_cases c4 : x3_1 < (l0_3.length : Int)
    ·rw [if_pos c4] at H
     have c4b0 : decide (x3_1 < (l0_3.length : Int)) = true := decide_eq_true c4
     clear c4
     (first | rw [c4b0] | (simp only [i64_w, i32_w]; rw [c4b0]) | skip)
     have H' := Aside0.mk H
     clear H
     have hcz5_0 : wr.cell? ⟨gb206, 0, none⟩ = some (.slice A0_0 l0_0.length c0_0) := (blk_cell BK206.out 0).trans rfl
     have hcz5_1 : wr.cell? ⟨gb206, 1, none⟩ = some (.slice A0_1 l0_1.length c0_1) := (blk_cell BK206.out 1).trans rfl
     have hcz5_2 : wr.cell? ⟨gb206, 2, none⟩ = some (.slice A0_2 l0_2.length c0_2) := (blk_cell BK206.out 2).trans rfl
     have hcz5_3 : wr.cell? ⟨gb206, 3, none⟩ = some (.slice A0_3 l0_3.length c0_3) := (blk_cell BK206.out 3).trans rfl
     have hcz5_4 : wr.cell? ⟨gb206, 4, none⟩ = some (.int .i64 a0_4) := (blk_cell BK206.out 4).trans rfl
     have hfz5_0 := blk_frozen BK206.out 0
     have hfz5_1 := blk_frozen BK206.out 1
     have hfz5_2 := blk_frozen BK206.out 2
     have hfz5_3 := blk_frozen BK206.out 3
     have hfz5_4 := blk_frozen BK206.out 4
     go_wp2
     go_meet
     case rel => exact ⟨_, (decide (x3_1 < 15)), (by first | rfl | (simp; done) | (simp [*]; done)), H', ⟨by have := HK1.out; first | omega | exact Nat.le_refl _⟩, ⟨by (with_reducible repeat (first | refine blk_drewN ?_ _ | refine blk_drew ?_ | refine blk_alloc ?_ _)); exact BK206.out⟩, ⟨by repeat (first | (with_reducible first | exact HB.out | apply below_alloc | apply pw_below_drewN | apply below_drew1 | refine below_set ?_ GE206.out) | exact HB.out)⟩⟩
    ·rw [if_neg c4] at H
     have c4b0 : decide (x3_1 < (l0_3.length : Int)) = false := decide_eq_false c4
     clear c4
     (first | rw [c4b0] | (simp only [i64_w, i32_w]; rw [c4b0]) | skip)
     have H' := Aside0.mk H
     clear H
     have hcz6_0 : wr.cell? ⟨gb206, 0, none⟩ = some (.slice A0_0 l0_0.length c0_0) := (blk_cell BK206.out 0).trans rfl
     have hcz6_1 : wr.cell? ⟨gb206, 1, none⟩ = some (.slice A0_1 l0_1.length c0_1) := (blk_cell BK206.out 1).trans rfl
     have hcz6_2 : wr.cell? ⟨gb206, 2, none⟩ = some (.slice A0_2 l0_2.length c0_2) := (blk_cell BK206.out 2).trans rfl
     have hcz6_3 : wr.cell? ⟨gb206, 3, none⟩ = some (.slice A0_3 l0_3.length c0_3) := (blk_cell BK206.out 3).trans rfl
     have hcz6_4 : wr.cell? ⟨gb206, 4, none⟩ = some (.int .i64 a0_4) := (blk_cell BK206.out 4).trans rfl
     have hfz6_0 := blk_frozen BK206.out 0
     have hfz6_1 := blk_frozen BK206.out 1
     have hfz6_2 := blk_frozen BK206.out 2
     have hfz6_3 := blk_frozen BK206.out 3
     have hfz6_4 := blk_frozen BK206.out 4
     go_wp2
     go_meet
     case rel => exact ⟨_, (false), (by first | rfl | (simp; done) | (simp [*]; done)), H', ⟨by have := HK1.out; first | omega | exact Nat.le_refl _⟩, ⟨by (with_reducible repeat (first | refine blk_drewN ?_ _ | refine blk_drew ?_ | refine blk_alloc ?_ _)); exact BK206.out⟩, ⟨by repeat (first | (with_reducible first | exact HB.out | apply below_alloc | apply pw_below_drewN | apply below_drew1 | refine below_set ?_ GE206.out) | exact HB.out)⟩⟩
   case rest =>
    clear HC3
    try clear c1
    try clear p2
    try clear c4
    try clear c4b0
    try clear hcz5_0
    try clear hcz5_1
    try clear hcz5_2
    try clear hcz5_3
    try clear hcz5_4
    try clear hcz6_0
    try clear hcz6_1
    try clear hcz6_2
    try clear hcz6_3
    try clear hcz6_4
    try clear hfz5_0
    try clear hfz5_1
    try clear hfz5_2
    try clear hfz5_3
    try clear hfz5_4
    try clear hfz6_0
    try clear hfz6_1
    try clear hfz6_2
    try clear hfz6_3
    try clear hfz6_4
    try clear p2
    obtain ⟨kq, x12_2, rfl, HA, HJ2, BK206, HB⟩ := hcut
    cases kq with
    | zero => exact absurd HA.out (by simp [syntagmlaw13_Few.j1])
    | succ kj2 =>
     have H := HA.out
     clear HA
     simp only [syntagmlaw13_Few.j1] at H
     by_cases c7 : x12_2 = true
     ·subst c7
      have H1 : (if 0 ≤ x3_1 then (if x3_1 < (l0_3.length : Int) then (if (((rd_T64 l0_3 x3_1).f2).length : Int) > 12 then (some false) else (syntagmlaw13_Few.l0 kj2 (wrap64 (x3_1 + 1)) l0_0 l0_1 l0_2 l0_3 a0_4)) else (none)) else (none)) = some r := by rw [if_pos rfl] at H; exact H
      clear H
      have H := H1
      clear H1
      by_cases c8 : 0 ≤ x3_1
      ·rw [if_pos c8] at H
       have c8b0 : decide (0 ≤ x3_1) = true := decide_eq_true c8
       clear c8
       by_cases c9 : x3_1 < (l0_3.length : Int)
       ·rw [if_pos c9] at H
        have c9b0 : decide (x3_1 < (l0_3.length : Int)) = true := decide_eq_true c9
        clear c9
        by_cases c10 : (((rd_T64 l0_3 x3_1).f2).length : Int) > 12
        ·rw [if_pos c10] at H
         have c10b0 : decide (12 < (((rd_T64 l0_3 x3_1).f2).length : Int)) = true := decide_eq_true c10
         have c10b1 : decide (12 < ((rd_T64 l0_3 x3_1).f2).length) = true := decide_eq_true (by omega)
         clear c10
         obtain rfl := Option.some.inj H
         have hcz11_0 : wc.cell? ⟨gb206, 0, none⟩ = some (.slice A0_0 l0_0.length c0_0) := (blk_cell BK206.out 0).trans rfl
         have hcz11_1 : wc.cell? ⟨gb206, 1, none⟩ = some (.slice A0_1 l0_1.length c0_1) := (blk_cell BK206.out 1).trans rfl
         have hcz11_2 : wc.cell? ⟨gb206, 2, none⟩ = some (.slice A0_2 l0_2.length c0_2) := (blk_cell BK206.out 2).trans rfl
         have hcz11_3 : wc.cell? ⟨gb206, 3, none⟩ = some (.slice A0_3 l0_3.length c0_3) := (blk_cell BK206.out 3).trans rfl
         have hcz11_4 : wc.cell? ⟨gb206, 4, none⟩ = some (.int .i64 a0_4) := (blk_cell BK206.out 4).trans rfl
         have hfz11_0 := blk_frozen BK206.out 0
         have hfz11_1 := blk_frozen BK206.out 1
         have hfz11_2 := blk_frozen BK206.out 2
         have hfz11_3 := blk_frozen BK206.out 3
         have hfz11_4 := blk_frozen BK206.out 4
         have p207 : 0 ≤ (x3_1 : Int) := of_decide_eq_true (by first | (with_reducible assumption) | assumption)
         have q207 : x3_1 < (l0_3.length : Int) := of_decide_eq_true (by first | (with_reducible assumption) | assumption)
         obtain ⟨ad207, A207_2, c207_2, e207, hx207_0, hx207_1, hx207_2, hx207_3, hl207_2, hi207_2⟩ := at_T64 HR0_3.out x3_1 p207 q207
         cases e207
         replace hx207_0 := (HB.out.cell (World.block_lt_of_cell? w _ hx207_0)).trans hx207_0
         replace hx207_1 := (HB.out.cell (World.block_lt_of_cell? w _ hx207_1)).trans hx207_1
         replace hx207_2 := (HB.out.cell (World.block_lt_of_cell? w _ hx207_2)).trans hx207_2
         replace hx207_3 := (HB.out.cell (World.block_lt_of_cell? w _ hx207_3)).trans hx207_3
         have HR207_2 := Aside0.mk hi207_2
         have HC207_2 := Aside0.mk hl207_2
         clear hi207_2 hl207_2
         replace p207 := eq_true p207
         replace q207 := eq_true q207
         go_wp2
         go_ret
         exact ⟨by first | rfl | (simp [errW_none, errW_some] <;> rfl) | (simp [*, errW_none, errW_some] <;> rfl), by repeat (first | (with_reducible first | exact HB.out | apply below_alloc | apply pw_below_drewN | apply below_drew1 | refine below_set ?_ GE206.out) | exact HB.out)⟩
        ·rw [if_neg c10] at H
         have c10b0 : decide (12 < (((rd_T64 l0_3 x3_1).f2).length : Int)) = false := decide_eq_false c10
         have c10b1 : decide (12 < ((rd_T64 l0_3 x3_1).f2).length) = false := decide_eq_false (by omega)
         clear c10
         have H' := Aside0.mk H
         clear H
         have hcz12_0 : wc.cell? ⟨gb206, 0, none⟩ = some (.slice A0_0 l0_0.length c0_0) := (blk_cell BK206.out 0).trans rfl
         have hcz12_1 : wc.cell? ⟨gb206, 1, none⟩ = some (.slice A0_1 l0_1.length c0_1) := (blk_cell BK206.out 1).trans rfl
         have hcz12_2 : wc.cell? ⟨gb206, 2, none⟩ = some (.slice A0_2 l0_2.length c0_2) := (blk_cell BK206.out 2).trans rfl
         have hcz12_3 : wc.cell? ⟨gb206, 3, none⟩ = some (.slice A0_3 l0_3.length c0_3) := (blk_cell BK206.out 3).trans rfl
         have hcz12_4 : wc.cell? ⟨gb206, 4, none⟩ = some (.int .i64 a0_4) := (blk_cell BK206.out 4).trans rfl
         have hfz12_0 := blk_frozen BK206.out 0
         have hfz12_1 := blk_frozen BK206.out 1
         have hfz12_2 := blk_frozen BK206.out 2
         have hfz12_3 := blk_frozen BK206.out 3
         have hfz12_4 := blk_frozen BK206.out 4
         have p207 : 0 ≤ (x3_1 : Int) := of_decide_eq_true (by first | (with_reducible assumption) | assumption)
         have q207 : x3_1 < (l0_3.length : Int) := of_decide_eq_true (by first | (with_reducible assumption) | assumption)
         obtain ⟨ad207, A207_2, c207_2, e207, hx207_0, hx207_1, hx207_2, hx207_3, hl207_2, hi207_2⟩ := at_T64 HR0_3.out x3_1 p207 q207
         cases e207
         replace hx207_0 := (HB.out.cell (World.block_lt_of_cell? w _ hx207_0)).trans hx207_0
         replace hx207_1 := (HB.out.cell (World.block_lt_of_cell? w _ hx207_1)).trans hx207_1
         replace hx207_2 := (HB.out.cell (World.block_lt_of_cell? w _ hx207_2)).trans hx207_2
         replace hx207_3 := (HB.out.cell (World.block_lt_of_cell? w _ hx207_3)).trans hx207_3
         have HR207_2 := Aside0.mk hi207_2
         have HC207_2 := Aside0.mk hl207_2
         clear hi207_2 hl207_2
         replace p207 := eq_true p207
         replace q207 := eq_true q207
         go_wp2
         go_roundg kj2
         case measure => have := HK1.out; have := HJ2.out; omega
         case rel => exact ⟨(wrap64 (x3_1 + 1)), (by first | rfl | (simp; done) | (simp [*]; done)), H', ⟨by have := HK1.out; have := HJ2.out; omega⟩, ⟨by (with_reducible repeat (first | refine blk_drewN ?_ _ | refine blk_drew ?_ | refine blk_alloc ?_ _)); exact BK206.out⟩, ⟨by repeat (first | (with_reducible first | exact HB.out | apply below_alloc | apply pw_below_drewN | apply below_drew1 | refine below_set ?_ GE206.out) | exact HB.out)⟩⟩
       ·rw [if_neg c9] at H
        exact absurd H (by simp)
      ·rw [if_neg c8] at H
       exact absurd H (by simp)
     ·replace c7 := Bool.eq_false_iff.mpr c7
      subst c7
      have H1 : (if (l0_0.length : Int) ≤ 10 then (if (l0_2.length : Int) ≤ 8 then (if (l0_3.length : Int) ≤ 14 then (some (decide ((l0_1.length : Int) ≤ 30))) else (some false)) else (some false)) else (some false)) = some r := by rw [if_neg (show ¬ (false = true) by decide)] at H; exact H
      clear H
      have H := H1
      clear H1
      by_cases c13 : (l0_0.length : Int) ≤ 10
      ·rw [if_pos c13] at H
       have c13b0 : decide ((l0_0.length : Int) ≤ 10) = true := decide_eq_true c13
       have c13b1 : decide (l0_0.length ≤ 10) = true := decide_eq_true (by omega)
       clear c13
       by_cases c14 : (l0_2.length : Int) ≤ 8
       ·rw [if_pos c14] at H
        have c14b0 : decide ((l0_2.length : Int) ≤ 8) = true := decide_eq_true c14
        have c14b1 : decide (l0_2.length ≤ 8) = true := decide_eq_true (by omega)
        clear c14
        by_cases c15 : (l0_3.length : Int) ≤ 14
        ·rw [if_pos c15] at H
         have c15b0 : decide ((l0_3.length : Int) ≤ 14) = true := decide_eq_true c15
         have c15b1 : decide (l0_3.length ≤ 14) = true := decide_eq_true (by omega)
         clear c15
         obtain rfl := Option.some.inj H
         have hcz16_0 : wc.cell? ⟨gb206, 0, none⟩ = some (.slice A0_0 l0_0.length c0_0) := (blk_cell BK206.out 0).trans rfl
         have hcz16_1 : wc.cell? ⟨gb206, 1, none⟩ = some (.slice A0_1 l0_1.length c0_1) := (blk_cell BK206.out 1).trans rfl
         have hcz16_2 : wc.cell? ⟨gb206, 2, none⟩ = some (.slice A0_2 l0_2.length c0_2) := (blk_cell BK206.out 2).trans rfl
         have hcz16_3 : wc.cell? ⟨gb206, 3, none⟩ = some (.slice A0_3 l0_3.length c0_3) := (blk_cell BK206.out 3).trans rfl
         have hcz16_4 : wc.cell? ⟨gb206, 4, none⟩ = some (.int .i64 a0_4) := (blk_cell BK206.out 4).trans rfl
         have hfz16_0 := blk_frozen BK206.out 0
         have hfz16_1 := blk_frozen BK206.out 1
         have hfz16_2 := blk_frozen BK206.out 2
         have hfz16_3 := blk_frozen BK206.out 3
         have hfz16_4 := blk_frozen BK206.out 4
         go_wp2
         go_ret
         exact ⟨by first | rfl | (simp [errW_none, errW_some] <;> rfl) | (simp [*, errW_none, errW_some] <;> rfl), by repeat (first | (with_reducible first | exact HB.out | apply below_alloc | apply pw_below_drewN | apply below_drew1 | refine below_set ?_ GE206.out) | exact HB.out)⟩
        ·rw [if_neg c15] at H
         have c15b0 : decide ((l0_3.length : Int) ≤ 14) = false := decide_eq_false c15
         have c15b1 : decide (l0_3.length ≤ 14) = false := decide_eq_false (by omega)
         clear c15
         obtain rfl := Option.some.inj H
         have hcz17_0 : wc.cell? ⟨gb206, 0, none⟩ = some (.slice A0_0 l0_0.length c0_0) := (blk_cell BK206.out 0).trans rfl
         have hcz17_1 : wc.cell? ⟨gb206, 1, none⟩ = some (.slice A0_1 l0_1.length c0_1) := (blk_cell BK206.out 1).trans rfl
         have hcz17_2 : wc.cell? ⟨gb206, 2, none⟩ = some (.slice A0_2 l0_2.length c0_2) := (blk_cell BK206.out 2).trans rfl
         have hcz17_3 : wc.cell? ⟨gb206, 3, none⟩ = some (.slice A0_3 l0_3.length c0_3) := (blk_cell BK206.out 3).trans rfl
         have hcz17_4 : wc.cell? ⟨gb206, 4, none⟩ = some (.int .i64 a0_4) := (blk_cell BK206.out 4).trans rfl
         have hfz17_0 := blk_frozen BK206.out 0
         have hfz17_1 := blk_frozen BK206.out 1
         have hfz17_2 := blk_frozen BK206.out 2
         have hfz17_3 := blk_frozen BK206.out 3
         have hfz17_4 := blk_frozen BK206.out 4
         go_wp2
         go_ret
         exact ⟨by first | rfl | (simp [errW_none, errW_some] <;> rfl) | (simp [*, errW_none, errW_some] <;> rfl), by repeat (first | (with_reducible first | exact HB.out | apply below_alloc | apply pw_below_drewN | apply below_drew1 | refine below_set ?_ GE206.out) | exact HB.out)⟩
       ·rw [if_neg c14] at H
        have c14b0 : decide ((l0_2.length : Int) ≤ 8) = false := decide_eq_false c14
        have c14b1 : decide (l0_2.length ≤ 8) = false := decide_eq_false (by omega)
        clear c14
        obtain rfl := Option.some.inj H
        have hcz18_0 : wc.cell? ⟨gb206, 0, none⟩ = some (.slice A0_0 l0_0.length c0_0) := (blk_cell BK206.out 0).trans rfl
        have hcz18_1 : wc.cell? ⟨gb206, 1, none⟩ = some (.slice A0_1 l0_1.length c0_1) := (blk_cell BK206.out 1).trans rfl
        have hcz18_2 : wc.cell? ⟨gb206, 2, none⟩ = some (.slice A0_2 l0_2.length c0_2) := (blk_cell BK206.out 2).trans rfl
        have hcz18_3 : wc.cell? ⟨gb206, 3, none⟩ = some (.slice A0_3 l0_3.length c0_3) := (blk_cell BK206.out 3).trans rfl
        have hcz18_4 : wc.cell? ⟨gb206, 4, none⟩ = some (.int .i64 a0_4) := (blk_cell BK206.out 4).trans rfl
        have hfz18_0 := blk_frozen BK206.out 0
        have hfz18_1 := blk_frozen BK206.out 1
        have hfz18_2 := blk_frozen BK206.out 2
        have hfz18_3 := blk_frozen BK206.out 3
        have hfz18_4 := blk_frozen BK206.out 4
        go_wp2
        go_ret
        exact ⟨by first | rfl | (simp [errW_none, errW_some] <;> rfl) | (simp [*, errW_none, errW_some] <;> rfl), by repeat (first | (with_reducible first | exact HB.out | apply below_alloc | apply pw_below_drewN | apply below_drew1 | refine below_set ?_ GE206.out) | exact HB.out)⟩
      ·rw [if_neg c13] at H
       have c13b0 : decide ((l0_0.length : Int) ≤ 10) = false := decide_eq_false c13
       have c13b1 : decide (l0_0.length ≤ 10) = false := decide_eq_false (by omega)
       clear c13
       obtain rfl := Option.some.inj H
       have hcz19_0 : wc.cell? ⟨gb206, 0, none⟩ = some (.slice A0_0 l0_0.length c0_0) := (blk_cell BK206.out 0).trans rfl
       have hcz19_1 : wc.cell? ⟨gb206, 1, none⟩ = some (.slice A0_1 l0_1.length c0_1) := (blk_cell BK206.out 1).trans rfl
       have hcz19_2 : wc.cell? ⟨gb206, 2, none⟩ = some (.slice A0_2 l0_2.length c0_2) := (blk_cell BK206.out 2).trans rfl
       have hcz19_3 : wc.cell? ⟨gb206, 3, none⟩ = some (.slice A0_3 l0_3.length c0_3) := (blk_cell BK206.out 3).trans rfl
       have hcz19_4 : wc.cell? ⟨gb206, 4, none⟩ = some (.int .i64 a0_4) := (blk_cell BK206.out 4).trans rfl
       have hfz19_0 := blk_frozen BK206.out 0
       have hfz19_1 := blk_frozen BK206.out 1
       have hfz19_2 := blk_frozen BK206.out 2
       have hfz19_3 := blk_frozen BK206.out 3
       have hfz19_4 := blk_frozen BK206.out 4
       go_wp2
       go_ret
       exact ⟨by first | rfl | (simp [errW_none, errW_some] <;> rfl) | (simp [*, errW_none, errW_some] <;> rfl), by repeat (first | (with_reducible first | exact HB.out | apply below_alloc | apply pw_below_drewN | apply below_drew1 | refine below_set ?_ GE206.out) | exact HB.out)⟩

end Go.Proofs.YtclollnicbcooaaDoor.P
end

section
namespace Go.Proofs.YtclollnicbcooaaDoor.P
open Go.RowKit Go.Proofs.YtclollnicbcooaaDoorW.PrintWords Go.Proofs.YtclollnicbcooaaDoorW.PrintLast Go.Proofs.YtclollnicbcooaaDoorW.PrintMore
attribute [local go_sem] max2_int min2_int max_two min_two max_three min_three max_four min_four   -- for this text's walks alone
set_option linter.unusedVariables false
set_option linter.unusedSimpArgs false

/-! ### syntagmlaw14_Little: function 22 -/
mutual
def syntagmlaw14_Little.l0 : Nat → Bool → Int → List (S82) → List (S101) → List ByteArray → List (S64) → Int → Option (Bool)
 | 0, _, _, _, _, _, _, _ => none
 | k + 1, x3, x4, x318000, x318001, x318002, x318003, x318004 => if x4 < (x318003.length : Int) then (syntagmlaw14_Little.j1 k x3 x4 (decide (x4 < 15)) x318000 x318001 x318002 x318003 x318004) else (syntagmlaw14_Little.j1 k x3 x4 false x318000 x318001 x318002 x318003 x318004)
def syntagmlaw14_Little.j1 : Nat → Bool → Int → Bool → List (S82) → List (S101) → List ByteArray → List (S64) → Int → Option (Bool)
 | 0, _, _, _, _, _, _, _, _ => none
 | k + 1, x3, x4, x15, x318000, x318001, x318002, x318003, x318004 => if x15 = true then (if 0 ≤ x4 then (if x4 < (x318003.length : Int) then (if (((rd_T64 x318003 x4).f2).length : Int) > 5 then (some false) else (syntagmlaw14_Little.l0 k x3 (wrap64 (x4 + 1)) x318000 x318001 x318002 x318003 x318004)) else (none)) else (none)) else (if x3 = true then (some (decide ((x318003.length : Int) ≤ 10))) else (some false))
end
def syntagmlaw14_Little.f (k : Nat) (l0_0 : List (S82)) (l0_1 : List (S101)) (l0_2 : List ByteArray) (l0_3 : List (S64)) (a0_4 : Int) : Option (Bool) := (syntagmlaw13_Few.f k l0_0 l0_1 l0_2 l0_3 a0_4).bind fun t318 => (syntagmlaw14_Little.l0 k t318 0 l0_0 l0_1 l0_2 l0_3 a0_4)
set_option maxHeartbeats 8000000 in
set_option maxRecDepth 100000 in
theorem syntagmlaw14_Little.calls (k : Nat) (A0_0 : Option Addr) (c0_0 : Nat) (l0_0 : List (S82)) (A0_1 : Option Addr) (c0_1 : Nat) (l0_1 : List (S101)) (A0_2 : Option Addr) (c0_2 : Nat) (l0_2 : List ByteArray) (A0_3 : Option Addr) (c0_3 : Nat) (l0_3 : List (S64)) (a0_4 : Int) (r : Bool) (w : World) (hr0_0 : Kd.C k82 w A0_0 l0_0.length l0_0) (hc0_0 : l0_0.length ≤ c0_0) (hr0_1 : Kd.C k101 w A0_1 l0_1.length l0_1) (hc0_1 : l0_1.length ≤ c0_1) (hr0_2 : Kd.C Kd.string w A0_2 l0_2.length l0_2) (hc0_2 : l0_2.length ≤ c0_2) (hr0_3 : Kd.C k64 w A0_3 l0_3.length l0_3) (hc0_3 : l0_3.length ≤ c0_3) (h : syntagmlaw14_Little.f k l0_0 l0_1 l0_2 l0_3 a0_4 = some r) :
  Calls Tryd.prog 22 #[.agg #[.slice A0_0 l0_0.length c0_0, .slice A0_1 l0_1.length c0_1, .slice A0_2 l0_2.length c0_2, .slice A0_3 l0_3.length c0_3, .int .i64 a0_4]] w fun e w' => e = .returned (.bool r) ∧ Below w.heap.size w w' := by
 have hu27 := Tryd.underlying27
 have HR0_0 := Aside0.mk hr0_0
 have HC0_0 := Aside0.mk hc0_0
 clear hr0_0 hc0_0
 have HR0_1 := Aside0.mk hr0_1
 have HC0_1 := Aside0.mk hc0_1
 clear hr0_1 hc0_1
 have HR0_2 := Aside0.mk hr0_2
 have HC0_2 := Aside0.mk hc0_2
 clear hr0_2 hc0_2
 have HR0_3 := Aside0.mk hr0_3
 have HC0_3 := Aside0.mk hc0_3
 clear hr0_3 hc0_3
 have HB := Aside0.mk (Below.refl w.heap.size w)
 have H : ((syntagmlaw13_Few.f k l0_0 l0_1 l0_2 l0_3 a0_4).bind fun t318 => (syntagmlaw14_Little.l0 k t318 0 l0_0 l0_1 l0_2 l0_3 a0_4)) = some r := h
 clear h
 replace H := Option.bind_eq_some_iff.mp H
 obtain ⟨t318, A20, H⟩ := H
 replace H : (syntagmlaw14_Little.l0 k t318 0 l0_0 l0_1 l0_2 l0_3 a0_4) = some r := H
 have A2 := Aside0.mk A20
 clear A20
 have H' := Aside0.mk H
 clear H
 go_enter Tryd.func22, Tryd.ntmps22
 go_wp2_with (first | ((with_reducible refine gate_dst (N := 1) rfl ?_); (try (refine gate_guard (by rfl) ?_; dsimp only)); refine box_event ?hg (N := 1) ?hd (cs := #[.slice A0_0 l0_0.length c0_0, .slice A0_1 l0_1.length c0_1, .slice A0_2 l0_2.length c0_2, .slice A0_3 l0_3.length c0_3, .int .i64 a0_4]) (t := 27) ?hr ?_; (case hd => rfl); (case hg => rfl); (case hr => first | (go_simp; done) | (go_simp; rfl)); intro gb317 hg w3 hbox hb; have n0_ := Aside0.mk (below_step (by repeat (first | (with_reducible first | exact HB.out | apply below_alloc | apply pw_below_drewN | apply below_drew1) | exact HB.out)) hb); have n1_ := Aside0.mk (hbox); have n2_ := Aside0.mk ((by rw [hg]; exact (below_size (by repeat (first | (with_reducible first | exact HB.out | apply below_alloc | apply pw_below_drewN | apply below_drew1) | exact HB.out))) : w.heap.size ≤ gb317)); have n3_ := Aside0.mk ((by rw [hg]; exact (below_size (by repeat (first | (with_reducible first | exact HB.out | apply below_alloc | apply pw_below_drewN | apply below_drew1) | exact HB.out))) : w.heap.size ≤ gb317)); clear HB; have HB := n0_; have BK317 := n1_; have GW317 := n2_; have GE317 := n3_; clear n0_ n1_ n2_ n3_; clear hb hbox hg; have hcz4_0 : w3.cell? ⟨gb317, 0, none⟩ = some (.slice A0_0 l0_0.length c0_0) := (blk_cell BK317.out 0).trans rfl; have hcz4_1 : w3.cell? ⟨gb317, 1, none⟩ = some (.slice A0_1 l0_1.length c0_1) := (blk_cell BK317.out 1).trans rfl; have hcz4_2 : w3.cell? ⟨gb317, 2, none⟩ = some (.slice A0_2 l0_2.length c0_2) := (blk_cell BK317.out 2).trans rfl; have hcz4_3 : w3.cell? ⟨gb317, 3, none⟩ = some (.slice A0_3 l0_3.length c0_3) := (blk_cell BK317.out 3).trans rfl; have hcz4_4 : w3.cell? ⟨gb317, 4, none⟩ = some (.int .i64 a0_4) := (blk_cell BK317.out 4).trans rfl; have hfz4_0 := blk_frozen BK317.out 0; have hfz4_1 := blk_frozen BK317.out 1; have hfz4_2 := blk_frozen BK317.out 2; have hfz4_3 := blk_frozen BK317.out 3; have hfz4_4 := blk_frozen BK317.out 4) | ((with_reducible refine gate_callee (f := 13) rfl ?_); refine goesL_ (some 6) rfl rfl Tryd.func13 (by kernel_rfl) rfl #[.agg #[.slice A0_0 l0_0.length c0_0, .slice A0_1 l0_1.length c0_1, .slice A0_2 l0_2.length c0_2, .slice A0_3 l0_3.length c0_3, .int .i64 a0_4]] rfl (by (try simp only [List.map_toArray, List.map_cons, List.map_nil]); first | done | rfl | (simp only [List.length_drop, List.length_take]; rfl)) ?_; (with_reducible refine (syntagmlaw13_Few.calls k _ _ l0_0 _ _ l0_1 _ _ l0_2 _ _ l0_3 a0_4 t318 _ ?side1 ?side2 ?side3 ?side4 ?side5 ?side6 ?side7 ?side8 A2.out).mono ?_); (case side1 => repeat (first | exact (Kd.C_below HR0_0.out HB.out) | (with_reducible refine Kd.C_alloc ?_ _) | (with_reducible refine Kd.C_drewN ?_ _) | (with_reducible refine Kd.C_drew ?_))); (case side2 => exact HC0_0.out); (case side3 => repeat (first | exact (Kd.C_below HR0_1.out HB.out) | (with_reducible refine Kd.C_alloc ?_ _) | (with_reducible refine Kd.C_drewN ?_ _) | (with_reducible refine Kd.C_drew ?_))); (case side4 => exact HC0_1.out); (case side5 => repeat (first | exact (Kd.C_below HR0_2.out HB.out) | (with_reducible refine Kd.C_alloc ?_ _) | (with_reducible refine Kd.C_drewN ?_ _) | (with_reducible refine Kd.C_drew ?_))); (case side6 => exact HC0_2.out); (case side7 => repeat (first | exact (Kd.C_below HR0_3.out HB.out) | (with_reducible refine Kd.C_alloc ?_ _) | (with_reducible refine Kd.C_drewN ?_ _) | (with_reducible refine Kd.C_drew ?_))); (case side8 => exact HC0_3.out); rintro e w5 ⟨rfl, hb⟩; refine ⟨_, rfl, ?_⟩; have n0_ := Aside0.mk (blk_below (g := gb317) (o := .cells #[.slice A0_0 l0_0.length c0_0, .slice A0_1 l0_1.length c0_1, .slice A0_2 l0_2.length c0_2, .slice A0_3 l0_3.length c0_3, .int .i64 a0_4] 27 (0, 0)) (by (with_reducible repeat (first | refine blk_drewN ?_ _ | refine blk_drew ?_ | refine blk_alloc ?_ _)); exact BK317.out) hb); have n1_ := Aside0.mk (below_step (by repeat (first | (with_reducible first | exact HB.out | apply below_alloc | apply pw_below_drewN | apply below_drew1 | refine below_set ?_ GE317.out) | exact HB.out)) hb); clear BK317; clear HB; have BK317 := n0_; have HB := n1_; clear n0_ n1_; (try clear hb); (try clear hb2); (try clear hk); (try clear hi)))
 go_loopg [4] k (fun kq v4 w' => ∃ (x4_1 : Int), v4 = .int .i64 x4_1 ∧ Aside0 (syntagmlaw14_Little.l0 kq t318 x4_1 l0_0 l0_1 l0_2 l0_3 a0_4 = some r) ∧ Aside0 (kq ≤ k) ∧ Aside0 (w'.heap[gb317]? = some (.cells #[(.slice A0_0 l0_0.length c0_0), (.slice A0_1 l0_1.length c0_1), (.slice A0_2 l0_2.length c0_2), (.slice A0_3 l0_3.length c0_3), .int .i64 a0_4] 27 (0, 0))) ∧ Aside0 (Below w.heap.size w w'))
 case atStart => exact ⟨(0), (by first | rfl | (simp; done) | (simp [*]; done)), H', ⟨Nat.le_refl _⟩, ⟨by (with_reducible repeat (first | refine blk_drewN ?_ _ | refine blk_drew ?_ | refine blk_alloc ?_ _)); exact BK317.out⟩, ⟨by repeat (first | (with_reducible first | exact HB.out | apply below_alloc | apply pw_below_drewN | apply below_drew1 | refine below_set ?_ GE317.out) | exact HB.out)⟩⟩
 case round =>
  clear H'
  try clear c1
  try clear c2
  try clear p2
  try clear hcz4_0
  try clear hcz4_1
  try clear hcz4_2
  try clear hcz4_3
  try clear hcz4_4
  try clear hfz4_0
  try clear hfz4_1
  try clear hfz4_2
  try clear hfz4_3
  try clear hfz4_4
  obtain ⟨x4_1, rfl, HA, HK1, BK317, HB⟩ := hrel
  cases gk with
  | zero => exact absurd HA.out (by simp [syntagmlaw14_Little.l0])
  | succ k1 =>
   have H := HA.out
   clear HA
   simp only [syntagmlaw14_Little.l0] at H
   have HC6 := Aside0.mk H
   clear H
   go_upto_region 3 with (fail)
   go_cut [15] (fun v15 wc => ∃ (kq : Nat) (x15_5 : Bool), v15 = .bool x15_5 ∧ Aside0 (syntagmlaw14_Little.j1 kq t318 x4_1 x15_5 l0_0 l0_1 l0_2 l0_3 a0_4 = some r) ∧ Aside0 (kq ≤ k1) ∧ Aside0 (wc.heap[gb317]? = some (.cells #[(.slice A0_0 l0_0.length c0_0), (.slice A0_1 l0_1.length c0_1), (.slice A0_2 l0_2.length c0_2), (.slice A0_3 l0_3.length c0_3), .int .i64 a0_4] 27 (0, 0))) ∧ Aside0 (Below w.heap.size w wc))
   case first =>
    have H := HC6.out
    clear HC6
    by_cases c7 : x4_1 < (l0_3.length : Int)
    ·rw [if_pos c7] at H
     have c7b0 : decide (x4_1 < (l0_3.length : Int)) = true := decide_eq_true c7
     clear c7
     (first | rw [c7b0] | (simp only [i64_w, i32_w]; rw [c7b0]) | skip)
     have H' := Aside0.mk H
     clear H
     have hcz8_0 : wr.cell? ⟨gb317, 0, none⟩ = some (.slice A0_0 l0_0.length c0_0) := (blk_cell BK317.out 0).trans rfl
     have hcz8_1 : wr.cell? ⟨gb317, 1, none⟩ = some (.slice A0_1 l0_1.length c0_1) := (blk_cell BK317.out 1).trans rfl
     have hcz8_2 : wr.cell? ⟨gb317, 2, none⟩ = some (.slice A0_2 l0_2.length c0_2) := (blk_cell BK317.out 2).trans rfl
     have hcz8_3 : wr.cell? ⟨gb317, 3, none⟩ = some (.slice A0_3 l0_3.length c0_3) := (blk_cell BK317.out 3).trans rfl
     have hcz8_4 : wr.cell? ⟨gb317, 4, none⟩ = some (.int .i64 a0_4) := (blk_cell BK317.out 4).trans rfl
     have hfz8_0 := blk_frozen BK317.out 0
     have hfz8_1 := blk_frozen BK317.out 1
     have hfz8_2 := blk_frozen BK317.out 2
     have hfz8_3 := blk_frozen BK317.out 3
     have hfz8_4 := blk_frozen BK317.out 4
     go_wp2
     go_meet
     case rel => exact ⟨_, (decide (x4_1 < 15)), (by first | rfl | (simp; done) | (simp [*]; done)), H', ⟨by have := HK1.out; first | omega | exact Nat.le_refl _⟩, ⟨by (with_reducible repeat (first | refine blk_drewN ?_ _ | refine blk_drew ?_ | refine blk_alloc ?_ _)); exact BK317.out⟩, ⟨by repeat (first | (with_reducible first | exact HB.out | apply below_alloc | apply pw_below_drewN | apply below_drew1 | refine below_set ?_ GE317.out) | exact HB.out)⟩⟩
    ·rw [if_neg c7] at H
     have c7b0 : decide (x4_1 < (l0_3.length : Int)) = false := decide_eq_false c7
     clear c7
     (first | rw [c7b0] | (simp only [i64_w, i32_w]; rw [c7b0]) | skip)
     have H' := Aside0.mk H
     clear H
     have hcz9_0 : wr.cell? ⟨gb317, 0, none⟩ = some (.slice A0_0 l0_0.length c0_0) := (blk_cell BK317.out 0).trans rfl
     have hcz9_1 : wr.cell? ⟨gb317, 1, none⟩ = some (.slice A0_1 l0_1.length c0_1) := (blk_cell BK317.out 1).trans rfl
     have hcz9_2 : wr.cell? ⟨gb317, 2, none⟩ = some (.slice A0_2 l0_2.length c0_2) := (blk_cell BK317.out 2).trans rfl
     have hcz9_3 : wr.cell? ⟨gb317, 3, none⟩ = some (.slice A0_3 l0_3.length c0_3) := (blk_cell BK317.out 3).trans rfl
     have hcz9_4 : wr.cell? ⟨gb317, 4, none⟩ = some (.int .i64 a0_4) := (blk_cell BK317.out 4).trans rfl
     have hfz9_0 := blk_frozen BK317.out 0
     have hfz9_1 := blk_frozen BK317.out 1
     have hfz9_2 := blk_frozen BK317.out 2
     have hfz9_3 := blk_frozen BK317.out 3
     have hfz9_4 := blk_frozen BK317.out 4
     go_wp2
     go_meet
     case rel => exact ⟨_, (false), (by first | rfl | (simp; done) | (simp [*]; done)), H', ⟨by have := HK1.out; first | omega | exact Nat.le_refl _⟩, ⟨by (with_reducible repeat (first | refine blk_drewN ?_ _ | refine blk_drew ?_ | refine blk_alloc ?_ _)); exact BK317.out⟩, ⟨by repeat (first | (with_reducible first | exact HB.out | apply below_alloc | apply pw_below_drewN | apply below_drew1 | refine below_set ?_ GE317.out) | exact HB.out)⟩⟩
   case rest =>
    clear HC6
    try clear c1
    try clear c2
    try clear p2
    try clear c7
    try clear c7b0
    try clear hcz4_0
    try clear hcz4_1
    try clear hcz4_2
    try clear hcz4_3
    try clear hcz4_4
    try clear hcz8_0
    try clear hcz8_1
    try clear hcz8_2
    try clear hcz8_3
    try clear hcz8_4
    try clear hcz9_0
    try clear hcz9_1
    try clear hcz9_2
    try clear hcz9_3
    try clear hcz9_4
    try clear hfz4_0
    try clear hfz4_1
    try clear hfz4_2
    try clear hfz4_3
    try clear hfz4_4
    try clear hfz8_0
    try clear hfz8_1
    try clear hfz8_2
    try clear hfz8_3
    try clear hfz8_4
    try clear hfz9_0
    try clear hfz9_1
    try clear hfz9_2
    try clear hfz9_3
    try clear hfz9_4
    try clear p2
    obtain ⟨kq, x15_5, rfl, HA, HJ5, BK317, HB⟩ := hcut
    cases kq with
    | zero => exact absurd HA.out (by simp [syntagmlaw14_Little.j1])
    | succ kj5 =>
     have H := HA.out
     clear HA
     simp only [syntagmlaw14_Little.j1] at H
     by_cases c10 : x15_5 = true
     ·subst c10
      have H1 : (if 0 ≤ x4_1 then (if x4_1 < (l0_3.length : Int) then (if (((rd_T64 l0_3 x4_1).f2).length : Int) > 5 then (some false) else (syntagmlaw14_Little.l0 kj5 t318 (wrap64 (x4_1 + 1)) l0_0 l0_1 l0_2 l0_3 a0_4)) else (none)) else (none)) = some r := by rw [if_pos rfl] at H; exact H
      clear H
      have H := H1
      clear H1
      by_cases c11 : 0 ≤ x4_1
      ·rw [if_pos c11] at H
       have c11b0 : decide (0 ≤ x4_1) = true := decide_eq_true c11
       clear c11
       by_cases c12 : x4_1 < (l0_3.length : Int)
       ·rw [if_pos c12] at H
        have c12b0 : decide (x4_1 < (l0_3.length : Int)) = true := decide_eq_true c12
        clear c12
        by_cases c13 : (((rd_T64 l0_3 x4_1).f2).length : Int) > 5
        ·rw [if_pos c13] at H
         have c13b0 : decide (5 < (((rd_T64 l0_3 x4_1).f2).length : Int)) = true := decide_eq_true c13
         have c13b1 : decide (5 < ((rd_T64 l0_3 x4_1).f2).length) = true := decide_eq_true (by omega)
         clear c13
         obtain rfl := Option.some.inj H
         have hcz14_0 : wc.cell? ⟨gb317, 0, none⟩ = some (.slice A0_0 l0_0.length c0_0) := (blk_cell BK317.out 0).trans rfl
         have hcz14_1 : wc.cell? ⟨gb317, 1, none⟩ = some (.slice A0_1 l0_1.length c0_1) := (blk_cell BK317.out 1).trans rfl
         have hcz14_2 : wc.cell? ⟨gb317, 2, none⟩ = some (.slice A0_2 l0_2.length c0_2) := (blk_cell BK317.out 2).trans rfl
         have hcz14_3 : wc.cell? ⟨gb317, 3, none⟩ = some (.slice A0_3 l0_3.length c0_3) := (blk_cell BK317.out 3).trans rfl
         have hcz14_4 : wc.cell? ⟨gb317, 4, none⟩ = some (.int .i64 a0_4) := (blk_cell BK317.out 4).trans rfl
         have hfz14_0 := blk_frozen BK317.out 0
         have hfz14_1 := blk_frozen BK317.out 1
         have hfz14_2 := blk_frozen BK317.out 2
         have hfz14_3 := blk_frozen BK317.out 3
         have hfz14_4 := blk_frozen BK317.out 4
         have p319 : 0 ≤ (x4_1 : Int) := of_decide_eq_true (by first | (with_reducible assumption) | assumption)
         have q319 : x4_1 < (l0_3.length : Int) := of_decide_eq_true (by first | (with_reducible assumption) | assumption)
         obtain ⟨ad319, A319_2, c319_2, e319, hx319_0, hx319_1, hx319_2, hx319_3, hl319_2, hi319_2⟩ := at_T64 HR0_3.out x4_1 p319 q319
         cases e319
         replace hx319_0 := (HB.out.cell (World.block_lt_of_cell? w _ hx319_0)).trans hx319_0
         replace hx319_1 := (HB.out.cell (World.block_lt_of_cell? w _ hx319_1)).trans hx319_1
         replace hx319_2 := (HB.out.cell (World.block_lt_of_cell? w _ hx319_2)).trans hx319_2
         replace hx319_3 := (HB.out.cell (World.block_lt_of_cell? w _ hx319_3)).trans hx319_3
         have HR319_2 := Aside0.mk hi319_2
         have HC319_2 := Aside0.mk hl319_2
         clear hi319_2 hl319_2
         replace p319 := eq_true p319
         replace q319 := eq_true q319
         go_wp2
         go_ret
         exact ⟨by first | rfl | (simp [errW_none, errW_some] <;> rfl) | (simp [*, errW_none, errW_some] <;> rfl), by repeat (first | (with_reducible first | exact HB.out | apply below_alloc | apply pw_below_drewN | apply below_drew1 | refine below_set ?_ GE317.out) | exact HB.out)⟩
        ·rw [if_neg c13] at H
         have c13b0 : decide (5 < (((rd_T64 l0_3 x4_1).f2).length : Int)) = false := decide_eq_false c13
         have c13b1 : decide (5 < ((rd_T64 l0_3 x4_1).f2).length) = false := decide_eq_false (by omega)
         clear c13
         have H' := Aside0.mk H
         clear H
         have hcz15_0 : wc.cell? ⟨gb317, 0, none⟩ = some (.slice A0_0 l0_0.length c0_0) := (blk_cell BK317.out 0).trans rfl
         have hcz15_1 : wc.cell? ⟨gb317, 1, none⟩ = some (.slice A0_1 l0_1.length c0_1) := (blk_cell BK317.out 1).trans rfl
         have hcz15_2 : wc.cell? ⟨gb317, 2, none⟩ = some (.slice A0_2 l0_2.length c0_2) := (blk_cell BK317.out 2).trans rfl
         have hcz15_3 : wc.cell? ⟨gb317, 3, none⟩ = some (.slice A0_3 l0_3.length c0_3) := (blk_cell BK317.out 3).trans rfl
         have hcz15_4 : wc.cell? ⟨gb317, 4, none⟩ = some (.int .i64 a0_4) := (blk_cell BK317.out 4).trans rfl
         have hfz15_0 := blk_frozen BK317.out 0
         have hfz15_1 := blk_frozen BK317.out 1
         have hfz15_2 := blk_frozen BK317.out 2
         have hfz15_3 := blk_frozen BK317.out 3
         have hfz15_4 := blk_frozen BK317.out 4
         have p319 : 0 ≤ (x4_1 : Int) := of_decide_eq_true (by first | (with_reducible assumption) | assumption)
         have q319 : x4_1 < (l0_3.length : Int) := of_decide_eq_true (by first | (with_reducible assumption) | assumption)
         obtain ⟨ad319, A319_2, c319_2, e319, hx319_0, hx319_1, hx319_2, hx319_3, hl319_2, hi319_2⟩ := at_T64 HR0_3.out x4_1 p319 q319
         cases e319
         replace hx319_0 := (HB.out.cell (World.block_lt_of_cell? w _ hx319_0)).trans hx319_0
         replace hx319_1 := (HB.out.cell (World.block_lt_of_cell? w _ hx319_1)).trans hx319_1
         replace hx319_2 := (HB.out.cell (World.block_lt_of_cell? w _ hx319_2)).trans hx319_2
         replace hx319_3 := (HB.out.cell (World.block_lt_of_cell? w _ hx319_3)).trans hx319_3
         have HR319_2 := Aside0.mk hi319_2
         have HC319_2 := Aside0.mk hl319_2
         clear hi319_2 hl319_2
         replace p319 := eq_true p319
         replace q319 := eq_true q319
         go_wp2
         go_roundg kj5
         case measure => have := HK1.out; have := HJ5.out; omega
         case rel => exact ⟨(wrap64 (x4_1 + 1)), (by first | rfl | (simp; done) | (simp [*]; done)), H', ⟨by have := HK1.out; have := HJ5.out; omega⟩, ⟨by (with_reducible repeat (first | refine blk_drewN ?_ _ | refine blk_drew ?_ | refine blk_alloc ?_ _)); exact BK317.out⟩, ⟨by repeat (first | (with_reducible first | exact HB.out | apply below_alloc | apply pw_below_drewN | apply below_drew1 | refine below_set ?_ GE317.out) | exact HB.out)⟩⟩
       ·rw [if_neg c12] at H
        exact absurd H (by simp)
      ·rw [if_neg c11] at H
       exact absurd H (by simp)
     ·replace c10 := Bool.eq_false_iff.mpr c10
      subst c10
      have H1 : (if t318 = true then (some (decide ((l0_3.length : Int) ≤ 10))) else (some false)) = some r := by rw [if_neg (show ¬ (false = true) by decide)] at H; exact H
      clear H
      have H := H1
      clear H1
      by_cases c16 : t318 = true
      ·subst c16
       have H1 : (some (decide ((l0_3.length : Int) ≤ 10))) = some r := by rw [if_pos rfl] at H; exact H
       clear H
       have H := H1
       clear H1
       obtain rfl := Option.some.inj H
       have hcz17_0 : wc.cell? ⟨gb317, 0, none⟩ = some (.slice A0_0 l0_0.length c0_0) := (blk_cell BK317.out 0).trans rfl
       have hcz17_1 : wc.cell? ⟨gb317, 1, none⟩ = some (.slice A0_1 l0_1.length c0_1) := (blk_cell BK317.out 1).trans rfl
       have hcz17_2 : wc.cell? ⟨gb317, 2, none⟩ = some (.slice A0_2 l0_2.length c0_2) := (blk_cell BK317.out 2).trans rfl
       have hcz17_3 : wc.cell? ⟨gb317, 3, none⟩ = some (.slice A0_3 l0_3.length c0_3) := (blk_cell BK317.out 3).trans rfl
       have hcz17_4 : wc.cell? ⟨gb317, 4, none⟩ = some (.int .i64 a0_4) := (blk_cell BK317.out 4).trans rfl
       have hfz17_0 := blk_frozen BK317.out 0
       have hfz17_1 := blk_frozen BK317.out 1
       have hfz17_2 := blk_frozen BK317.out 2
       have hfz17_3 := blk_frozen BK317.out 3
       have hfz17_4 := blk_frozen BK317.out 4
       go_wp2
       go_ret
       exact ⟨by first | rfl | (simp [errW_none, errW_some] <;> rfl) | (simp [*, errW_none, errW_some] <;> rfl), by repeat (first | (with_reducible first | exact HB.out | apply below_alloc | apply pw_below_drewN | apply below_drew1 | refine below_set ?_ GE317.out) | exact HB.out)⟩
      ·replace c16 := Bool.eq_false_iff.mpr c16
       subst c16
       have H1 : (some false) = some r := by rw [if_neg (show ¬ (false = true) by decide)] at H; exact H
       clear H
       have H := H1
       clear H1
       obtain rfl := Option.some.inj H
       go_wp2
       go_ret
       exact ⟨by first | rfl | (simp [errW_none, errW_some] <;> rfl) | (simp [*, errW_none, errW_some] <;> rfl), by repeat (first | (with_reducible first | exact HB.out | apply below_alloc | apply pw_below_drewN | apply below_drew1 | refine below_set ?_ GE317.out) | exact HB.out)⟩

end Go.Proofs.YtclollnicbcooaaDoor.P
end
