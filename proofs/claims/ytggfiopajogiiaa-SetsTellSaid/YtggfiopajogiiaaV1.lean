/- Texts of this claim put together: Px1, SRow, SMoreS, SGrowS, SKnown, SFirst, SOf, SFolP, SFollow, Px3, Px4, SVal, SRefV. -/
import Derived.Test.YtggfiopajogiiaaV0
import Derived.IntWalk
import Derived.WalkMore
import Derived.Deep.RegionHeld3
section
namespace Go.Proofs.Ytggfiopajogiiaa.P
open Go.RowKit Go.Proofs.YtggfiopajogiiaaW.PrintWords Go.Proofs.YtggfiopajogiiaaW.PrintLast Go.Proofs.YtggfiopajogiiaaW.PrintMore
attribute [local go_sem] max2_int min2_int max_two min_two max_three min_three max_four min_four   -- for this text's walks alone
set_option linter.unusedVariables false
set_option linter.unusedSimpArgs false

/-! ### inst_in: function 35 -/
def inst_in.f (a0 : Int) (a1 : Int) : Option (Bool) := if a0 ≥ 0 then (some (decide (a0 < a1))) else (some false)
set_option maxHeartbeats 8000000 in
set_option maxRecDepth 100000 in
theorem inst_in.calls (a0 : Int) (a1 : Int) (r : Bool) (w : World) (h : inst_in.f a0 a1 = some r) :
  Calls Try.prog 35 #[.int .i64 a0, .int .i64 a1] w fun e w' => e = .returned (.bool r) ∧ Drawn0 w w' := by
 have H : (if a0 ≥ 0 then (some (decide (a0 < a1))) else (some false)) = some r := h
 clear h
 by_cases c3 : a0 ≥ 0
 ·rw [if_pos c3] at H
  have c3b0 : decide (0 ≤ a0) = true := decide_eq_true c3
  clear c3
  obtain rfl := Option.some.inj H
  go_enter Try.func35, Try.ntmps35
  go_wp2
  go_ret
  exact ⟨by first | rfl | (simp; done) | (simp [*]; done), by repeat (first | exact Drawn0.refl _ | apply Drawn0.step)⟩
 ·rw [if_neg c3] at H
  have c3b0 : decide (0 ≤ a0) = false := decide_eq_false c3
  clear c3
  obtain rfl := Option.some.inj H
  go_enter Try.func35, Try.ntmps35
  go_wp2
  go_ret
  exact ⟨by first | rfl | (simp; done) | (simp [*]; done), by repeat (first | exact Drawn0.refl _ | apply Drawn0.step)⟩

-- NOT PRINTED: function 53 (api_Sym_53)

-- NOT PRINTED: function 37 (api_Sym_37)

-- NOT PRINTED: function 39 (inst_rising_string)

-- NOT PRINTED: function 40 (api_Term)

-- NOT PRINTED: function 42 (api_Prod)

-- NOT PRINTED: function 46 (sets_grow_bool)

/-! ### sets_Empty: function 12 -/
def sets_Empty.f (k : Nat) (l0_0 : List (S51)) (l0_1 : List (S63)) (l0_2 : List ByteArray) (l0_3 : List (S45)) (a0_4 : Int) : Option (List Bool) := (sets_all.f k l0_0 l0_1 l0_2 l0_3 a0_4 false).bind fun t102 => (some t102)
theorem sets_Empty.mono : ∀ a0 a1 a2 a3 a4 k, LeO (sets_Empty.f k a0 a1 a2 a3 a4) (sets_Empty.f (k + 1) a0 a1 a2 a3 a4) := by
 intro a0 a1 a2 a3 a4 k
 unfold sets_Empty.f
 repeat' first
   | (with_reducible exact sets_all.mono _ _ _ _ _ _ _)
   | (with_reducible exact LeO.refl _)
   | (with_reducible exact LeO.none _)
   | (with_reducible refine LeO.ite ?_ ?_)
   | (with_reducible refine LeO.bind ?_ (fun _ => ?_))
   | exact sets_all.mono _ _ _ _ _ _ _
   | exact LeO.none _
   | refine LeO.ite ?_ ?_
   | refine LeO.bind ?_ (fun _ => ?_)
set_option maxHeartbeats 8000000 in
set_option maxRecDepth 100000 in
theorem sets_Empty.calls (k : Nat) (A0_0 : Option Addr) (c0_0 : Nat) (l0_0 : List (S51)) (A0_1 : Option Addr) (c0_1 : Nat) (l0_1 : List (S63)) (A0_2 : Option Addr) (c0_2 : Nat) (l0_2 : List ByteArray) (A0_3 : Option Addr) (c0_3 : Nat) (l0_3 : List (S45)) (a0_4 : Int) (r : List Bool) (w : World) (hr0_0 : Kd.C k51 w A0_0 l0_0.length l0_0) (hc0_0 : l0_0.length ≤ c0_0) (hr0_1 : Kd.C k63 w A0_1 l0_1.length l0_1) (hc0_1 : l0_1.length ≤ c0_1) (hr0_2 : Kd.C Kd.string w A0_2 l0_2.length l0_2) (hc0_2 : l0_2.length ≤ c0_2) (hr0_3 : Kd.C k45 w A0_3 l0_3.length l0_3) (hc0_3 : l0_3.length ≤ c0_3) (h : sets_Empty.f k l0_0 l0_1 l0_2 l0_3 a0_4 = some r) :
  Calls Try.prog 12 #[.agg #[.slice A0_0 l0_0.length c0_0, .slice A0_1 l0_1.length c0_1, .slice A0_2 l0_2.length c0_2, .slice A0_3 l0_3.length c0_3, .int .i64 a0_4]] w fun e w' => ∃ v0_ : Value, e = .returned (v0_) ∧ Kd.R Kd.bool 4 w' w.heap.size (fun _ => True) v0_ r ∧ Below w.heap.size w w' := by
 have hu27 := Try.underlying27
 have HR0_0 := Aside0.mk hr0_0
 have HC0_0 := Aside0.mk hc0_0
 clear hr0_0 hc0_0
 have HR0_1 := Aside0.mk hr0_1
 have HC0_1 := Aside0.mk hc0_1
 clear hr0_1 hc0_1
 have HR0_2 := Aside0.mk hr0_2
 have HC0_2 := Aside0.mk hc0_2
 clear hr0_2 hc0_2
 have HR0_3 := Aside0.mk hr0_3
 have HC0_3 := Aside0.mk hc0_3
 clear hr0_3 hc0_3
 have HB := Aside0.mk (Below.refl w.heap.size w)
 have H : ((sets_all.f k l0_0 l0_1 l0_2 l0_3 a0_4 false).bind fun t102 => (some t102)) = some r := h
 clear h
 replace H := Option.bind_eq_some_iff.mp H
 obtain ⟨t102, A20, H⟩ := H
 replace H : (some t102) = some r := H
 have A2 := Aside0.mk A20
 clear A20
 obtain rfl := Option.some.inj H
 go_enter Try.func12, Try.ntmps12
 go_wp2_with (first | ((with_reducible refine gate_dst (N := 1) rfl ?_); refine box_event ?hg (N := 1) ?hd (cs := #[.slice A0_0 l0_0.length c0_0, .slice A0_1 l0_1.length c0_1, .slice A0_2 l0_2.length c0_2, .slice A0_3 l0_3.length c0_3, .int .i64 a0_4]) (t := 27) ?hr ?_; (case hd => rfl); (case hg => rfl); (case hr => first | (go_simp; done) | (go_simp; rfl)); intro gb101 hg w3 hbox hb; have n0_ := Aside0.mk (below_step (by repeat (first | (with_reducible first | exact HB.out | apply below_alloc | apply pw_below_drewN | apply below_drew1) | exact HB.out)) hb); have n1_ := Aside0.mk (hbox); have n2_ := Aside0.mk ((by rw [hg]; exact (below_size (by repeat (first | (with_reducible first | exact HB.out | apply below_alloc | apply pw_below_drewN | apply below_drew1) | exact HB.out))) : w.heap.size ≤ gb101)); have n3_ := Aside0.mk ((by rw [hg]; exact (below_size (by repeat (first | (with_reducible first | exact HB.out | apply below_alloc | apply pw_below_drewN | apply below_drew1) | exact HB.out))) : w.heap.size ≤ gb101)); clear HB; have HB := n0_; have BK101 := n1_; have GW101 := n2_; have GE101 := n3_; clear n0_ n1_ n2_ n3_; clear hb hbox hg; have hcz4_0 : w3.cell? ⟨gb101, 0, none⟩ = some (.slice A0_0 l0_0.length c0_0) := (blk_cell BK101.out 0).trans rfl; have hcz4_1 : w3.cell? ⟨gb101, 1, none⟩ = some (.slice A0_1 l0_1.length c0_1) := (blk_cell BK101.out 1).trans rfl; have hcz4_2 : w3.cell? ⟨gb101, 2, none⟩ = some (.slice A0_2 l0_2.length c0_2) := (blk_cell BK101.out 2).trans rfl; have hcz4_3 : w3.cell? ⟨gb101, 3, none⟩ = some (.slice A0_3 l0_3.length c0_3) := (blk_cell BK101.out 3).trans rfl; have hcz4_4 : w3.cell? ⟨gb101, 4, none⟩ = some (.int .i64 a0_4) := (blk_cell BK101.out 4).trans rfl; have hfz4_0 := blk_frozen BK101.out 0; have hfz4_1 := blk_frozen BK101.out 1; have hfz4_2 := blk_frozen BK101.out 2; have hfz4_3 := blk_frozen BK101.out 3; have hfz4_4 := blk_frozen BK101.out 4) | ((with_reducible refine gate_callee (f := 27) rfl ?_); refine goesL_ (some 4) rfl rfl Try.func27 (by kernel_rfl) rfl #[.agg #[.slice A0_0 l0_0.length c0_0, .slice A0_1 l0_1.length c0_1, .slice A0_2 l0_2.length c0_2, .slice A0_3 l0_3.length c0_3, .int .i64 a0_4], .bool false] rfl (by (try simp only [List.map_toArray, List.map_cons, List.map_nil]); first | done | rfl | (simp only [List.length_drop, List.length_take]; rfl)) ?_; (with_reducible refine (sets_all.calls k _ _ l0_0 _ _ l0_1 _ _ l0_2 _ _ l0_3 a0_4 false t102 _ ?side1 ?side2 ?side3 ?side4 ?side5 ?side6 ?side7 ?side8 A2.out).mono ?_); (case side1 => repeat (first | exact (Kd.C_below HR0_0.out HB.out) | (with_reducible refine Kd.C_alloc ?_ _) | (with_reducible refine Kd.C_drewN ?_ _) | (with_reducible refine Kd.C_drew ?_))); (case side2 => exact HC0_0.out); (case side3 => repeat (first | exact (Kd.C_below HR0_1.out HB.out) | (with_reducible refine Kd.C_alloc ?_ _) | (with_reducible refine Kd.C_drewN ?_ _) | (with_reducible refine Kd.C_drew ?_))); (case side4 => exact HC0_1.out); (case side5 => repeat (first | exact (Kd.C_below HR0_2.out HB.out) | (with_reducible refine Kd.C_alloc ?_ _) | (with_reducible refine Kd.C_drewN ?_ _) | (with_reducible refine Kd.C_drew ?_))); (case side6 => exact HC0_2.out); (case side7 => repeat (first | exact (Kd.C_below HR0_3.out HB.out) | (with_reducible refine Kd.C_alloc ?_ _) | (with_reducible refine Kd.C_drewN ?_ _) | (with_reducible refine Kd.C_drew ?_))); (case side8 => exact HC0_3.out); rintro e w5 ⟨v103, rfl, ho0, hb⟩; refine ⟨_, rfl, ?_⟩; have n0_ := Aside0.mk (Kd.R_lower ho0 (below_size (by repeat (first | (with_reducible first | exact HB.out | apply below_alloc | apply pw_below_drewN | apply below_drew1 | refine below_set ?_ GE101.out) | exact HB.out)))); have n1_ := Aside0.mk (blk_below (g := gb101) (o := .cells #[.slice A0_0 l0_0.length c0_0, .slice A0_1 l0_1.length c0_1, .slice A0_2 l0_2.length c0_2, .slice A0_3 l0_3.length c0_3, .int .i64 a0_4] 27 (0, 0)) (by (with_reducible repeat (first | refine blk_drewN ?_ _ | refine blk_drew ?_ | refine blk_alloc ?_ _)); exact BK101.out) hb); have n2_ := Aside0.mk (below_step (by repeat (first | (with_reducible first | exact HB.out | apply below_alloc | apply pw_below_drewN | apply below_drew1 | refine below_set ?_ GE101.out) | exact HB.out)) hb); clear BK101; clear HB; have HO104 := n0_; have BK101 := n1_; have HB := n2_; clear n0_ n1_ n2_; (try clear hb); (try clear hb2); (try clear hk); (try clear hi); (try clear ho0)))
 go_ret
 exact ⟨_, by first | rfl | (simp [errW_none, errW_some] <;> rfl) | (simp [*, errW_none, errW_some] <;> rfl), by (with_reducible repeat (first | apply Kd.R_alloc | apply Kd.R_drewN | apply Kd.R_drew)); exact HO104.out, by repeat (first | (with_reducible first | exact HB.out | apply below_alloc | apply pw_below_drewN | apply below_drew1 | refine below_set ?_ GE101.out) | exact HB.out)⟩

/-! ### sets_Lives: function 14 -/
def sets_Lives.f (k : Nat) (l0_0 : List (S51)) (l0_1 : List (S63)) (l0_2 : List ByteArray) (l0_3 : List (S45)) (a0_4 : Int) : Option (List Bool) := (sets_all.f k l0_0 l0_1 l0_2 l0_3 a0_4 true).bind fun t106 => (some t106)
theorem sets_Lives.mono : ∀ a0 a1 a2 a3 a4 k, LeO (sets_Lives.f k a0 a1 a2 a3 a4) (sets_Lives.f (k + 1) a0 a1 a2 a3 a4) := by
 intro a0 a1 a2 a3 a4 k
 unfold sets_Lives.f
 repeat' first
   | (with_reducible exact sets_all.mono _ _ _ _ _ _ _)
   | (with_reducible exact LeO.refl _)
   | (with_reducible exact LeO.none _)
   | (with_reducible refine LeO.ite ?_ ?_)
   | (with_reducible refine LeO.bind ?_ (fun _ => ?_))
   | exact sets_all.mono _ _ _ _ _ _ _
   | exact LeO.none _
   | refine LeO.ite ?_ ?_
   | refine LeO.bind ?_ (fun _ => ?_)
set_option maxHeartbeats 8000000 in
set_option maxRecDepth 100000 in
theorem sets_Lives.calls (k : Nat) (A0_0 : Option Addr) (c0_0 : Nat) (l0_0 : List (S51)) (A0_1 : Option Addr) (c0_1 : Nat) (l0_1 : List (S63)) (A0_2 : Option Addr) (c0_2 : Nat) (l0_2 : List ByteArray) (A0_3 : Option Addr) (c0_3 : Nat) (l0_3 : List (S45)) (a0_4 : Int) (r : List Bool) (w : World) (hr0_0 : Kd.C k51 w A0_0 l0_0.length l0_0) (hc0_0 : l0_0.length ≤ c0_0) (hr0_1 : Kd.C k63 w A0_1 l0_1.length l0_1) (hc0_1 : l0_1.length ≤ c0_1) (hr0_2 : Kd.C Kd.string w A0_2 l0_2.length l0_2) (hc0_2 : l0_2.length ≤ c0_2) (hr0_3 : Kd.C k45 w A0_3 l0_3.length l0_3) (hc0_3 : l0_3.length ≤ c0_3) (h : sets_Lives.f k l0_0 l0_1 l0_2 l0_3 a0_4 = some r) :
  Calls Try.prog 14 #[.agg #[.slice A0_0 l0_0.length c0_0, .slice A0_1 l0_1.length c0_1, .slice A0_2 l0_2.length c0_2, .slice A0_3 l0_3.length c0_3, .int .i64 a0_4]] w fun e w' => ∃ v0_ : Value, e = .returned (v0_) ∧ Kd.R Kd.bool 4 w' w.heap.size (fun _ => True) v0_ r ∧ Below w.heap.size w w' := by
 have hu27 := Try.underlying27
 have HR0_0 := Aside0.mk hr0_0
 have HC0_0 := Aside0.mk hc0_0
 clear hr0_0 hc0_0
 have HR0_1 := Aside0.mk hr0_1
 have HC0_1 := Aside0.mk hc0_1
 clear hr0_1 hc0_1
 have HR0_2 := Aside0.mk hr0_2
 have HC0_2 := Aside0.mk hc0_2
 clear hr0_2 hc0_2
 have HR0_3 := Aside0.mk hr0_3
 have HC0_3 := Aside0.mk hc0_3
 clear hr0_3 hc0_3
 have HB := Aside0.mk (Below.refl w.heap.size w)
 have H : ((sets_all.f k l0_0 l0_1 l0_2 l0_3 a0_4 true).bind fun t106 => (some t106)) = some r := h
 clear h
 replace H := Option.bind_eq_some_iff.mp H
 obtain ⟨t106, A20, H⟩ := H
 replace H : (some t106) = some r := H
 have A2 := Aside0.mk A20
 clear A20
 obtain rfl := Option.some.inj H
 go_enter Try.func14, Try.ntmps14
 go_wp2_with (first | ((with_reducible refine gate_dst (N := 1) rfl ?_); refine box_event ?hg (N := 1) ?hd (cs := #[.slice A0_0 l0_0.length c0_0, .slice A0_1 l0_1.length c0_1, .slice A0_2 l0_2.length c0_2, .slice A0_3 l0_3.length c0_3, .int .i64 a0_4]) (t := 27) ?hr ?_; (case hd => rfl); (case hg => rfl); (case hr => first | (go_simp; done) | (go_simp; rfl)); intro gb105 hg w3 hbox hb; have n0_ := Aside0.mk (below_step (by repeat (first | (with_reducible first | exact HB.out | apply below_alloc | apply pw_below_drewN | apply below_drew1) | exact HB.out)) hb); have n1_ := Aside0.mk (hbox); have n2_ := Aside0.mk ((by rw [hg]; exact (below_size (by repeat (first | (with_reducible first | exact HB.out | apply below_alloc | apply pw_below_drewN | apply below_drew1) | exact HB.out))) : w.heap.size ≤ gb105)); have n3_ := Aside0.mk ((by rw [hg]; exact (below_size (by repeat (first | (with_reducible first | exact HB.out | apply below_alloc | apply pw_below_drewN | apply below_drew1) | exact HB.out))) : w.heap.size ≤ gb105)); clear HB; have HB := n0_; have BK105 := n1_; have GW105 := n2_; have GE105 := n3_; clear n0_ n1_ n2_ n3_; clear hb hbox hg; have hcz4_0 : w3.cell? ⟨gb105, 0, none⟩ = some (.slice A0_0 l0_0.length c0_0) := (blk_cell BK105.out 0).trans rfl; have hcz4_1 : w3.cell? ⟨gb105, 1, none⟩ = some (.slice A0_1 l0_1.length c0_1) := (blk_cell BK105.out 1).trans rfl; have hcz4_2 : w3.cell? ⟨gb105, 2, none⟩ = some (.slice A0_2 l0_2.length c0_2) := (blk_cell BK105.out 2).trans rfl; have hcz4_3 : w3.cell? ⟨gb105, 3, none⟩ = some (.slice A0_3 l0_3.length c0_3) := (blk_cell BK105.out 3).trans rfl; have hcz4_4 : w3.cell? ⟨gb105, 4, none⟩ = some (.int .i64 a0_4) := (blk_cell BK105.out 4).trans rfl; have hfz4_0 := blk_frozen BK105.out 0; have hfz4_1 := blk_frozen BK105.out 1; have hfz4_2 := blk_frozen BK105.out 2; have hfz4_3 := blk_frozen BK105.out 3; have hfz4_4 := blk_frozen BK105.out 4) | ((with_reducible refine gate_callee (f := 27) rfl ?_); refine goesL_ (some 4) rfl rfl Try.func27 (by kernel_rfl) rfl #[.agg #[.slice A0_0 l0_0.length c0_0, .slice A0_1 l0_1.length c0_1, .slice A0_2 l0_2.length c0_2, .slice A0_3 l0_3.length c0_3, .int .i64 a0_4], .bool true] rfl (by (try simp only [List.map_toArray, List.map_cons, List.map_nil]); first | done | rfl | (simp only [List.length_drop, List.length_take]; rfl)) ?_; (with_reducible refine (sets_all.calls k _ _ l0_0 _ _ l0_1 _ _ l0_2 _ _ l0_3 a0_4 true t106 _ ?side1 ?side2 ?side3 ?side4 ?side5 ?side6 ?side7 ?side8 A2.out).mono ?_); (case side1 => repeat (first | exact (Kd.C_below HR0_0.out HB.out) | (with_reducible refine Kd.C_alloc ?_ _) | (with_reducible refine Kd.C_drewN ?_ _) | (with_reducible refine Kd.C_drew ?_))); (case side2 => exact HC0_0.out); (case side3 => repeat (first | exact (Kd.C_below HR0_1.out HB.out) | (with_reducible refine Kd.C_alloc ?_ _) | (with_reducible refine Kd.C_drewN ?_ _) | (with_reducible refine Kd.C_drew ?_))); (case side4 => exact HC0_1.out); (case side5 => repeat (first | exact (Kd.C_below HR0_2.out HB.out) | (with_reducible refine Kd.C_alloc ?_ _) | (with_reducible refine Kd.C_drewN ?_ _) | (with_reducible refine Kd.C_drew ?_))); (case side6 => exact HC0_2.out); (case side7 => repeat (first | exact (Kd.C_below HR0_3.out HB.out) | (with_reducible refine Kd.C_alloc ?_ _) | (with_reducible refine Kd.C_drewN ?_ _) | (with_reducible refine Kd.C_drew ?_))); (case side8 => exact HC0_3.out); rintro e w5 ⟨v107, rfl, ho0, hb⟩; refine ⟨_, rfl, ?_⟩; have n0_ := Aside0.mk (Kd.R_lower ho0 (below_size (by repeat (first | (with_reducible first | exact HB.out | apply below_alloc | apply pw_below_drewN | apply below_drew1 | refine below_set ?_ GE105.out) | exact HB.out)))); have n1_ := Aside0.mk (blk_below (g := gb105) (o := .cells #[.slice A0_0 l0_0.length c0_0, .slice A0_1 l0_1.length c0_1, .slice A0_2 l0_2.length c0_2, .slice A0_3 l0_3.length c0_3, .int .i64 a0_4] 27 (0, 0)) (by (with_reducible repeat (first | refine blk_drewN ?_ _ | refine blk_drew ?_ | refine blk_alloc ?_ _)); exact BK105.out) hb); have n2_ := Aside0.mk (below_step (by repeat (first | (with_reducible first | exact HB.out | apply below_alloc | apply pw_below_drewN | apply below_drew1 | refine below_set ?_ GE105.out) | exact HB.out)) hb); clear BK105; clear HB; have HO108 := n0_; have BK105 := n1_; have HB := n2_; clear n0_ n1_ n2_; (try clear hb); (try clear hb2); (try clear hk); (try clear hi); (try clear ho0)))
 go_ret
 exact ⟨_, by first | rfl | (simp [errW_none, errW_some] <;> rfl) | (simp [*, errW_none, errW_some] <;> rfl), by (with_reducible repeat (first | apply Kd.R_alloc | apply Kd.R_drewN | apply Kd.R_drew)); exact HO108.out, by repeat (first | (with_reducible first | exact HB.out | apply below_alloc | apply pw_below_drewN | apply below_drew1 | refine below_set ?_ GE105.out) | exact HB.out)⟩

-- NOT PRINTED: function 48 (api_Set)

-- NOT PRINTED: function 29 (sets_known)

/-! ### bits_bit: function 44 -/
def bits_bit.f (a0 : Int) : Option (Int) := if a0 < 0 then (some 0) else (if a0 ≥ 64 then (some 0) else (if 0 ≤ a0 then (some (shl .u64 1 a0)) else (none)))
set_option maxHeartbeats 8000000 in
set_option maxRecDepth 100000 in
theorem bits_bit.calls (a0 : Int) (r : Int) (w : World) (h : bits_bit.f a0 = some r) :
  Calls Try.prog 44 #[.int .i64 a0] w fun e w' => e = .returned (.int .u64 r) ∧ Drawn0 w w' := by
 have H : (if a0 < 0 then (some 0) else (if a0 ≥ 64 then (some 0) else (if 0 ≤ a0 then (some (shl .u64 1 a0)) else (none)))) = some r := h
 clear h
 by_cases c2 : a0 < 0
 ·rw [if_pos c2] at H
  have c2b0 : decide (a0 < 0) = true := decide_eq_true c2
  clear c2
  obtain rfl := Option.some.inj H
  go_enter Try.func44, Try.ntmps44
  go_wp2
  go_ret
  exact ⟨by first | rfl | (simp; done) | (simp [*]; done), by repeat (first | exact Drawn0.refl _ | apply Drawn0.step)⟩
 ·rw [if_neg c2] at H
  have c2b0 : decide (a0 < 0) = false := decide_eq_false c2
  clear c2
  by_cases c3 : a0 ≥ 64
  ·rw [if_pos c3] at H
   have c3b0 : decide (64 ≤ a0) = true := decide_eq_true c3
   clear c3
   obtain rfl := Option.some.inj H
   go_enter Try.func44, Try.ntmps44
   go_wp2
   go_ret
   exact ⟨by first | rfl | (simp; done) | (simp [*]; done), by repeat (first | exact Drawn0.refl _ | apply Drawn0.step)⟩
  ·rw [if_neg c3] at H
   have c3b0 : decide (64 ≤ a0) = false := decide_eq_false c3
   clear c3
   by_cases c4 : 0 ≤ a0
   ·rw [if_pos c4] at H
    have c4b0 := eq_true c4
    have c4b1 : decide (0 ≤ a0) = true := decide_eq_true c4
    clear c4
    obtain ⟨ji5, hji5⟩ : ∃ j_ : Int, (shl .u64 1 a0) = j_ := ⟨_, rfl⟩
    replace H : (some ji5) = some r := by first | (rw [hji5] at H; exact H) | (simp only [hji5] at H ⊢; exact H)
    have hji5_ : (IntKind.u64.wrap (1 * 2 ^ min a0.toNat 64)) = ji5 := hji5
    have hji5z : a0 ≤ 64 → (IntKind.u64.wrap (1 * 2 ^ a0.toNat)) = ji5 := shl_small hji5
    have hji5u : (IntKind.u64.wrap (2 ^ min a0.toNat 64)) = ji5 := by have h_ := hji5_; rw [Int.one_mul] at h_; exact h_
    have hji5v : a0 ≤ 64 → (IntKind.u64.wrap (2 ^ a0.toNat)) = ji5 := fun hle_ => by have h_ := hji5z hle_; rw [Int.one_mul] at h_; exact h_
    obtain rfl := Option.some.inj H
    go_enter Try.func44, Try.ntmps44
    go_wp2
    go_ret
    exact ⟨by first | rfl | (simp; done) | (simp only [← hji5] <;> (first | rfl | simp)) | (simp [*]; done), by repeat (first | exact Drawn0.refl _ | apply Drawn0.step)⟩
   ·rw [if_neg c4] at H
    exact absurd H (by simp)

/-! ### bits_Of: function 24 -/
def bits_Of.l0 : Nat → Int → List Int → Int → Int → Option (Int)
 | 0, _, _, _, _ => none
 | k + 1, x3, x6, x7, x8 => if x8 < x7 then (if 0 ≤ x8 then (if x8 < (x6.length : Int) then ((bits_bit.f (rd x6 x8)).bind fun t119 => (bits_Of.l0 k (Go.bits .or .u64 x3 t119) x6 x7 (wrap64 (x8 + 1)))) else (none)) else (none)) else (some x3)
def bits_Of.f (k : Nat) (l0 : List Int) : Option (Int) := bits_Of.l0 k 0 l0 (l0.length : Int) 0
theorem bits_Of.mono_l : ∀ k, (∀ y0 y1 y2 y3, LeO (bits_Of.l0 k y0 y1 y2 y3) (bits_Of.l0 (k + 1) y0 y1 y2 y3))
 | 0 => fun _ _ _ _ r h => by simp [bits_Of.l0] at h
 | k + 1 => by
  have ih0 := bits_Of.mono_l k
  ·intro y0 y1 y2 y3
   unfold bits_Of.l0
   repeat' first
   | (with_reducible exact ih0 _ _ _ _)
   | (with_reducible exact LeO.refl _)
   | (with_reducible exact LeO.none _)
   | (with_reducible refine LeO.ite ?_ ?_)
   | (with_reducible refine LeO.bind ?_ (fun _ => ?_))
   | exact ih0 _ _ _ _
   | exact LeO.none _
   | refine LeO.ite ?_ ?_
   | refine LeO.bind ?_ (fun _ => ?_)
theorem bits_Of.mono : ∀ a0 k, LeO (bits_Of.f k a0) (bits_Of.f (k + 1) a0) := by
 intro a0 k
 have ih0 := bits_Of.mono_l k
 unfold bits_Of.f
 repeat' first
   | (with_reducible exact ih0 _ _ _ _)
   | (with_reducible exact LeO.refl _)
   | (with_reducible exact LeO.none _)
   | (with_reducible refine LeO.ite ?_ ?_)
   | (with_reducible refine LeO.bind ?_ (fun _ => ?_))
   | exact ih0 _ _ _ _
   | exact LeO.none _
   | refine LeO.ite ?_ ?_
   | refine LeO.bind ?_ (fun _ => ?_)
set_option maxHeartbeats 8000000 in
set_option maxRecDepth 100000 in
theorem bits_Of.calls (k : Nat) (A0 : Option Addr) (c0 : Nat) (l0 : List Int) (r : Int) (w : World) (hr0 : Kd.C (Kd.int .i64) w A0 l0.length l0) (hc0 : l0.length ≤ c0) (h : bits_Of.f k l0 = some r) :
  Calls Try.prog 24 #[.slice A0 l0.length c0] w fun e w' => e = .returned (.int .u64 r) ∧ Drawn0 w w' := by
 have HR0 := Aside0.mk hr0
 have HC0 := Aside0.mk hc0
 clear hr0 hc0
 have H : (bits_Of.l0 k 0 l0 (l0.length : Int) 0) = some r := h
 clear h
 have H' := Aside0.mk H
 clear H
 go_enter Try.func24, Try.ntmps24
 go_wp2
 go_loopg [3, 8] k (fun kq v3 v8 w' => ∃ (x3_1 : Int) (x8_1 : Int), v3 = .int .u64 x3_1 ∧ v8 = .int .i64 x8_1 ∧ Aside0 (bits_Of.l0 kq x3_1 l0 (l0.length : Int) x8_1 = some r) ∧ Aside0 (kq ≤ k) ∧ Drawn0 w w')
 case atStart => exact ⟨(0), (0), (by first | rfl | (simp; done) | (simp [*]; done)), (by first | rfl | (simp; done) | (simp [*]; done)), H', ⟨Nat.le_refl _⟩, by repeat (first | exact Drawn0.refl _ | apply Drawn0.step)⟩
 case round =>
  clear H'
  obtain ⟨x3_1, x8_1, rfl, rfl, HA, HK1, ⟨m1, rfl⟩⟩ := hrel
  cases gk with
  | zero => exact absurd HA.out (by simp [bits_Of.l0])
  | succ k1 =>
   have H := HA.out
   clear HA
   simp only [bits_Of.l0] at H
   by_cases c2 : x8_1 < (l0.length : Int)
   ·rw [if_pos c2] at H
    have c2b0 : decide (x8_1 < (l0.length : Int)) = true := decide_eq_true c2
    clear c2
    by_cases c3 : 0 ≤ x8_1
    ·rw [if_pos c3] at H
     have c3b0 : decide (0 ≤ x8_1) = true := decide_eq_true c3
     clear c3
     by_cases c4 : x8_1 < (l0.length : Int)
     ·rw [if_pos c4] at H
      have c4b0 : decide (x8_1 < (l0.length : Int)) = true := decide_eq_true c4
      clear c4
      replace H := Option.bind_eq_some_iff.mp H
      obtain ⟨t119, A50, H⟩ := H
      replace H : (bits_Of.l0 k1 (Go.bits .or .u64 x3_1 t119) l0 (l0.length : Int) (wrap64 (x8_1 + 1))) = some r := H
      have A5 := Aside0.mk A50
      clear A50
      have H' := Aside0.mk H
      clear H
      have p118 : 0 ≤ (x8_1 : Int) := of_decide_eq_true (by first | (with_reducible assumption) | assumption)
      have q118 : x8_1 < (l0.length : Int) := of_decide_eq_true (by first | (with_reducible assumption) | assumption)
      obtain ⟨ad118, e118, hx118_0⟩ := Kd.at_int HR0.out x8_1 p118 q118
      cases e118
      replace p118 := eq_true p118
      replace q118 := eq_true q118
      go_wp2_with (first | ((with_reducible refine gate_callee (f := 44) rfl ?_); refine goesL_ (some 14) rfl rfl Try.func44 (by kernel_rfl) rfl #[.int .i64 (rd l0 x8_1)] rfl (by (try simp only [List.map_toArray, List.map_cons, List.map_nil]); first | done | rfl | (simp only [List.length_drop, List.length_take]; rfl)) ?_; (with_reducible refine (bits_bit.calls (rd l0 x8_1) t119 _ A5.out).mono ?_); rintro e w' ⟨rfl, ⟨nd, rfl⟩⟩; refine ⟨_, rfl, ?_⟩))
      go_roundg k1
      case measure => have := HK1.out; omega
      case rel => exact ⟨(Go.bits .or .u64 x3_1 t119), (wrap64 (x8_1 + 1)), (by first | rfl | (simp; done) | (simp [*]; done)), (by first | rfl | (simp; done) | (simp [*]; done)), H', ⟨by have := HK1.out; omega⟩, by repeat (first | exact Drawn0.refl _ | apply Drawn0.step)⟩
     ·rw [if_neg c4] at H
      exact absurd H (by simp)
    ·rw [if_neg c3] at H
     exact absurd H (by simp)
   ·rw [if_neg c2] at H
    have c2b0 : decide (x8_1 < (l0.length : Int)) = false := decide_eq_false c2
    clear c2
    obtain rfl := Option.some.inj H
    go_wp2
    go_ret
    exact ⟨by first | rfl | (simp; done) | (simp [*]; done), by repeat (first | exact Drawn0.refl _ | apply Drawn0.step)⟩

/-! ### bits_Union: function 32 -/
def bits_Union.f (a0 : Int) (a1 : Int) : Option (Int) := some (Go.bits .or .u64 a0 a1)
set_option maxHeartbeats 8000000 in
set_option maxRecDepth 100000 in
theorem bits_Union.calls (a0 : Int) (a1 : Int) (r : Int) (w : World) (h : bits_Union.f a0 a1 = some r) :
  Calls Try.prog 32 #[.int .u64 a0, .int .u64 a1] w fun e w' => e = .returned (.int .u64 r) ∧ Drawn0 w w' := by
 have H : (some (Go.bits .or .u64 a0 a1)) = some r := h
 clear h
 obtain rfl := Option.some.inj H
 go_enter Try.func32, Try.ntmps32
 go_wp2
 go_ret
 exact ⟨by first | rfl | (simp; done) | (simp [*]; done), by repeat (first | exact Drawn0.refl _ | apply Drawn0.step)⟩

/-! ### bits_With: function 51 -/
def bits_With.f (a0 : Int) (a1 : Int) : Option (Int) := (bits_bit.f a1).bind fun t120 => (some (Go.bits .or .u64 a0 t120))
set_option maxHeartbeats 8000000 in
set_option maxRecDepth 100000 in
theorem bits_With.calls (a0 : Int) (a1 : Int) (r : Int) (w : World) (h : bits_With.f a0 a1 = some r) :
  Calls Try.prog 51 #[.int .u64 a0, .int .i64 a1] w fun e w' => e = .returned (.int .u64 r) ∧ Drawn0 w w' := by
 have H : ((bits_bit.f a1).bind fun t120 => (some (Go.bits .or .u64 a0 t120))) = some r := h
 clear h
 replace H := Option.bind_eq_some_iff.mp H
 obtain ⟨t120, A30, H⟩ := H
 replace H : (some (Go.bits .or .u64 a0 t120)) = some r := H
 have A3 := Aside0.mk A30
 clear A30
 obtain rfl := Option.some.inj H
 go_enter Try.func51, Try.ntmps51
 go_wp2_with (first | ((with_reducible refine gate_callee (f := 44) rfl ?_); refine goesL_ (some 7) rfl rfl Try.func44 (by kernel_rfl) rfl #[.int .i64 a1] rfl (by (try simp only [List.map_toArray, List.map_cons, List.map_nil]); first | done | rfl | (simp only [List.length_drop, List.length_take]; rfl)) ?_; (with_reducible refine (bits_bit.calls a1 t120 _ A3.out).mono ?_); rintro e w' ⟨rfl, ⟨nd, rfl⟩⟩; refine ⟨_, rfl, ?_⟩))
 go_ret
 exact ⟨by first | rfl | (simp; done) | (simp [*]; done), by repeat (first | exact Drawn0.refl _ | apply Drawn0.step)⟩

end Go.Proofs.Ytggfiopajogiiaa.P
end

section
set_option linter.unusedVariables false
set_option linter.unusedSimpArgs false
namespace Go.Proofs.Ytggfiopajogiiaa.P
open Go.RowKit Go.Proofs.YtggfiopajogiiaaW.PrintWords Go.Proofs.YtggfiopajogiiaaW.PrintLast Go.Proofs.YtggfiopajogiiaaW.PrintMore

def rowF (nT nS : Int) (es : List Bool) (fs : List Int) (behind : Int) : List Int → Int → Option Int
 | [], out => bits_Union.f out behind
 | s :: l, out => if nT ≤ s ∨ s < -nS then some out else if 0 ≤ s then bits_With.f out s else
   (bits_Union.f out (rd fs (-1 - s))).bind fun o => if rdOf false es (-1 - s) = true then rowF nT nS es fs behind l o else some o

theorem rowF_drop (nT nS : Int) (es : List Bool) (fs : List Int) (behind : Int) (l : List Int) (k : Nat) (hk : k < l.length) (out : Int) :
  rowF nT nS es fs behind (l.drop k) out = if nT ≤ l[k] ∨ l[k] < -nS then some out else if 0 ≤ l[k] then bits_With.f out l[k] else
   (bits_Union.f out (rd fs (-1 - l[k]))).bind fun o => if rdOf false es (-1 - l[k]) = true then rowF nT nS es fs behind (l.drop (k + 1)) o else some o := by
 rw [List.drop_eq_getElem_cons hk]; rfl

set_option maxHeartbeats 4000000 in
theorem row_calls (tb nT nS : Nat) (A0 A2 E F : Option Addr) (c0 c2 cE cF : Nat) (es : List Bool) (fs : List Int) (A : Option Addr) (c : Nat) (l : List Int) (behind r : Int) (w : World)
  (hl : Kd.C (Kd.int .i64) w A l.length l) (hnS : nS ≤ 60) (ht0 : w.cell? ⟨tb, 0, none⟩ = some (.slice A0 nT c0)) (ht2 : w.cell? ⟨tb, 2, none⟩ = some (.slice A2 nS c2)) (ht5 : w.cell? ⟨tb, 5, none⟩ = some (.slice E nS cE)) (ht6 : w.cell? ⟨tb, 6, none⟩ = some (.slice F nS cF))
  (hE : Kd.C Kd.bool w E nS es) (hF : Kd.C (Kd.int .u64) w F nS fs) (h : rowF nT nS es fs behind l 0 = some r) :
  Calls Try.prog 33 #[.pointer (some ⟨tb, 0, none⟩), .slice A l.length c, .int .u64 behind] w fun e w' => e = .returned (.int .u64 r) ∧ Drawn0 w w' := by
 have HL := Aside0.mk hl
 have HE := Aside0.mk hE
 have HF := Aside0.mk hF
 have H := Aside0.mk h
 have hmx : l.length ≤ 9223372036854775807 := hl.2.1
 have hu56 := Try.underlying56
 have hu27 := Try.underlying27
 have hneg : IntKind.i64.wrap (-(nS : Int)) = -(nS : Int) := IntWalk.i64_in _ (by omega)
 have HnS := Aside0.mk hnS
 clear hl hE hF h hnS
 go_enter Try.func33, Try.ntmps33
 go_wp2
 go_loopw [7, 12] (fun v7 v12 wr => ∃ (k : Nat) (out : Int), v7 = .int .u64 out ∧ v12 = .int .i64 k ∧ k ≤ l.length ∧ Aside0 (rowF nT nS es fs behind (l.drop k) out = some r) ∧ Aside0 (∃ m, wr = w.drewN m)) (fun _ v12 _ => l.length - (intOf v12).toNat)
 case atStart => exact ⟨0, 0, rfl, rfl, Nat.zero_le _, ⟨by rw [List.drop_zero]; exact H.out⟩, ⟨⟨0, rfl⟩⟩⟩
 case round =>
  obtain ⟨k, out, rfl, rfl, hk, HT, ⟨m, rfl⟩⟩ := hrel
  by_cases hlt : k < l.length
  ·have hltb : decide (k < l.length) = true := decide_eq_true (by omega)
   obtain ⟨ad, e1, hx1⟩ := Kd.at_int HL.out (k : Int) (by omega) (by omega)
   rw [Int.toNat_natCast] at hx1
   have hrk : rd l (k : Int) = l[k] := by unfold rd; simp [List.getD, hlt]
   obtain ⟨s, hs⟩ : ∃ s, l[k] = s := ⟨_, rfl⟩
   rw [hrk, hs] at hx1
   have HT2 := HT.out
   rw [rowF_drop _ _ _ _ _ l k hlt, hs] at HT2
   clear hrk hs
   subst e1
   by_cases h1 : (nT : Int) ≤ s
   ·rw [if_pos (.inl h1)] at HT2
    replace HT2 := Aside0.mk HT2
    go_wp2
    go_ret
    exact ⟨by have := HT2.out; injection this with this; rw [← this]; rfl, ⟨_, rfl⟩⟩
   ·by_cases h2 : s < -(nS : Int)
    ·rw [if_pos (.inr h2)] at HT2
     replace HT2 := Aside0.mk HT2
     have h2b : decide (s < -(nS : Int)) = true := decide_eq_true h2
     go_wp2
     go_ret
     exact ⟨by have := HT2.out; injection this with this; rw [← this]; rfl, ⟨_, rfl⟩⟩
    ·rw [if_neg (by rintro (h | h) <;> omega)] at HT2
     have h2b : decide (s < -(nS : Int)) = false := decide_eq_false h2
     by_cases h3 : 0 ≤ s
     ·rw [if_pos h3] at HT2
      replace HT2 := Aside0.mk HT2
      have h3b : decide (0 ≤ s) = true := decide_eq_true h3
      go_wp2_with (go_at_call 51; refine (bits_With.calls _ _ _ _ HT2.out).mono ?_; rintro e wx ⟨rfl, m2, rfl⟩)
      go_ret
      exact ⟨rfl, ⟨_, rfl⟩⟩
     ·rw [if_neg h3] at HT2
      have h3b : decide (0 ≤ s) = false := decide_eq_false h3
      obtain ⟨j, hj⟩ : ∃ j, -1 - s = j := ⟨_, rfl⟩
      have hw : IntKind.i64.wrap (-1 - s) = j := by rw [IntWalk.i64_in _ (by have := HnS.out; omega)]; exact hj
      obtain ⟨adf, e2, hx2⟩ := Kd.at_int HF.out j (by omega) (by omega)
      obtain ⟨ade, e3, hx3⟩ := Kd.at_bool HE.out j (by omega) (by omega)
      subst e2
      subst e3
      rw [hj] at HT2
      have q0 : (0 ≤ j) = True := eq_true (by omega)
      have q1 : (j < (nS : Int)) = True := eq_true (by omega)
      obtain ⟨o, ho⟩ : ∃ o, rdOf false es j = o := ⟨_, rfl⟩
      obtain ⟨u, hu⟩ : ∃ u, bits_Union.f out (rd fs j) = some u := ⟨_, rfl⟩
      rw [ho] at HT2 hx3
      rw [hu] at HT2
      have HU := Aside0.mk hu
      clear ho hu hj
      cases o
      ·replace HT2 : Aside0 (some u = some r) := ⟨by simpa using HT2⟩
       go_wp2_with (go_at_call 32; refine (bits_Union.calls _ _ _ _ HU.out).mono ?_; rintro e wx ⟨rfl, m2, rfl⟩)
       go_ret
       exact ⟨by have := HT2.out; injection this with this; rw [← this]; rfl, ⟨_, rfl⟩⟩
      ·replace HT2 : Aside0 (rowF nT nS es fs behind (l.drop (k + 1)) u = some r) := ⟨by simpa using HT2⟩
       go_wp2_with (go_at_call 32; refine (bits_Union.calls _ _ _ _ HU.out).mono ?_; rintro e wx ⟨rfl, m2, rfl⟩)
       exact ⟨⟨k + 1, u, rfl, rfl, by omega, HT2, ⟨⟨_, rfl⟩⟩⟩, by simp [intOf]; omega⟩
  ·have hltb : decide (k < l.length) = false := decide_eq_false (by omega)
   have HU : Aside0 (bits_Union.f out behind = some r) := ⟨by have := HT.out; rwa [List.drop_eq_nil_of_le (by omega)] at this⟩
   go_wp2_with (go_at_call 32; refine (bits_Union.calls _ _ _ _ HU.out).mono ?_; rintro e wx ⟨rfl, m2, rfl⟩)
   go_ret
   exact ⟨rfl, ⟨_, rfl⟩⟩

end Go.Proofs.Ytggfiopajogiiaa.P
end

section
set_option linter.unusedVariables false
set_option linter.unusedSimpArgs false
namespace Go.Proofs.Ytggfiopajogiiaa.P
open Go.Proofs.Ytggfiopajogiiaa.Base Go.RowKit Go.Proofs.YtggfiopajogiiaaW.PrintWords Go.Proofs.YtggfiopajogiiaaW.PrintLast Go.Proofs.YtggfiopajogiiaaW.PrintMore

def moreS (nT nS : Int) (es : List Bool) (xs : List Int) (p : S45) : Int := Go.bits .or .u64 (rdOf 0 xs p.f1) ((rowF nT nS es xs 0 p.f2 0).getD 0)

theorem below_drawn {w w' : World} (h : Drawn0 w w') : Below w.heap.size w w' := by
 obtain ⟨m, rfl⟩ := h; exact pw_below_drewN (Below.refl _ _) m

set_option maxHeartbeats 4000000 in
theorem known1_calls (b3 tb nT nS G cap : Nat) (A0 A2 E : Option Addr) (c0 c2 cE : Nat) (es : List Bool) (xs : List Int) (base : Nat) (ok : Nat → Prop) (p : S45) (A : Option Addr) (c : Nat) (w : World)
  (hnS : nS ≤ 60) (h3 : w.cell? ⟨b3, 0, none⟩ = some (.pointer (some ⟨tb, 0, none⟩))) (ht0 : w.cell? ⟨tb, 0, none⟩ = some (.slice A0 nT c0)) (ht2 : w.cell? ⟨tb, 2, none⟩ = some (.slice A2 nS c2)) (ht5 : w.cell? ⟨tb, 5, none⟩ = some (.slice E nS cE)) (ht6 : w.cell? ⟨tb, 6, none⟩ = some (.slice (some ⟨G, 0, none⟩) nS cap))
  (hE : Kd.C Kd.bool w E nS es) (hR : Kd.R (Kd.int .u64) 30 w base ok (.slice (some ⟨G, 0, none⟩) nS cap) xs) (hp : Kd.C (Kd.int .i64) w A p.f2.length p.f2) (h0 : 0 ≤ p.f1) (h1 : p.f1 < nS) (hq : ∃ q, rowF nT nS es xs 0 p.f2 0 = some q) :
  Calls Try.prog 49 #[.agg #[.string p.f0, .int .i64 p.f1, .slice A p.f2.length c, .int .i64 p.f3], .pointer (some ⟨b3, 0, none⟩)] w fun e w' => e = .returned (.tuple #[.int .i64 p.f1, .int .u64 (moreS nT nS es xs p)]) ∧ Below w.heap.size w w' := by
 obtain ⟨q, hq⟩ := hq
 have hmo : Aside0 (moreS nT nS es xs p = Go.bits .or .u64 (rdOf 0 xs p.f1) q) := ⟨by unfold moreS; rw [hq]; rfl⟩
 have hcell := (Kd.R_celln 0 hR p.f1 h0 h1).1
 have hC := (Kd.R_reads' hR).2.2
 rw [← (Kd.R_reads' hR).1] at hC
 have hrow := fun (w' : World) (hb : Below w.heap.size w w') => row_calls tb nT nS A0 A2 E (some ⟨G, 0, none⟩) c0 c2 cE cap es xs A c p.f2 0 q w' (Kd.C_below hp hb) hnS (pw_cell_below hb ht0) (pw_cell_below hb ht2) (pw_cell_below hb ht5) (pw_cell_below hb ht6) (Kd.C_below hE hb) (Kd.C_below hC hb) hq
 have q0 : (0 ≤ p.f1) = True := eq_true h0
 have q1 : (p.f1 < (nS : Int)) = True := eq_true h1
 obtain ⟨o, ho⟩ : ∃ o, rdOf 0 xs p.f1 = o := ⟨_, rfl⟩
 obtain ⟨nl, hnl⟩ : ∃ nl, p.f2.length = nl := ⟨_, rfl⟩
 obtain ⟨lab, hlab⟩ : ∃ lab, p.f0 = lab := ⟨_, rfl⟩
 obtain ⟨srt, hsrt⟩ : ∃ srt, p.f1 = srt := ⟨_, rfl⟩
 obtain ⟨cls, hcls⟩ : ∃ cls, p.f3 = cls := ⟨_, rfl⟩
 have HMO : Aside0 (moreS nT nS es xs p = Go.bits .or .u64 o q) := ⟨by rw [hmo.out, ho]⟩
 rw [ho] at hcell
 rw [hsrt] at hcell q0 q1
 rw [hnl] at hrow
 rw [hnl, hlab, hsrt, hcls]
 replace hrow := Aside0.mk hrow
 have hu45 := Try.underlying45
 have hu56 := Try.underlying56
 clear hmo ho hnl hlab hsrt hcls h0 h1 hnS hE hR hp hC hq ht0 ht2 ht5
 go_enter Try.func49, Try.ntmps49
 go_upto_region 1 with fail
 have HZ : Aside0 (Below w.heap.size w (w.alloc (Obj.cells #[.string lab, .int .i64 srt, .slice A nl c, .int .i64 cls] 45))) := ⟨below_alloc (Below.refl _ _) _⟩
 have g1 : (w.alloc (Obj.cells #[.string lab, .int .i64 srt, .slice A nl c, .int .i64 cls] 45)).cell? ⟨w.heap.size, 1, none⟩ = some (.int .i64 srt) := by go_simp
 have g2 : (w.alloc (Obj.cells #[.string lab, .int .i64 srt, .slice A nl c, .int .i64 cls] 45)).cell? ⟨w.heap.size, 2, none⟩ = some (.slice A nl c) := by go_simp
 generalize w.alloc (Obj.cells #[.string lab, .int .i64 srt, .slice A nl c, .int .i64 cls] 45) = wy at *
 replace h3 := cell_below (pw_cell_below HZ.out h3)
 replace ht6 := cell_below (pw_cell_below HZ.out ht6)
 replace hcell := cell_below (pw_cell_below HZ.out hcell)
 replace g1 := cell_below g1
 replace g2 := cell_below g2
 generalize hg : w.heap.size = gy at g1 g2 ⊢
 clear hg
 refine wp_region_below (by kernel_rfl) (by kernel_rfl) ?_
 repeat (refine wpQuiet_step (fun K hK => ?_); go_simp; (first | (refine hK _ ?_; clear hK K) | (apply Exists.intro; refine ⟨fun wc hwc => ?_, hK _ ?_⟩; (first | exact rfl | (first | (go_at_call 33; exact calls_below hwc hwc.size ((hrow.out _ (below_step HZ.out hwc)).mono fun _ _ h => ⟨h.1, below_drawn h.2⟩)) | (go_at_call 32; exact calls_below hwc hwc.size ((bits_Union.calls _ _ _ _ rfl).mono fun _ _ h => ⟨h.1, below_drawn h.2⟩))) | (go_simp; exact rfl)); clear hK K)))
 refine wpQuiet_nil ?_
 intro wq hwq
 go_wp2
 go_ret2
 exact ⟨by rw [HMO.out]; rfl, below_step HZ.out hwq⟩

end Go.Proofs.Ytggfiopajogiiaa.P
end

section
set_option linter.unusedVariables false
set_option linter.unusedSimpArgs false
namespace Go.Proofs.Ytggfiopajogiiaa.P
open Go.Proofs.Ytggfiopajogiiaa.Base Go.RowKit Go.Proofs.YtggfiopajogiiaaW.PrintWords Go.Proofs.YtggfiopajogiiaaW.PrintLast Go.Proofs.YtggfiopajogiiaaW.PrintMore

set_option maxHeartbeats 4000000 in
theorem grow_set (k0 tb nT nS : Nat) (B0 B2 E : Option Addr) (d0 d2 dE : Nat) (es : List Bool) (A0 : Option Addr) (c0 : Nat) (l0 : List S51) (A1 : Option Addr) (c1 : Nat) (l1 : List S63) (A2 : Option Addr) (c2 : Nat) (l2 : List ByteArray) (A3 : Option Addr) (c3 : Nat) (l3 : List S45) (st : Int)
  (b3 G cap base : Nat) (ok : Nat → Prop) (x0 r : List Int) (w W : World) (hr3 : Kd.C k45 w A3 l3.length l3) (hbel : Below w.heap.size w W) (hG : w.heap.size ≤ G) (hGW : G < W.heap.size)
  (hnS : nS ≤ 60) (h3 : W.cell? ⟨b3, 0, none⟩ = some (.pointer (some ⟨tb, 0, none⟩))) (ht0 : W.cell? ⟨tb, 0, none⟩ = some (.slice B0 nT d0)) (ht2 : W.cell? ⟨tb, 2, none⟩ = some (.slice B2 nS d2)) (ht5 : W.cell? ⟨tb, 5, none⟩ = some (.slice E nS dE)) (ht6 : W.cell? ⟨tb, 6, none⟩ = some (.slice (some ⟨G, 0, none⟩) nS cap)) (hE : ∀ wz : World, W.grownBy wz (some G) → Kd.C Kd.bool wz E nS es) (h3G : b3 ≠ G) (htG : tb ≠ G)
  (hR : Kd.R (Kd.int .u64) 30 W base ok (.slice (some ⟨G, 0, none⟩) nS cap) x0)
  (hs : ∀ p ∈ l3, (0 ≤ p.f1 ∧ p.f1 < nS) ∧ ∀ xs, ∃ q, rowF nT nS es xs 0 p.f2 0 = some q)
  (h : growG (0 : Int) (moreS nT nS es) l3 k0 x0 = some r) :
  Calls Try.prog 48 #[.agg #[.slice A0 l0.length c0, .slice A1 l1.length c1, .slice A2 l2.length c2, .slice A3 l3.length c3, .int .i64 st], .slice (some ⟨G, 0, none⟩) nS cap, .func (.func 49) #[] #[.pointer (some ⟨b3, 0, none⟩)]] W
   fun e w' => e = .returned (.slice (some ⟨G, 0, none⟩) nS cap) ∧ Kd.R (Kd.int .u64) 30 w' base ok (.slice (some ⟨G, 0, none⟩) nS cap) r ∧ W.grownBy w' (some G) := by
 have HR := Aside0.mk hR
 have HR3 := Aside0.mk hr3
 have HS := Aside0.mk hs
 have HBEL := Aside0.mk hbel
 have HG := Aside0.mk hG
 have HGW := Aside0.mk hGW
 have Bt := Aside0.mk (And.intro h3 (And.intro ht0 (And.intro ht2 (And.intro ht5 ht6))))
 have NB := Aside0.mk (And.intro h3G htG)
 have HE0 := Aside0.mk hE
 have HNS := Aside0.mk hnS
 have H := Aside0.mk h
 have hu := Try.underlying45
 have hu27 := Try.underlying27
 clear hR hr3 hs hbel hG hGW h3 ht0 ht2 ht5 ht6 hE h3G htG hnS h
 go_enter Try.func48, Try.ntmps48
 go_wp2
 have HZ : Aside0 (Below W.heap.size W (W.alloc (Obj.cells #[.slice A0 l0.length c0, .slice A1 l1.length c1, .slice A2 l2.length c2, .slice A3 l3.length c3, .int .i64 st] 27))) := ⟨below_alloc (Below.refl _ _) _⟩
 have G3 : Aside0 ((W.alloc (Obj.cells #[.slice A0 l0.length c0, .slice A1 l1.length c1, .slice A2 l2.length c2, .slice A3 l3.length c3, .int .i64 st] 27)).cell? ⟨W.heap.size, 3, none⟩ = some (.slice A3 l3.length c3)) := ⟨by go_simp⟩
 generalize W.alloc (Obj.cells #[.slice A0 l0.length c0, .slice A1 l1.length c1, .slice A2 l2.length c2, .slice A3 l3.length c3, .int .i64 st] 27) = wy at *
 replace HR := Aside0.mk (Kd.R_below HR.out HZ.out)
 have HEE : Aside0 (∀ wz : World, wy.grownBy wz (some G) → Kd.C Kd.bool wz E nS es) := ⟨fun wz hz => HE0.out wz (grown_of HZ.out hz)⟩
 clear HE0
 replace Bt := Aside0.mk (And.intro (pw_cell_below HZ.out Bt.out.1) (And.intro (pw_cell_below HZ.out Bt.out.2.1) (And.intro (pw_cell_below HZ.out Bt.out.2.2.1) (And.intro (pw_cell_below HZ.out Bt.out.2.2.2.1) (pw_cell_below HZ.out Bt.out.2.2.2.2)))))
 replace HBEL := Aside0.mk (below_step HBEL.out HZ.out)
 have HGN : Aside0 (W.heap.size ≠ G) := ⟨by have := HGW.out; omega⟩
 generalize hg : W.heap.size = gb at G3 HGN ⊢
 clear hg
 obtain ⟨vg, hvg⟩ : ∃ vg : Value, vg = .agg #[.slice A0 l0.length c0, .slice A1 l1.length c1, .slice A2 l2.length c2, .slice A3 l3.length c3, .int .i64 st] := ⟨_, rfl⟩
 rw [← hvg]
 clear hvg
 refine wp_scope_label 0 k0 (fun k a wr => ∃ (xs : List Int) (u7 u8 u9 u10 u11 u12 u13 u14 u15 u16 u17 u18 u19 u20 u21 u22 u23 u24 u25 u26 u27 u28 u29 u30 u31 u32 u33 u34 u35 u36 u37 : Value), a = { tmps := #[vg, .slice (some ⟨G, 0, none⟩) nS cap, .func (.func 49) #[] #[.pointer (some ⟨b3, 0, none⟩)], .pointer (some ⟨gb, 0, none⟩), undef, undef, .slice none 0 0, u7, u8, u9, u10, u11, u12, u13, u14, u15, u16, u17, u18, u19, u20, u21, u22, u23, u24, u25, u26, u27, u28, u29, u30, u31, u32, u33, u34, u35, u36, u37], defers := [] } ∧ Aside0 (growG (0 : Int) (moreS nT nS es) l3 k xs = some r) ∧ Aside0 (Kd.R (Kd.int .u64) 30 wr base ok (.slice (some ⟨G, 0, none⟩) nS cap) xs) ∧ Aside0 (wy.grownBy wr (some G))) ⟨x0, _, _, _, _, _, _, _, _, _, _, _, _, _, _, _, _, _, _, _, _, _, _, _, _, _, _, _, _, _, _, _, rfl, H, HR, ⟨World.grownBy.refl _ _⟩⟩ ?_
 clear HR H
 rintro kk a wq ⟨xs, u7, u8, u9, u10, u11, u12, u13, u14, u15, u16, u17, u18, u19, u20, u21, u22, u23, u24, u25, u26, u27, u28, u29, u30, u31, u32, u33, u34, u35, u36, u37, rfl, H, HR, HY⟩
 go_hide hQ
 replace hQ := Aside0.mk hQ
 have g3 : wq.cell? ⟨gb, 3, none⟩ = some (.slice A3 l3.length c3) := HY.out.cell G3.out (by intro e; injection e with e; exact HGN.out e)
 go_wp2
 clear g3
 go_loopw [7, 15] (fun v7 v15 wr => ∃ (k : Nat) (ch : Bool) (ys : List Int), v7 = .bool ch ∧ v15 = .int .i64 k ∧ k ≤ l3.length ∧ Aside0 (Kd.R (Kd.int .u64) 30 wr base ok (.slice (some ⟨G, 0, none⟩) nS cap) ys) ∧ Aside0 (wy.grownBy wr (some G)) ∧ Aside0 (passG (0 : Int) (moreS nT nS es) l3 (xs, false) = passG (0 : Int) (moreS nT nS es) (l3.drop k) (ys, ch))) (fun _ v15 _ => l3.length - (intOf v15).toNat)
 case atStart => exact ⟨0, false, xs, rfl, rfl, Nat.zero_le _, HR, HY, ⟨rfl⟩⟩
 case round =>
  obtain ⟨k, ch, ys, rfl, rfl, hk, HRR, HYR, HP⟩ := hrel
  have hmx : l3.length ≤ 9223372036854775807 := HR3.out.2.1
  by_cases hlt : k < l3.length
  ·have hltb : decide (k < l3.length) = true := decide_eq_true (by omega)
   have hbw : Aside0 (Below w.heap.size w wr) := ⟨below_grown HBEL.out HYR.out HG.out⟩
   obtain ⟨ad, A4, c4, e4, hx1, hx2, hx3, hx4, hcap, hr4⟩ := at_T45 (Kd.C_below HR3.out hbw.out) (k : Int) (by omega) (by omega)
   rw [Int.toNat_natCast] at hx1 hx2 hx3 hx4
   obtain ⟨p, hp⟩ : ∃ p, rd_T45 l3 k = p := ⟨_, rfl⟩
   rw [hp] at hx1 hx2 hx3 hx4 hr4
   have hpk : l3[k] = p := by rw [← hp]; unfold rd_T45; simp [List.getD, hlt]
   have hmem : p ∈ l3 := by rw [← hpk]; exact List.getElem_mem hlt
   have HPK := Aside0.mk hpk
   have hsp := Aside0.mk (HS.out p hmem)
   have HR4 := Aside0.mk hr4
   clear hp hpk hr4 hcap hmem
   subst e4
   obtain ⟨m, hm⟩ : ∃ m, moreS nT nS es ys p = m := ⟨_, rfl⟩
   obtain ⟨o, ho⟩ : ∃ o, rdOf 0 ys p.f1 = o := ⟨_, rfl⟩
   have hstep : Aside0 (passG (0 : Int) (moreS nT nS es) l3 (xs, false) = passG (0 : Int) (moreS nT nS es) (l3.drop (k + 1)) (if o = m then (ys, ch) else (ys.set p.f1.toNat m, true))) := ⟨by rw [HP.out, passG_drop _ _ _ k hlt, HPK.out, ho, hm]⟩
   obtain ⟨nl, hnl⟩ : ∃ nl, p.f2.length = nl := ⟨_, rfl⟩
   obtain ⟨lab, hlab⟩ : ∃ lab, p.f0 = lab := ⟨_, rfl⟩
   obtain ⟨srt, hsrt⟩ : ∃ srt, p.f1 = srt := ⟨_, rfl⟩
   obtain ⟨cls, hcls⟩ : ∃ cls, p.f3 = cls := ⟨_, rfl⟩
   have hcont : Aside0 (∀ wz : World, Below wr.heap.size wr wz → Calls Try.prog 49 #[.agg #[.string lab, .int .i64 srt, .slice A4 nl c4, .int .i64 cls], .pointer (some ⟨b3, 0, none⟩)] wz fun e w' => e = .returned (.tuple #[.int .i64 srt, .int .u64 m]) ∧ Below wz.heap.size wz w' ∧ w'.cell? ⟨G, srt.toNat, none⟩ = some (.int .u64 o) ∧ w'.frozen? ⟨G, srt.toNat, none⟩ = false) := ⟨fun wz hz => by
    have hg2 : wy.grownBy wz (some G) := grown_below HYR.out hz
    have hc := known1_calls b3 tb nT nS G cap B0 B2 E d0 d2 dE es ys base ok p A4 c4 wz HNS.out (hg2.cell Bt.out.1 (by intro e; injection e with e; exact NB.out.1 e)) (hg2.cell Bt.out.2.1 (by intro e; injection e with e; exact NB.out.2 e)) (hg2.cell Bt.out.2.2.1 (by intro e; injection e with e; exact NB.out.2 e)) (hg2.cell Bt.out.2.2.2.1 (by intro e; injection e with e; exact NB.out.2 e)) (hg2.cell Bt.out.2.2.2.2 (by intro e; injection e with e; exact NB.out.2 e)) (HEE.out wz hg2) (Kd.R_below HRR.out hz) (Kd.C_below HR4.out hz) hsp.out.1.1 hsp.out.1.2 (hsp.out.2 ys)
    rw [hnl, hlab, hsrt, hcls, hm] at hc
    refine hc.mono ?_
    rintro e w2 ⟨rfl, hb2⟩
    have hcell := Kd.R_celln 0 (Kd.R_below (Kd.R_below HRR.out hz) hb2) p.f1 hsp.out.1.1 hsp.out.1.2
    rw [ho, hsrt] at hcell
    exact ⟨rfl, hb2, hcell.1, hcell.2⟩⟩
   rw [hlab] at hx1
   rw [hsrt] at hx2
   rw [hnl] at hx3
   rw [hcls] at hx4
   have hsrt2 := Aside0.mk hsrt
   rw [hsrt] at hsp
   have q0 : (0 ≤ srt) = True := eq_true hsp.out.1.1
   have q1 : (srt < (nS : Int)) = True := eq_true hsp.out.1.2
   clear hm ho hlab hnl hcls hsrt
   go_upto_region 5 with fail
   have HZ2 : Aside0 (Below wr.heap.size wr (wr.alloc (Obj.cells #[.string lab, .int .i64 srt, .slice A4 nl c4, .int .i64 cls] 45))) := ⟨below_alloc (Below.refl _ _) _⟩
   have y0 : (wr.alloc (Obj.cells #[.string lab, .int .i64 srt, .slice A4 nl c4, .int .i64 cls] 45)).cell? ⟨wr.heap.size, 0, none⟩ = some (.string lab) := by go_simp
   have y1 : (wr.alloc (Obj.cells #[.string lab, .int .i64 srt, .slice A4 nl c4, .int .i64 cls] 45)).cell? ⟨wr.heap.size, 1, none⟩ = some (.int .i64 srt) := by go_simp
   have y2 : (wr.alloc (Obj.cells #[.string lab, .int .i64 srt, .slice A4 nl c4, .int .i64 cls] 45)).cell? ⟨wr.heap.size, 2, none⟩ = some (.slice A4 nl c4) := by go_simp
   have y3 : (wr.alloc (Obj.cells #[.string lab, .int .i64 srt, .slice A4 nl c4, .int .i64 cls] 45)).cell? ⟨wr.heap.size, 3, none⟩ = some (.int .i64 cls) := by go_simp
   generalize wr.alloc (Obj.cells #[.string lab, .int .i64 srt, .slice A4 nl c4, .int .i64 cls] 45) = wz at *
   clear hx1 hx2 hx3 hx4
   generalize hgy : wr.heap.size = gy at y0 y1 y2 y3 ⊢
   clear hgy
   have hcall := hcont.out wz HZ2.out
   clear hcont
   replace hcall := Aside0.mk hcall
   have HYZ := Aside0.mk (grown_below HYR.out HZ2.out)
   have HRZ := Aside0.mk (Kd.R_below HRR.out HZ2.out)
   by_cases hom : o = m
   ·subst hom
    go_wp2_with (go_at_call 49; refine hcall.out.mono ?_; rintro e w2 ⟨rfl, hb2, hc2, hf2⟩; replace hb2 := Aside0.mk hb2)
    have hR2 := Aside0.mk (Kd.R_below HRZ.out hb2.out)
    exact ⟨⟨k + 1, ch, ys, rfl, rfl, by omega, hR2, ⟨grown_below HYZ.out hb2.out⟩, ⟨by rw [hstep.out]; simp⟩⟩, by simp [intOf]; omega⟩
   ·have hom1 : decide (o = m) = false := decide_eq_false hom
    have hom2 : (o != m) = true := by simp [hom]
    go_wp2_with (go_at_call 49; refine hcall.out.mono ?_; rintro e w2 ⟨rfl, hb2, hc2, hf2⟩; replace hb2 := Aside0.mk hb2)
    have hR2 := Aside0.mk (Kd.R_putn (Kd.R_below HRZ.out hb2.out) srt m)
    exact ⟨⟨k + 1, true, ys.set srt.toNat m, rfl, rfl, by omega, hR2, ⟨grown_put (grown_below HYZ.out hb2.out)⟩, ⟨by rw [hstep.out, if_neg hom, hsrt2.out]⟩⟩, by simp [intOf]; omega⟩
  ·have hltb : decide (k < l3.length) = false := decide_eq_false (by omega)
   obtain ⟨k', rfl⟩ : ∃ k', kk = k' + 1 := by
    cases kk with
    | zero => have := H.out; cases this
    | succ k' => exact ⟨k', rfl⟩
   have HF : Aside0 (passG (0 : Int) (moreS nT nS es) l3 (xs, false) = (ys, ch)) := ⟨by rw [HP.out, List.drop_eq_nil_of_le (by omega)]; rfl⟩
   cases ch
   ·have HE : Aside0 (ys = r) := ⟨by have := H.out; unfold growG at this; rw [HF.out] at this; simpa using this⟩
    go_wp2
    rw [← hQ.out]
    simp only [Exit.jump]
    go_ret
    exact ⟨rfl, by rw [← HE.out]; exact HRR.out, grown_of HZ.out HYR.out⟩
   ·have HE : Aside0 (growG (0 : Int) (moreS nT nS es) l3 k' ys = some r) := ⟨by have := H.out; unfold growG at this; rw [HF.out] at this; simpa using this⟩
    go_wp2
    go_step3
    rw [← hQ.out]
    exact ⟨rfl, k', Nat.lt_succ_self _, ys, _, _, _, _, _, _, _, _, _, _, _, _, _, _, _, _, _, _, _, _, _, _, _, _, _, _, _, _, _, _, _, rfl, HE, HRR, HYR⟩

end Go.Proofs.Ytggfiopajogiiaa.P
end

section
set_option linter.unusedVariables false
set_option linter.unusedSimpArgs false
namespace Go.Proofs.Ytggfiopajogiiaa.P
open Go.Proofs.Ytggfiopajogiiaa.Base Go.RowKit Go.Proofs.YtggfiopajogiiaaW.PrintWords Go.Proofs.YtggfiopajogiiaaW.PrintLast Go.Proofs.YtggfiopajogiiaaW.PrintMore

theorem made_sets (n : Nat) : madeCells #[.int .u64 0] n = Array.replicate n (Value.int .u64 0) := by
 apply Array.ext
 ·simp [madeCells]
 ·intro i h1 h2
  simp [madeCells, Nat.mod_one]

theorem make_sets (n : Nat) (h : n ≤ 60) (w : World) : (Instr.makeSlice 36 (.int .i64 n) (.int .i64 n)).run Try.prog w = .ok (.slice (some ⟨w.heap.size, 0, none⟩) n n) (w.alloc (.cells (Array.replicate n (.int .u64 0)) 30)) := by
 obtain ⟨i0, hi, hzz⟩ := Option.map_eq_some_iff.1 info30
 simp only [Prod.mk.injEq] at hzz
 obtain ⟨hz0, hz1, hz2⟩ := hzz
 have hr := run_make (P := Try.prog) w 36 30 i0 (.int .u64 0) Try.underlying36 hi hz0 .i64 .i64 (n : Int) (n : Int) (by omega) (by omega) (by rw [hz2]; omega) (by omega)
 simp only [Int.toNat_natCast] at hr
 rw [hz1, Nat.mul_one] at hr
 rw [hr, show (Value.int .u64 0).cells = #[.int .u64 0] from rfl, made_sets]

theorem blk_new (w : World) (o : Obj) : (w.alloc o).heap[w.heap.size]? = some o := by
 show (w.heap.push o)[w.heap.size]? = some o
 simp

theorem R_fresh (n base : Nat) (h : n ≤ 60) (w : World) (hb : base ≤ w.heap.size) : Kd.R (Kd.int .u64) 30 (w.alloc (.cells (Array.replicate n (.int .u64 0)) 30)) base (fun k => k = w.heap.size) (.slice (some ⟨w.heap.size, 0, none⟩) n n) (List.replicate n (0 : Int)) := by
 refine Kd.R_of_own (enc := fun x => Value.int .u64 x) ⟨by simp [encs], .inr ⟨w.heap.size, n, Array.replicate n (.int .u64 0), by simp, hb, blk_new w _, by simp, by simp [maxLen]; omega, by simp, by simp [encs]⟩⟩ (fun k hk => ?_)
 simp only [Value.ownBlock] at hk
 injection hk with hk
 exact hk.symm

theorem R_fresh_at (n base g : Nat) (h : n ≤ 60) (w : World) (hg : w.heap.size = g) (hb : base ≤ g) : Kd.R (Kd.int .u64) 30 (w.alloc (.cells (Array.replicate n (.int .u64 0)) 30)) base (fun k => k = g) (.slice (some ⟨g, 0, none⟩) n n) (List.replicate n (0 : Int)) := by
 subst hg; exact R_fresh n base h w hb

theorem R_kept {w3 w4 : World} {B G b3 : Nat} {v : Value} {es : List Bool} (hR : Kd.R Kd.bool 4 w4 B (fun _ => True) v es) (hB : w3.heap.size ≤ B) (hG : ∀ k, B ≤ k → k < w4.heap.size → k ≠ G ∧ k ≠ b3) : Kd.R Kd.bool 4 w4 w3.heap.size (fun k => k ≠ G ∧ k ≠ b3) v es :=
 Kd.R_lower (Kd.R_mono (Kd.R_bound hR) fun k hk => hG k hk.2.1 hk.2.2.1) hB

theorem growG_length {β : Type} [DecidableEq β] (z : β) (more : List β → S45 → β) (ps : List S45) : ∀ (k : Nat) (xs r : List β), growG z more ps k xs = some r → r.length = xs.length := by
 have hp : ∀ (ps : List S45) (st : List β × Bool), (passG z more ps st).1.length = st.1.length := by
  intro ps
  induction ps with
  | nil => intro st; rfl
  | cons p ps ih =>
   intro st
   unfold passG
   rw [ih]
   split <;> simp
 intro k
 induction k with
 | zero => intro xs r h; cases h
 | succ k ih =>
  intro xs r h
  unfold growG at h
  split at h
  ·rw [ih _ _ h, hp]
  ·injection h with h; rw [← h, hp]

theorem known_nil (A0 : Option Addr) (c0 : Nat) (l0 : List S51) (A1 : Option Addr) (c1 : Nat) (l1 : List S63) (A2 : Option Addr) (c2 : Nat) (l2 : List ByteArray) (A3 : Option Addr) (c3 : Nat) (l3 : List S45) (st : Int) (w : World)
  (hr0 : Kd.C k51 w A0 l0.length l0) (hr1 : Kd.C k63 w A1 l1.length l1) (hr2 : Kd.C Kd.string w A2 l2.length l2) (hr3 : Kd.C k45 w A3 l3.length l3) (hv : validB l0 l1 l2 l3 st = false) :
  Calls Try.prog 29 #[.agg #[.slice A0 l0.length c0, .slice A1 l1.length c1, .slice A2 l2.length c2, .slice A3 l3.length c3, .int .i64 st]] w fun e w' => e = .returned (.pointer none) ∧ Below w.heap.size w w' := by
 have HB : Aside0 (Below w.heap.size w (w.alloc (Obj.cells #[.slice A0 l0.length c0, .slice A1 l1.length c1, .slice A2 l2.length c2, .slice A3 l3.length c3, .int .i64 st] 27))) := ⟨below_alloc (Below.refl _ _) _⟩
 have hval : Aside0 (Calls Try.prog 23 #[.agg #[.slice A0 l0.length c0, .slice A1 l1.length c1, .slice A2 l2.length c2, .slice A3 l3.length c3, .int .i64 st]] (w.alloc (Obj.cells #[.slice A0 l0.length c0, .slice A1 l1.length c1, .slice A2 l2.length c2, .slice A3 l3.length c3, .int .i64 st] 27)) fun e w' => e = .returned (.bool false) ∧ Below (w.alloc (Obj.cells #[.slice A0 l0.length c0, .slice A1 l1.length c1, .slice A2 l2.length c2, .slice A3 l3.length c3, .int .i64 st] 27)).heap.size (w.alloc (Obj.cells #[.slice A0 l0.length c0, .slice A1 l1.length c1, .slice A2 l2.length c2, .slice A3 l3.length c3, .int .i64 st] 27)) w') := ⟨by
  have := valid_calls A0 c0 l0 A1 c1 l1 A2 c2 l2 A3 c3 l3 st (w.alloc (Obj.cells #[.slice A0 l0.length c0, .slice A1 l1.length c1, .slice A2 l2.length c2, .slice A3 l3.length c3, .int .i64 st] 27)) (Kd.C_below hr0 HB.out) (Kd.C_below hr1 HB.out) (Kd.C_below hr2 HB.out) (Kd.C_below hr3 HB.out)
  rwa [hv] at this⟩
 have hu27 := Try.underlying27
 clear hr0 hr1 hr2 hr3 hv
 go_enter Try.func29, Try.ntmps29
 go_wp2_with (go_at_call 23; refine hval.out.mono ?_; rintro e w3 ⟨rfl, hb3⟩; replace hb3 := Aside0.mk hb3)
 go_ret
 exact ⟨rfl, below_step HB.out hb3.out⟩

set_option maxHeartbeats 8000000 in
theorem known_calls (k : Nat) (A0 : Option Addr) (c0 : Nat) (l0 : List S51) (A1 : Option Addr) (c1 : Nat) (l1 : List S63) (A2 : Option Addr) (c2 : Nat) (l2 : List ByteArray) (A3 : Option Addr) (c3 : Nat) (l3 : List S45) (st : Int) (es : List Bool) (fs : List Int) (w : World)
  (hr0 : Kd.C k51 w A0 l0.length l0) (hc0 : l0.length ≤ c0) (hr1 : Kd.C k63 w A1 l1.length l1) (hc1 : l1.length ≤ c1) (hr2 : Kd.C Kd.string w A2 l2.length l2) (hc2 : l2.length ≤ c2) (hr3 : Kd.C k45 w A3 l3.length l3) (hc3 : l3.length ≤ c3)
  (hv : validB l0 l1 l2 l3 st = true) (he : sets_Empty.f k l0 l1 l2 l3 st = some es) (hen : es.length = l2.length) (hf : growG (0 : Int) (moreS l0.length l2.length es) l3 k (List.replicate l2.length 0) = some fs)
  (hs : ∀ p ∈ l3, (0 ≤ p.f1 ∧ p.f1 < l2.length) ∧ ∀ xs, ∃ q, rowF l0.length l2.length es xs 0 p.f2 0 = some q) :
  Calls Try.prog 29 #[.agg #[.slice A0 l0.length c0, .slice A1 l1.length c1, .slice A2 l2.length c2, .slice A3 l3.length c3, .int .i64 st]] w fun e w' => ∃ (tb G cap dE : Nat) (E : Option Addr), e = .returned (.pointer (some ⟨tb, 0, none⟩)) ∧
   w'.cell? ⟨tb, 0, none⟩ = some (.slice A0 l0.length c0) ∧ w'.cell? ⟨tb, 2, none⟩ = some (.slice A2 l2.length c2) ∧ w'.cell? ⟨tb, 5, none⟩ = some (.slice E l2.length dE) ∧ w'.cell? ⟨tb, 6, none⟩ = some (.slice (some ⟨G, 0, none⟩) l2.length cap) ∧
   Kd.C Kd.bool w' E l2.length es ∧ Kd.R (Kd.int .u64) 30 w' w.heap.size (fun _ => True) (.slice (some ⟨G, 0, none⟩) l2.length cap) fs ∧ Below w.heap.size w w' := by
 have HR0 := Aside0.mk hr0
 have HR1 := Aside0.mk hr1
 have HR2 := Aside0.mk hr2
 have HR3 := Aside0.mk hr3
 have HC := Aside0.mk (And.intro hc0 (And.intro hc1 (And.intro hc2 hc3)))
 have HE := Aside0.mk he
 have HF := Aside0.mk hf
 have HS := Aside0.mk hs
 have hvh := Aside0.mk (valid_has hv)
 have HEN := Aside0.mk hen
 have HB : Aside0 (Below w.heap.size w (w.alloc (Obj.cells #[.slice A0 l0.length c0, .slice A1 l1.length c1, .slice A2 l2.length c2, .slice A3 l3.length c3, .int .i64 st] 27))) := ⟨below_alloc (Below.refl _ _) _⟩
 have hval : Aside0 (Calls Try.prog 23 #[.agg #[.slice A0 l0.length c0, .slice A1 l1.length c1, .slice A2 l2.length c2, .slice A3 l3.length c3, .int .i64 st]] (w.alloc (Obj.cells #[.slice A0 l0.length c0, .slice A1 l1.length c1, .slice A2 l2.length c2, .slice A3 l3.length c3, .int .i64 st] 27)) fun e w' => e = .returned (.bool true) ∧ Below (w.alloc (Obj.cells #[.slice A0 l0.length c0, .slice A1 l1.length c1, .slice A2 l2.length c2, .slice A3 l3.length c3, .int .i64 st] 27)).heap.size (w.alloc (Obj.cells #[.slice A0 l0.length c0, .slice A1 l1.length c1, .slice A2 l2.length c2, .slice A3 l3.length c3, .int .i64 st] 27)) w') := ⟨by
  have := valid_calls A0 c0 l0 A1 c1 l1 A2 c2 l2 A3 c3 l3 st (w.alloc (Obj.cells #[.slice A0 l0.length c0, .slice A1 l1.length c1, .slice A2 l2.length c2, .slice A3 l3.length c3, .int .i64 st] 27)) (Kd.C_below hr0 HB.out) (Kd.C_below hr1 HB.out) (Kd.C_below hr2 HB.out) (Kd.C_below hr3 HB.out)
  rwa [hv] at this⟩
 have hu27 := Try.underlying27
 have hu56 := Try.underlying56
 have f0 : (w.alloc (Obj.cells #[.slice A0 l0.length c0, .slice A1 l1.length c1, .slice A2 l2.length c2, .slice A3 l3.length c3, .int .i64 st] 27)).cell? ⟨w.heap.size, 0, none⟩ = some (.slice A0 l0.length c0) := by go_simp
 have f1 : (w.alloc (Obj.cells #[.slice A0 l0.length c0, .slice A1 l1.length c1, .slice A2 l2.length c2, .slice A3 l3.length c3, .int .i64 st] 27)).cell? ⟨w.heap.size, 1, none⟩ = some (.slice A1 l1.length c1) := by go_simp
 have f2 : (w.alloc (Obj.cells #[.slice A0 l0.length c0, .slice A1 l1.length c1, .slice A2 l2.length c2, .slice A3 l3.length c3, .int .i64 st] 27)).cell? ⟨w.heap.size, 2, none⟩ = some (.slice A2 l2.length c2) := by go_simp
 have f3 : (w.alloc (Obj.cells #[.slice A0 l0.length c0, .slice A1 l1.length c1, .slice A2 l2.length c2, .slice A3 l3.length c3, .int .i64 st] 27)).cell? ⟨w.heap.size, 3, none⟩ = some (.slice A3 l3.length c3) := by go_simp
 have f4 : (w.alloc (Obj.cells #[.slice A0 l0.length c0, .slice A1 l1.length c1, .slice A2 l2.length c2, .slice A3 l3.length c3, .int .i64 st] 27)).cell? ⟨w.heap.size, 4, none⟩ = some (.int .i64 st) := by go_simp
 replace f0 := Aside0.mk f0
 replace f1 := Aside0.mk f1
 replace f2 := Aside0.mk f2
 replace f3 := Aside0.mk f3
 replace f4 := Aside0.mk f4
 clear hr0 hr1 hr2 hr3 hv hc0 hc1 hc2 hc3 he hf hs hen
 go_enter Try.func29, Try.ntmps29
 go_upto_region 3 with (go_at_call 23; refine hval.out.mono ?_; rintro e w3 ⟨rfl, hb3⟩; replace hb3 := Aside0.mk hb3)
 have F0 := pw_cell_below hb3.out f0.out
 have F1 := pw_cell_below hb3.out f1.out
 have F2 := pw_cell_below hb3.out f2.out
 have F3 := pw_cell_below hb3.out f3.out
 have F4 := pw_cell_below hb3.out f4.out
 have HW3 : Aside0 (Below w.heap.size w w3) := ⟨below_step HB.out hb3.out⟩
 have hgb : Aside0 (w.heap.size < w3.heap.size) := ⟨Nat.lt_of_lt_of_le (by simp) hb3.out.size⟩
 clear f0 f1 f2 f3 f4 hb3 hval HB
 generalize hg : w.heap.size = gb at F0 F1 F2 F3 F4 hgb ⊢
 have HGB := Aside0.mk hg
 clear hg
 have E0 := Aside0.mk F0
 have E1 := Aside0.mk F1
 have E2 := Aside0.mk F2
 have E3 := Aside0.mk F3
 have E4 := Aside0.mk F4
 go_cut [3] from 7 to 15 (fun s3 wr => ∃ (b3 tb G cap dE : Nat) (E : Option Addr), s3 = .pointer (some ⟨b3, 0, none⟩) ∧ Aside0 (wr.cell? ⟨b3, 0, none⟩ = some (.pointer (some ⟨tb, 0, none⟩)) ∧
   wr.cell? ⟨tb, 0, none⟩ = some (.slice A0 l0.length c0) ∧ wr.cell? ⟨tb, 2, none⟩ = some (.slice A2 l2.length c2) ∧ wr.cell? ⟨tb, 5, none⟩ = some (.slice E l2.length dE) ∧ wr.cell? ⟨tb, 6, none⟩ = some (.slice (some ⟨G, 0, none⟩) l2.length cap)) ∧
   Aside0 (Kd.R Kd.bool 4 wr w3.heap.size (fun k => k ≠ G) (.slice E l2.length dE) es) ∧ Aside0 (Kd.R (Kd.int .u64) 30 wr w3.heap.size (fun _ => True) (.slice (some ⟨G, 0, none⟩) l2.length cap) (List.replicate l2.length 0)) ∧ Aside0 (b3 ≠ G ∧ tb ≠ G ∧ w3.heap.size ≤ G ∧ G < wr.heap.size ∧ Below w3.heap.size w3 wr))
 case first =>
  have hmk := make_sets l2.length hvh.out.1
  have X0 := Aside0.mk (Kd.C_below HR0.out HW3.out)
  have X1 := Aside0.mk (Kd.C_below HR1.out HW3.out)
  have X2 := Aside0.mk (Kd.C_below HR2.out HW3.out)
  have X3 := Aside0.mk (Kd.C_below HR3.out HW3.out)
  have n0 := World.new_ne w3 _ F0
  have n1 : ¬ w3.heap.size + 1 = gb := by have := hgb.out; omega
  have n2 : ¬ gb = w3.heap.size := by have := hgb.out; omega
  have n3 : ¬ gb = w3.heap.size + 1 := by have := hgb.out; omega
  go_region_held3 (fun w' => w'.cell? ⟨gb, 0, none⟩ = some (.slice A0 l0.length c0) ∧ w'.cell? ⟨gb, 1, none⟩ = some (.slice A1 l1.length c1) ∧ w'.cell? ⟨gb, 2, none⟩ = some (.slice A2 l2.length c2) ∧ w'.cell? ⟨gb, 3, none⟩ = some (.slice A3 l3.length c3) ∧ w'.cell? ⟨gb, 4, none⟩ = some (.int .i64 st)) (first | (go_keep; done) | (have hb34' := hb34; exact ⟨pw_cell_below (w := w3) (by repeat (first | exact hb34.out | exact Below.refl _ _ | apply below_alloc | apply below_drew | refine Below.setCell ?_ (by first | exact Nat.le_refl _ | exact Nat.le_succ _) _)) F0, pw_cell_below (w := w3) (by repeat (first | exact hb34.out | exact Below.refl _ _ | apply below_alloc | apply below_drew | refine Below.setCell ?_ (by first | exact Nat.le_refl _ | exact Nat.le_succ _) _)) F1, pw_cell_below (w := w3) (by repeat (first | exact hb34.out | exact Below.refl _ _ | apply below_alloc | apply below_drew | refine Below.setCell ?_ (by first | exact Nat.le_refl _ | exact Nat.le_succ _) _)) F2, pw_cell_below (w := w3) (by repeat (first | exact hb34.out | exact Below.refl _ _ | apply below_alloc | apply below_drew | refine Below.setCell ?_ (by first | exact Nat.le_refl _ | exact Nat.le_succ _) _)) F3, pw_cell_below (w := w3) (by repeat (first | exact hb34.out | exact Below.refl _ _ | apply below_alloc | apply below_drew | refine Below.setCell ?_ (by first | exact Nat.le_refl _ | exact Nat.le_succ _) _)) F4⟩) | exact ⟨pw_cell_below (w := w3) (by repeat (first | exact Below.refl _ _ | apply below_alloc | apply below_drew | refine Below.setCell ?_ (by first | exact Nat.le_refl _ | exact Nat.le_succ _) _)) F0, pw_cell_below (w := w3) (by repeat (first | exact Below.refl _ _ | apply below_alloc | apply below_drew | refine Below.setCell ?_ (by first | exact Nat.le_refl _ | exact Nat.le_succ _) _)) F1, pw_cell_below (w := w3) (by repeat (first | exact Below.refl _ _ | apply below_alloc | apply below_drew | refine Below.setCell ?_ (by first | exact Nat.le_refl _ | exact Nat.le_succ _) _)) F2, pw_cell_below (w := w3) (by repeat (first | exact Below.refl _ _ | apply below_alloc | apply below_drew | refine Below.setCell ?_ (by first | exact Nat.le_refl _ | exact Nat.le_succ _) _)) F3, pw_cell_below (w := w3) (by repeat (first | exact Below.refl _ _ | apply below_alloc | apply below_drew | refine Below.setCell ?_ (by first | exact Nat.le_refl _ | exact Nat.le_succ _) _)) F4⟩)
   (first | (go_at_call 12; refine (sets_Empty.calls k _ _ l0 _ _ l1 _ _ l2 _ _ l3 st es _ ?_ HC.out.1 ?_ HC.out.2.1 ?_ HC.out.2.2.1 ?_ HC.out.2.2.2 HE.out).mono ?_; exact Kd.C_below X0.out (by repeat (first | exact Below.refl _ _ | apply below_alloc | apply below_drew)); exact Kd.C_below X1.out (by repeat (first | exact Below.refl _ _ | apply below_alloc | apply below_drew)); exact Kd.C_below X2.out (by repeat (first | exact Below.refl _ _ | apply below_alloc | apply below_drew)); exact Kd.C_below X3.out (by repeat (first | exact Below.refl _ _ | apply below_alloc | apply below_drew)); rintro e w4 ⟨v0, rfl, hR4, hB4⟩; obtain ⟨EA, dE, rfl⟩ := Kd.R_slice hR4; have hb34 := below_step (w := w3) (by repeat (first | exact Below.refl _ _ | apply below_alloc | apply below_drew)) hB4; have y0 := pw_cell_below hb34 E0.out; have y1 := pw_cell_below hb34 E1.out; have y2 := pw_cell_below hb34 E2.out; have y3 := pw_cell_below hb34 E3.out; have y4 := pw_cell_below hb34 E4.out; replace hb34 := Aside0.mk hb34; replace hR4 := Aside0.mk hR4; replace hB4 := Aside0.mk hB4; have n4 := World.new_ne w4 _ y0; (first | (by_cases t0 : w4.cell? ⟨w3.heap.size, 0, none⟩ = some (.pointer none); rotate_left; (focus (exfalso; refine t0 (pw_cell_below hB4.out ?_); go_simp; done)); (by_cases z0 : w4.frozen? ⟨w3.heap.size, 0, none⟩ = false; rotate_left; (focus (exfalso; refine z0 ((hB4.out.frozen ?_).trans ?_); (focus (first | (simp; done) | (simp; omega) | (simp only [World.size_alloc, World.size_drew]; omega))); (focus (go_simp; done))))); have m0 := World.new_ne w4 _ t0; have l0_ : w3.heap.size < w4.heap.size := World.block_lt_of_cell? w4 _ t0; have l0b : w3.heap.size < w4.heap.size + 1 := Nat.lt_succ_of_lt l0_; have l0c : w3.heap.size < w4.heap.size + 1 + 1 := Nat.lt_succ_of_lt l0b) | skip); (first | (by_cases t1 : w4.cell? ⟨w3.heap.size + 1, 0, none⟩ = some (.pointer none); rotate_left; (focus (exfalso; refine t1 (pw_cell_below hB4.out ?_); go_simp; done)); (by_cases z1 : w4.frozen? ⟨w3.heap.size + 1, 0, none⟩ = false; rotate_left; (focus (exfalso; refine z1 ((hB4.out.frozen ?_).trans ?_); (focus (first | (simp; done) | (simp; omega) | (simp only [World.size_alloc, World.size_drew]; omega))); (focus (go_simp; done))))); have m1 := World.new_ne w4 _ t1; have l1_ : w3.heap.size + 1 < w4.heap.size := World.block_lt_of_cell? w4 _ t1; have l1b : w3.heap.size < w4.heap.size := Nat.lt_of_succ_lt l1_; have l1c : w3.heap.size < w4.heap.size + 1 := Nat.lt_succ_of_lt l1b) | skip)))
  ·have hs := hB4.out.size
   simp at hs
   go_wp2_with fail
   go_meet
   exact ⟨w4.heap.size + 1 + 1, w4.heap.size + 1, w4.heap.size, l2.length, dE, EA, rfl, ⟨by go_simp, by go_simp, by go_simp, by rw [← HEN.out]; go_simp, by go_simp⟩,
    ⟨by rw [← HEN.out]; exact Kd.R_mono (ok := fun k => k ≠ w4.heap.size ∧ k ≠ w4.heap.size + 1 + 1) (by (repeat (with_reducible first | apply Kd.R_alloc | refine Kd.R_far ?_ (fun k hk => hk.2) _)); exact R_kept hR4.out (by first | omega | (simp; done) | (simp; omega)) (by intro k h1 h2; simp at h1; omega)) (fun k hk => hk.1)⟩,
    ⟨Kd.R_mono (ok := fun k => k = w4.heap.size) (by (repeat (with_reducible first | refine R_fresh_at _ _ _ hvh.out.1 _ ?_ ?_ | apply Kd.R_drew | apply Kd.R_alloc)); all_goals (first | omega | (simp; done) | (simp; omega))) (fun _ _ => trivial)⟩,
    ⟨by omega, by omega, by omega, by simp; try omega, by repeat (first | exact hb34.out | apply below_alloc | refine Below.setCell ?_ (by first | exact Nat.le_refl _ | exact Nat.le_succ _) _)⟩⟩
  ·have hs := hB4.out.size
   simp at hs
   go_wp2_with fail
   go_meet
   exact ⟨w4.heap.size + 1, w4.heap.size + 1 + 1, w4.heap.size, l2.length, dE, EA, rfl, ⟨by go_simp, by go_simp, by go_simp, by rw [← HEN.out]; go_simp, by go_simp⟩,
    ⟨by rw [← HEN.out]; exact Kd.R_mono (ok := fun k => k ≠ w4.heap.size ∧ k ≠ w4.heap.size + 1) (by (repeat (with_reducible first | apply Kd.R_alloc | refine Kd.R_far ?_ (fun k hk => hk.2) _)); exact R_kept hR4.out (by first | omega | (simp; done) | (simp; omega)) (by intro k h1 h2; simp at h1; omega)) (fun k hk => hk.1)⟩,
    ⟨Kd.R_mono (ok := fun k => k = w4.heap.size) (by (repeat (with_reducible first | refine R_fresh_at _ _ _ hvh.out.1 _ ?_ ?_ | apply Kd.R_drew | apply Kd.R_alloc)); all_goals (first | omega | (simp; done) | (simp; omega))) (fun _ _ => trivial)⟩,
    ⟨by omega, by omega, by omega, by simp; try omega, by repeat (first | exact hb34.out | apply below_alloc | refine Below.setCell ?_ (by first | exact Nat.le_refl _ | exact Nat.le_succ _) _)⟩⟩
  ·have hs := hB4.out.size
   simp at hs
   go_wp2_with fail
   go_meet
   exact ⟨w4.heap.size, w4.heap.size + 1 + 1, w4.heap.size + 1, l2.length, dE, EA, rfl, ⟨by go_simp, by go_simp, by go_simp, by rw [← HEN.out]; go_simp, by go_simp⟩,
    ⟨by rw [← HEN.out]; exact Kd.R_mono (ok := fun k => k ≠ w4.heap.size + 1 ∧ k ≠ w4.heap.size) (by (repeat (with_reducible first | apply Kd.R_alloc | refine Kd.R_far ?_ (fun k hk => hk.2) _)); exact R_kept hR4.out (by first | omega | (simp; done) | (simp; omega)) (by intro k h1 h2; simp at h1; omega)) (fun k hk => hk.1)⟩,
    ⟨Kd.R_mono (ok := fun k => k = w4.heap.size + 1) (by (repeat (with_reducible first | refine R_fresh_at _ _ _ hvh.out.1 _ ?_ ?_ | apply Kd.R_drew | apply Kd.R_alloc)); all_goals (first | omega | (simp; done) | (simp; omega))) (fun _ _ => trivial)⟩,
    ⟨by omega, by omega, by omega, by simp; try omega, by repeat (first | exact hb34.out | apply below_alloc | refine Below.setCell ?_ (by first | exact Nat.le_refl _ | exact Nat.le_succ _) _)⟩⟩
  ·have hs := hB4.out.size
   simp at hs
   go_wp2_with fail
   go_meet
   exact ⟨w4.heap.size + 1, w4.heap.size, w3.heap.size, l2.length, dE, EA, rfl, ⟨by go_simp, by go_simp, by go_simp, by rw [← HEN.out]; go_simp, by go_simp⟩,
    ⟨by rw [← HEN.out]; exact Kd.R_mono (ok := fun k => k ≠ w3.heap.size ∧ k ≠ w4.heap.size + 1) (by (repeat (with_reducible first | apply Kd.R_alloc | refine Kd.R_far ?_ (fun k hk => hk.2) _)); exact R_kept hR4.out (by first | omega | (simp; done) | (simp; omega)) (by intro k h1 h2; simp at h1; omega)) (fun k hk => hk.1)⟩,
    ⟨Kd.R_mono (ok := fun k => k = w3.heap.size) (by (repeat (with_reducible first | apply Kd.R_alloc | refine Kd.R_far ?_ (fun k hk => by rw [hk]; simp) _)); refine Kd.R_below ?_ hB4.out; (repeat (with_reducible first | refine R_fresh_at _ _ _ hvh.out.1 _ ?_ ?_ | apply Kd.R_drew | apply Kd.R_alloc)); all_goals (first | omega | (simp; done) | (simp; omega))) (fun _ _ => trivial)⟩,
    ⟨by omega, by omega, by omega, by simp; try omega, by repeat (first | exact hb34.out | apply below_alloc | refine Below.setCell ?_ (by first | exact Nat.le_refl _ | exact Nat.le_succ _) _)⟩⟩
  ·have hs := hB4.out.size
   simp at hs
   go_wp2_with fail
   go_meet
   exact ⟨w4.heap.size, w4.heap.size + 1, w3.heap.size, l2.length, dE, EA, rfl, ⟨by go_simp, by go_simp, by go_simp, by rw [← HEN.out]; go_simp, by go_simp⟩,
    ⟨by rw [← HEN.out]; exact Kd.R_mono (ok := fun k => k ≠ w3.heap.size ∧ k ≠ w4.heap.size) (by (repeat (with_reducible first | apply Kd.R_alloc | refine Kd.R_far ?_ (fun k hk => hk.2) _)); exact R_kept hR4.out (by first | omega | (simp; done) | (simp; omega)) (by intro k h1 h2; simp at h1; omega)) (fun k hk => hk.1)⟩,
    ⟨Kd.R_mono (ok := fun k => k = w3.heap.size) (by (repeat (with_reducible first | apply Kd.R_alloc | refine Kd.R_far ?_ (fun k hk => by rw [hk]; simp) _)); refine Kd.R_below ?_ hB4.out; (repeat (with_reducible first | refine R_fresh_at _ _ _ hvh.out.1 _ ?_ ?_ | apply Kd.R_drew | apply Kd.R_alloc)); all_goals (first | omega | (simp; done) | (simp; omega))) (fun _ _ => trivial)⟩,
    ⟨by omega, by omega, by omega, by simp; try omega, by repeat (first | exact hb34.out | apply below_alloc | refine Below.setCell ?_ (by first | exact Nat.le_refl _ | exact Nat.le_succ _) _)⟩⟩
  ·have hs := hB4.out.size
   simp at hs
   go_wp2_with fail
   go_meet
   exact ⟨w3.heap.size + 1, w4.heap.size, w3.heap.size, l2.length, dE, EA, rfl, ⟨by go_simp, by go_simp, by go_simp, by rw [← HEN.out]; go_simp, by go_simp⟩,
    ⟨by rw [← HEN.out]; exact Kd.R_mono (ok := fun k => k ≠ w3.heap.size ∧ k ≠ w3.heap.size + 1) (by (repeat (with_reducible first | apply Kd.R_alloc | refine Kd.R_far ?_ (fun k hk => hk.2) _)); exact R_kept hR4.out (by first | omega | (simp; done) | (simp; omega)) (by intro k h1 h2; simp at h1; omega)) (fun k hk => hk.1)⟩,
    ⟨Kd.R_mono (ok := fun k => k = w3.heap.size) (by (repeat (with_reducible first | apply Kd.R_alloc | refine Kd.R_far ?_ (fun k hk => by rw [hk]; simp) _)); refine Kd.R_below ?_ hB4.out; (repeat (with_reducible first | refine R_fresh_at _ _ _ hvh.out.1 _ ?_ ?_ | apply Kd.R_drew | apply Kd.R_alloc)); all_goals (first | omega | (simp; done) | (simp; omega))) (fun _ _ => trivial)⟩,
    ⟨by omega, by omega, by omega, by simp; try omega, by repeat (first | exact hb34.out | apply below_alloc | refine Below.setCell ?_ (by first | exact Nat.le_refl _ | exact Nat.le_succ _) _)⟩⟩
  ·have hs := hB4.out.size
   simp at hs
   go_wp2_with fail
   go_meet
   exact ⟨w3.heap.size, w4.heap.size + 1, w4.heap.size, l2.length, dE, EA, rfl, ⟨by go_simp, by go_simp, by go_simp, by rw [← HEN.out]; go_simp, by go_simp⟩,
    ⟨by rw [← HEN.out]; exact Kd.R_mono (ok := fun k => k ≠ w4.heap.size ∧ k ≠ w3.heap.size) (by (repeat (with_reducible first | apply Kd.R_alloc | refine Kd.R_far ?_ (fun k hk => hk.2) _)); exact R_kept hR4.out (by first | omega | (simp; done) | (simp; omega)) (by intro k h1 h2; simp at h1; omega)) (fun k hk => hk.1)⟩,
    ⟨Kd.R_mono (ok := fun k => k = w4.heap.size) (by (repeat (with_reducible first | refine R_fresh_at _ _ _ hvh.out.1 _ ?_ ?_ | apply Kd.R_drew | apply Kd.R_alloc)); all_goals (first | omega | (simp; done) | (simp; omega))) (fun _ _ => trivial)⟩,
    ⟨by omega, by omega, by omega, by simp; try omega, by repeat (first | exact hb34.out | apply below_alloc | refine Below.setCell ?_ (by first | exact Nat.le_refl _ | exact Nat.le_succ _) _)⟩⟩
  ·have hs := hB4.out.size
   simp at hs
   go_wp2_with fail
   go_meet
   exact ⟨w3.heap.size, w4.heap.size, w3.heap.size + 1, l2.length, dE, EA, rfl, ⟨by go_simp, by go_simp, by go_simp, by rw [← HEN.out]; go_simp, by go_simp⟩,
    ⟨by rw [← HEN.out]; exact Kd.R_mono (ok := fun k => k ≠ w3.heap.size + 1 ∧ k ≠ w3.heap.size) (by (repeat (with_reducible first | apply Kd.R_alloc | refine Kd.R_far ?_ (fun k hk => hk.2) _)); exact R_kept hR4.out (by first | omega | (simp; done) | (simp; omega)) (by intro k h1 h2; simp at h1; omega)) (fun k hk => hk.1)⟩,
    ⟨Kd.R_mono (ok := fun k => k = w3.heap.size + 1) (by (repeat (with_reducible first | apply Kd.R_alloc | refine Kd.R_far ?_ (fun k hk => by rw [hk]; simp) _)); refine Kd.R_below ?_ hB4.out; (repeat (with_reducible first | refine R_fresh_at _ _ _ hvh.out.1 _ ?_ ?_ | apply Kd.R_drew | apply Kd.R_alloc)); all_goals (first | omega | (simp; done) | (simp; omega))) (fun _ _ => trivial)⟩,
    ⟨by omega, by omega, by omega, by simp; try omega, by repeat (first | exact hb34.out | apply below_alloc | refine Below.setCell ?_ (by first | exact Nat.le_refl _ | exact Nat.le_succ _) _)⟩⟩
 case rest =>
  obtain ⟨b3, tb, G, cap, dE, E, rfl, hcell, hE, hF, hN⟩ := hcut
  have hNB := Aside0.mk hN.out.2.2.2.2
  have hsz : Aside0 (b3 ≠ G ∧ tb ≠ G ∧ gb < G ∧ w3.heap.size ≤ G ∧ G < wc.heap.size) := ⟨hN.out.1, hN.out.2.1, Nat.lt_of_lt_of_le hgb.out hN.out.2.2.1, hN.out.2.2.1, hN.out.2.2.2.1⟩
  clear F0 F1 F2 F3 F4
  have F0 := pw_cell_below hNB.out E0.out
  have F1 := pw_cell_below hNB.out E1.out
  have F2 := pw_cell_below hNB.out E2.out
  have F3 := pw_cell_below hNB.out E3.out
  have F4 := pw_cell_below hNB.out E4.out
  have F5 := hcell.out.1
  have F6 := hcell.out.2.2.2.2
  have hmf : ∀ (fn : Fn) (first cap : Array Value) (w : World), (Instr.makeFunc fn first cap).run Try.prog w = .ok (.func fn first cap) w := fun _ _ _ _ => rfl
  have hEE : Aside0 (∀ wz wy : World, Below wc.heap.size wc wz → wz.grownBy wy (some G) → Kd.C Kd.bool wy E l2.length es) := ⟨fun wz wy hz hy => by
   have h1 := Kd.R_grown (Kd.R_below hE.out hz) hy (fun k hk e => hk (by injection e))
   have h2 := (Kd.R_reads' h1).2.2
   rwa [← (Kd.R_reads' h1).1] at h2⟩
  have hgrow : Aside0 (∀ wz : World, Below wc.heap.size wc wz → Calls Try.prog 48 #[.agg #[.slice A0 l0.length c0, .slice A1 l1.length c1, .slice A2 l2.length c2, .slice A3 l3.length c3, .int .i64 st], .slice (some ⟨G, 0, none⟩) l2.length cap, .func (.func 49) #[] #[.pointer (some ⟨b3, 0, none⟩)]] wz
    fun e w' => e = .returned (.slice (some ⟨G, 0, none⟩) l2.length cap) ∧ Kd.R (Kd.int .u64) 30 w' w3.heap.size (fun _ => True) (.slice (some ⟨G, 0, none⟩) l2.length cap) fs ∧ wz.grownBy w' (some G)) := ⟨fun wz hz =>
   grow_set k tb l0.length l2.length A0 A2 E c0 c2 dE es A0 c0 l0 A1 c1 l1 A2 c2 l2 A3 c3 l3 st b3 G cap w3.heap.size (fun _ => True) (List.replicate l2.length 0) fs w3 wz (Kd.C_below HR3.out HW3.out) (below_step hNB.out hz) hsz.out.2.2.2.1 (Nat.lt_of_lt_of_le hsz.out.2.2.2.2 hz.size) hvh.out.1
    (pw_cell_below hz hcell.out.1) (pw_cell_below hz hcell.out.2.1) (pw_cell_below hz hcell.out.2.2.1) (pw_cell_below hz hcell.out.2.2.2.1) (pw_cell_below hz hcell.out.2.2.2.2) (fun wy hy => hEE.out wz wy hz hy) hsz.out.1 hsz.out.2.1 (Kd.R_below hF.out hz) HS.out HF.out⟩
  have X0 := Aside0.mk F0
  have X1 := Aside0.mk F1
  have X2 := Aside0.mk F2
  have X3 := Aside0.mk F3
  have X4 := Aside0.mk F4
  have X5 := Aside0.mk F5
  have X6 := Aside0.mk F6
  clear E0 E1 E2 E3 E4
  go_upto_region 4 with fail
  go_region_held3 (fun w' => w'.cell? ⟨gb, 0, none⟩ = some (.slice A0 l0.length c0) ∧ w'.cell? ⟨gb, 1, none⟩ = some (.slice A1 l1.length c1) ∧ w'.cell? ⟨gb, 2, none⟩ = some (.slice A2 l2.length c2) ∧ w'.cell? ⟨gb, 3, none⟩ = some (.slice A3 l3.length c3) ∧ w'.cell? ⟨gb, 4, none⟩ = some (.int .i64 st) ∧ w'.cell? ⟨b3, 0, none⟩ = some (.pointer (some ⟨tb, 0, none⟩)) ∧ w'.cell? ⟨tb, 6, none⟩ = some (.slice (some ⟨G, 0, none⟩) l2.length cap)) (go_keep)
   (first | (go_at_call 48; refine (hgrow.out _ (by repeat (first | exact Below.refl _ _ | apply below_drew))).mono ?_; rintro e w6 ⟨rfl, hr6, hg6⟩; have hk := fun {a : Addr} {v : Value} (h : wc.cell? a = some v) (hn : a.block ≠ G) => World.grownBy.cell hg6 (a := a) (v := v) (pw_cell_below (by repeat (first | exact Below.refl _ _ | apply below_drew)) h) (fun e => hn (by injection e)); have y0 := hk X0.out (Nat.ne_of_lt hsz.out.2.2.1); have y1 := hk X1.out (Nat.ne_of_lt hsz.out.2.2.1); have y2 := hk X2.out (Nat.ne_of_lt hsz.out.2.2.1); have y3 := hk X3.out (Nat.ne_of_lt hsz.out.2.2.1); have y4 := hk X4.out (Nat.ne_of_lt hsz.out.2.2.1); have y5 := hk X5.out hsz.out.1; have y6 := hk X6.out hsz.out.2.1; have y7 := Aside0.mk (hk hcell.out.2.1 hsz.out.2.1); have y8 := Aside0.mk (hk hcell.out.2.2.1 hsz.out.2.1); have y9 := Aside0.mk (hk hcell.out.2.2.2.1 hsz.out.2.1); clear hk; replace hr6 := Aside0.mk hr6; replace hg6 := Aside0.mk hg6))
  go_wp2
  go_ret
  exact ⟨tb, G, cap, dE, E, rfl, y7.out, y8.out, y9.out, y6, hEE.out _ _ (by repeat (first | exact Below.refl _ _ | apply below_drew)) hg6.out, Kd.R_lower hr6.out (by first | exact HW3.out.size | (rw [← HGB.out]; exact HW3.out.size)), below_grown (below_drew (below_step HW3.out hNB.out)) hg6.out (by rw [HGB.out]; exact Nat.le_of_lt hsz.out.2.2.1)⟩

end Go.Proofs.Ytggfiopajogiiaa.P
end

section
set_option linter.unusedVariables false
set_option linter.unusedSimpArgs false
namespace Go.Proofs.Ytggfiopajogiiaa.P
open Go.Proofs.Ytggfiopajogiiaa.Base Go.RowKit Go.Proofs.YtggfiopajogiiaaW.PrintWords Go.Proofs.YtggfiopajogiiaaW.PrintLast Go.Proofs.YtggfiopajogiiaaW.PrintMore

theorem With_some (out s : Int) (h0 : 0 ≤ s) (h1 : s < 64) : ∃ q, bits_With.f out s = some q := by
 unfold bits_With.f bits_bit.f
 rw [if_neg (by omega), if_neg (by omega), if_pos h0]
 exact ⟨_, rfl⟩

theorem rowF_total (nT nS : Int) (hT : nT ≤ 60) (es : List Bool) (fs : List Int) (behind : Int) : ∀ (l : List Int) (out : Int), ∃ q, rowF nT nS es fs behind l out = some q
 | [], out => ⟨_, rfl⟩
 | s :: l, out => by
  unfold rowF
  split
  ·exact ⟨_, rfl⟩
  ·rename_i hn
   split
   ·exact With_some _ _ (by assumption) (by omega)
   ·have hu : bits_Union.f out (rd fs (-1 - s)) = some (Go.bits .or .u64 out (rd fs (-1 - s))) := rfl
    rw [hu]
    simp only [Option.bind_some]
    split
    ·exact rowF_total nT nS hT es fs behind l _
    ·exact ⟨_, rfl⟩

theorem Empty_len {k : Nat} {l0 : List S51} {l1 : List S63} {l2 : List ByteArray} {l3 : List S45} {st : Int} {es : List Bool} (hv : validB l0 l1 l2 l3 st = true) (h : sets_Empty.f k l0 l1 l2 l3 st = some es) : es.length = l2.length := by
 unfold sets_Empty.f sets_all.f at h
 rw [if_pos hv] at h
 have h' : growG false (moreB false) l3 k (List.replicate l2.length false) = some es := by simpa using h
 rw [growG_length _ _ _ _ _ _ h', List.length_replicate]

theorem valid_terms {l0 : List S51} {l1 : List S63} {l2 : List ByteArray} {l3 : List S45} {st : Int} (h : validB l0 l1 l2 l3 st = true) : (l0.length : Int) ≤ 60 := by
 simp only [validB, Bool.and_eq_true, Bool.not_eq_true', decide_eq_false_iff_not, List.all_eq_true] at h
 obtain ⟨⟨⟨⟨⟨⟨⟨⟨h0, -⟩, -⟩, -⟩, -⟩, -⟩, -⟩, -⟩, -⟩ := h
 omega

def sets_First.f (k : Nat) (l0 : List S51) (l1 : List S63) (l2 : List ByteArray) (l3 : List S45) (st : Int) : Option (List Int) :=
 if validB l0 l1 l2 l3 st = true then (sets_Empty.f k l0 l1 l2 l3 st).bind fun es => growG (0 : Int) (moreS l0.length l2.length es) l3 k (List.replicate l2.length 0) else some []

theorem sets_First.mono (l0 : List S51) (l1 : List S63) (l2 : List ByteArray) (l3 : List S45) (st : Int) (k : Nat) : LeO (sets_First.f k l0 l1 l2 l3 st) (sets_First.f (k + 1) l0 l1 l2 l3 st) := by
 unfold sets_First.f
 split
 ·intro r h
  obtain ⟨es, he, h⟩ := Option.bind_eq_some_iff.1 h
  exact Option.bind_eq_some_iff.2 ⟨es, sets_Empty.mono _ _ _ _ _ _ _ he, growG_mono _ _ _ _ _ _ h⟩
 ·exact fun _ h => h

set_option maxHeartbeats 4000000 in
theorem sets_First.calls (k : Nat) (A0 : Option Addr) (c0 : Nat) (l0 : List S51) (A1 : Option Addr) (c1 : Nat) (l1 : List S63) (A2 : Option Addr) (c2 : Nat) (l2 : List ByteArray) (A3 : Option Addr) (c3 : Nat) (l3 : List S45) (st : Int) (r : List Int) (w : World)
  (hr0 : Kd.C k51 w A0 l0.length l0) (hc0 : l0.length ≤ c0) (hr1 : Kd.C k63 w A1 l1.length l1) (hc1 : l1.length ≤ c1) (hr2 : Kd.C Kd.string w A2 l2.length l2) (hc2 : l2.length ≤ c2) (hr3 : Kd.C k45 w A3 l3.length l3) (hc3 : l3.length ≤ c3)
  (h : sets_First.f k l0 l1 l2 l3 st = some r) :
  Calls Try.prog 17 #[.agg #[.slice A0 l0.length c0, .slice A1 l1.length c1, .slice A2 l2.length c2, .slice A3 l3.length c3, .int .i64 st]] w fun e w' => ∃ v0_ : Value, e = .returned v0_ ∧ Kd.R (Kd.int .u64) 30 w' w.heap.size (fun _ => True) v0_ r ∧ Below w.heap.size w w' := by
 have HB : Aside0 (Below w.heap.size w (w.alloc (Obj.cells #[.slice A0 l0.length c0, .slice A1 l1.length c1, .slice A2 l2.length c2, .slice A3 l3.length c3, .int .i64 st] 27))) := ⟨below_alloc (Below.refl _ _) _⟩
 have hsz : Aside0 (w.heap.size ≤ (w.alloc (Obj.cells #[.slice A0 l0.length c0, .slice A1 l1.length c1, .slice A2 l2.length c2, .slice A3 l3.length c3, .int .i64 st] 27)).heap.size) := ⟨HB.out.size⟩
 have r0 := Kd.C_below hr0 HB.out
 have r1 := Kd.C_below hr1 HB.out
 have r2 := Kd.C_below hr2 HB.out
 have r3 := Kd.C_below hr3 HB.out
 have hu27 := Try.underlying27
 have hu56 := Try.underlying56
 unfold sets_First.f at h
 cases hv : validB l0 l1 l2 l3 st
 ·have hkn := Aside0.mk (known_nil A0 c0 l0 A1 c1 l1 A2 c2 l2 A3 c3 l3 st (w.alloc (Obj.cells #[.slice A0 l0.length c0, .slice A1 l1.length c1, .slice A2 l2.length c2, .slice A3 l3.length c3, .int .i64 st] 27)) r0 r1 r2 r3 hv)
  have hr : Aside0 (([] : List Int) = r) := ⟨by rw [hv] at h; simpa using h⟩
  clear hr0 hr1 hr2 hr3 r0 r1 r2 r3 hv h
  go_enter Try.func17, Try.ntmps17
  go_wp2_with (go_at_call 29; refine hkn.out.mono ?_; rintro e w3 ⟨rfl, hb3⟩; replace hb3 := Aside0.mk hb3)
  go_ret
  exact ⟨_, rfl, by rw [← hr.out]; exact Kd.R_nil _ _ _ _ _, below_step HB.out hb3.out⟩
 ·rw [if_pos hv] at h
  obtain ⟨es, he, hf⟩ := Option.bind_eq_some_iff.1 h
  have hkn := Aside0.mk (known_calls k A0 c0 l0 A1 c1 l1 A2 c2 l2 A3 c3 l3 st es r (w.alloc (Obj.cells #[.slice A0 l0.length c0, .slice A1 l1.length c1, .slice A2 l2.length c2, .slice A3 l3.length c3, .int .i64 st] 27)) r0 hc0 r1 hc1 r2 hc2 r3 hc3 hv he (Empty_len hv he) hf (fun p hp => ⟨((valid_has hv).2.2 p hp).1, fun xs => rowF_total _ _ (valid_terms hv) _ _ _ _ _⟩))
  clear hr0 hr1 hr2 hr3 r0 r1 r2 r3 hv h he hf
  go_enter Try.func17, Try.ntmps17
  go_wp2_with (go_at_call 29; refine hkn.out.mono ?_; rintro e w3 ⟨tb, G, cap, dE, E, rfl, y0, y2, y5, y6, hE, hR, hb3⟩; replace hb3 := Aside0.mk hb3; replace hR := Aside0.mk hR; clear hE)
  go_ret
  exact ⟨_, rfl, Kd.R_lower hR.out hsz.out, below_step HB.out hb3.out⟩

end Go.Proofs.Ytggfiopajogiiaa.P
end

section
set_option linter.unusedVariables false
set_option linter.unusedSimpArgs false
namespace Go.Proofs.Ytggfiopajogiiaa.P
open Go.Proofs.Ytggfiopajogiiaa.Base Go.RowKit Go.Proofs.YtggfiopajogiiaaW.PrintWords Go.Proofs.YtggfiopajogiiaaW.PrintLast Go.Proofs.YtggfiopajogiiaaW.PrintMore

def sets_Of.f (k : Nat) (l0 : List S51) (l1 : List S63) (l2 : List ByteArray) (l3 : List S45) (st : Int) (l : List Int) (behind : Int) : Option Int :=
 if validB l0 l1 l2 l3 st = true then (sets_Empty.f k l0 l1 l2 l3 st).bind fun es => (growG (0 : Int) (moreS l0.length l2.length es) l3 k (List.replicate l2.length 0)).bind fun fs => rowF l0.length l2.length es fs behind l 0 else some 0

theorem sets_Of.mono (l0 : List S51) (l1 : List S63) (l2 : List ByteArray) (l3 : List S45) (st : Int) (l : List Int) (behind : Int) (k : Nat) : LeO (sets_Of.f k l0 l1 l2 l3 st l behind) (sets_Of.f (k + 1) l0 l1 l2 l3 st l behind) := by
 unfold sets_Of.f
 split
 ·intro r h
  obtain ⟨es, he, h⟩ := Option.bind_eq_some_iff.1 h
  obtain ⟨fs, hf, h⟩ := Option.bind_eq_some_iff.1 h
  exact Option.bind_eq_some_iff.2 ⟨es, sets_Empty.mono _ _ _ _ _ _ _ he, Option.bind_eq_some_iff.2 ⟨fs, growG_mono _ _ _ _ _ _ hf, h⟩⟩
 ·exact fun _ h => h

set_option maxHeartbeats 4000000 in
theorem sets_Of.calls (k : Nat) (A0 : Option Addr) (c0 : Nat) (l0 : List S51) (A1 : Option Addr) (c1 : Nat) (l1 : List S63) (A2 : Option Addr) (c2 : Nat) (l2 : List ByteArray) (A3 : Option Addr) (c3 : Nat) (l3 : List S45) (st : Int) (A : Option Addr) (c : Nat) (l : List Int) (behind : Int) (r : Int) (w : World)
  (hr0 : Kd.C k51 w A0 l0.length l0) (hc0 : l0.length ≤ c0) (hr1 : Kd.C k63 w A1 l1.length l1) (hc1 : l1.length ≤ c1) (hr2 : Kd.C Kd.string w A2 l2.length l2) (hc2 : l2.length ≤ c2) (hr3 : Kd.C k45 w A3 l3.length l3) (hc3 : l3.length ≤ c3) (hr : Kd.C (Kd.int .i64) w A l.length l) (hc : l.length ≤ c)
  (h : sets_Of.f k l0 l1 l2 l3 st l behind = some r) :
  Calls Try.prog 21 #[.agg #[.slice A0 l0.length c0, .slice A1 l1.length c1, .slice A2 l2.length c2, .slice A3 l3.length c3, .int .i64 st], .slice A l.length c, .int .u64 behind] w fun e w' => e = .returned (.int .u64 r) ∧ Below w.heap.size w w' := by
 have HB : Aside0 (Below w.heap.size w (w.alloc (Obj.cells #[.slice A0 l0.length c0, .slice A1 l1.length c1, .slice A2 l2.length c2, .slice A3 l3.length c3, .int .i64 st] 27))) := ⟨below_alloc (Below.refl _ _) _⟩
 have hsz : Aside0 (w.heap.size ≤ (w.alloc (Obj.cells #[.slice A0 l0.length c0, .slice A1 l1.length c1, .slice A2 l2.length c2, .slice A3 l3.length c3, .int .i64 st] 27)).heap.size) := ⟨HB.out.size⟩
 have r0 := Kd.C_below hr0 HB.out
 have r1 := Kd.C_below hr1 HB.out
 have r2 := Kd.C_below hr2 HB.out
 have r3 := Kd.C_below hr3 HB.out
 have hu27 := Try.underlying27
 have hu56 := Try.underlying56
 unfold sets_Of.f at h
 cases hv : validB l0 l1 l2 l3 st
 ·have hkn := Aside0.mk (known_nil A0 c0 l0 A1 c1 l1 A2 c2 l2 A3 c3 l3 st (w.alloc (Obj.cells #[.slice A0 l0.length c0, .slice A1 l1.length c1, .slice A2 l2.length c2, .slice A3 l3.length c3, .int .i64 st] 27)) r0 r1 r2 r3 hv)
  have hrr : Aside0 ((0 : Int) = r) := ⟨by rw [hv] at h; simpa using h⟩
  clear hr hr0 hr1 hr2 hr3 r0 r1 r2 r3 hv h
  go_enter Try.func21, Try.ntmps21
  go_wp2_with (go_at_call 29; refine hkn.out.mono ?_; rintro e w3 ⟨rfl, hb3⟩; replace hb3 := Aside0.mk hb3)
  go_ret
  exact ⟨by rw [← hrr.out]; rfl, below_step HB.out hb3.out⟩
 ·rw [if_pos hv] at h
  obtain ⟨es, he, h⟩ := Option.bind_eq_some_iff.1 h
  obtain ⟨fs, hf, h⟩ := Option.bind_eq_some_iff.1 h
  have HH := Aside0.mk h
  have HL := Aside0.mk (Kd.C_below hr HB.out)
  have h60 := Aside0.mk (valid_has hv).1
  have hkn := Aside0.mk (known_calls k A0 c0 l0 A1 c1 l1 A2 c2 l2 A3 c3 l3 st es fs (w.alloc (Obj.cells #[.slice A0 l0.length c0, .slice A1 l1.length c1, .slice A2 l2.length c2, .slice A3 l3.length c3, .int .i64 st] 27)) r0 hc0 r1 hc1 r2 hc2 r3 hc3 hv he (Empty_len hv he) hf (fun p hp => ⟨((valid_has hv).2.2 p hp).1, fun xs => rowF_total _ _ (valid_terms hv) _ _ _ _ _⟩))
  clear hr hr0 hr1 hr2 hr3 r0 r1 r2 r3 hv h he hf
  go_enter Try.func21, Try.ntmps21
  go_wp2_with (first | (go_at_call 29; refine hkn.out.mono ?_; rintro e w3 ⟨tb, G, cap, dE, E, rfl, y0, y2, y5, y6, hE, hR, hb3⟩; have hrow := row_calls tb l0.length l2.length A0 A2 E (some ⟨G, 0, none⟩) c0 c2 dE cap es fs A c l behind r w3 (Kd.C_below HL.out hb3) h60.out y0 y2 y5 y6 hE (by have := (Kd.R_reads' hR).2.2; rwa [← (Kd.R_reads' hR).1] at this) HH.out; replace hb3 := Aside0.mk hb3; replace hR := Aside0.mk hR; replace hrow := Aside0.mk hrow; clear hE) | (go_at_call 33; refine hrow.out.mono ?_; rintro e w4 ⟨rfl, m, rfl⟩))
  go_ret
  exact ⟨rfl, pw_below_drewN (below_step HB.out hb3.out) _⟩

end Go.Proofs.Ytggfiopajogiiaa.P
end

section
set_option linter.unusedVariables false
set_option linter.unusedSimpArgs false
namespace Go.Proofs.Ytggfiopajogiiaa.P
open Go.Proofs.Ytggfiopajogiiaa.Base Go.RowKit Go.Proofs.YtggfiopajogiiaaW.PrintWords Go.Proofs.YtggfiopajogiiaaW.PrintLast Go.Proofs.YtggfiopajogiiaaW.PrintMore

section
variable (nT nS : Int) (es : List Bool) (fs : List Int)
/-- What one symbol more tells: what is behind it. -/
def folMore (srt s : Int) (l : List Int) (out : List Int) : Int := Go.bits .or .u64 (rdOf 0 out (IntKind.i64.wrap (-1 - s))) ((rowF nT nS es fs (rdOf 0 out srt) l 0).getD 0)
def folSym (srt : Int) : List Int → List Int × Bool → List Int × Bool
 | [], st => st
 | s :: l, st => folSym srt l (if 0 ≤ s then st else (st.1.set (IntKind.i64.wrap (-1 - s)).toNat (folMore nT nS es fs srt s l st.1), st.2 || decide (folMore nT nS es fs srt s l st.1 ≠ rdOf 0 st.1 (IntKind.i64.wrap (-1 - s)))))
def folPass : List S45 → List Int × Bool → List Int × Bool
 | [], st => st
 | p :: ps, st => folPass ps (folSym nT nS es fs p.f1 p.f2 st)
def folG (ps : List S45) : Nat → List Int → Option (List Int)
 | 0, _ => none
 | k + 1, xs => if (folPass nT nS es fs ps (xs, false)).2 = true then folG ps k (folPass nT nS es fs ps (xs, false)).1 else some (folPass nT nS es fs ps (xs, false)).1
theorem folG_mono (ps : List S45) : ∀ (k : Nat) (xs : List Int), LeO (folG nT nS es fs ps k xs) (folG nT nS es fs ps (k + 1) xs)
 | 0, xs => by intro r h; cases h
 | k + 1, xs => by
  intro r h
  unfold folG at h ⊢
  split at h
  ·rw [if_pos (by assumption)]; exact folG_mono ps k _ r h
  ·rw [if_neg (by assumption)]; exact h
theorem folPass_drop (ps : List S45) (k : Nat) (hk : k < ps.length) (st : List Int × Bool) : folPass nT nS es fs (ps.drop k) st = folPass nT nS es fs (ps.drop (k + 1)) (folSym nT nS es fs ps[k].f1 ps[k].f2 st) := by
 rw [List.drop_eq_getElem_cons hk]; rfl
theorem folSym_drop (srt : Int) (l : List Int) (k : Nat) (hk : k < l.length) (st : List Int × Bool) :
  folSym nT nS es fs srt (l.drop k) st = folSym nT nS es fs srt (l.drop (k + 1)) (if 0 ≤ l[k] then st else (st.1.set (IntKind.i64.wrap (-1 - l[k])).toNat (folMore nT nS es fs srt l[k] (l.drop (k + 1)) st.1), st.2 || decide (folMore nT nS es fs srt l[k] (l.drop (k + 1)) st.1 ≠ rdOf 0 st.1 (IntKind.i64.wrap (-1 - l[k]))))) := by
 rw [List.drop_eq_getElem_cons hk]; rfl
end

def sets_Follow.f (k : Nat) (l0 : List S51) (l1 : List S63) (l2 : List ByteArray) (l3 : List S45) (st : Int) : Option (List Int) :=
 if validB l0 l1 l2 l3 st = true then (sets_Empty.f k l0 l1 l2 l3 st).bind fun es => (growG (0 : Int) (moreS l0.length l2.length es) l3 k (List.replicate l2.length 0)).bind fun fs =>
  (bits_Of.f k [63]).bind fun eo => folG l0.length l2.length es fs l3 k ((List.replicate l2.length 0).set st.toNat eo) else some []

theorem sets_Follow.mono (l0 : List S51) (l1 : List S63) (l2 : List ByteArray) (l3 : List S45) (st : Int) (k : Nat) : LeO (sets_Follow.f k l0 l1 l2 l3 st) (sets_Follow.f (k + 1) l0 l1 l2 l3 st) := by
 unfold sets_Follow.f
 split
 ·intro r h
  obtain ⟨es, he, h⟩ := Option.bind_eq_some_iff.1 h
  obtain ⟨fs, hf, h⟩ := Option.bind_eq_some_iff.1 h
  obtain ⟨eo, ho, h⟩ := Option.bind_eq_some_iff.1 h
  exact Option.bind_eq_some_iff.2 ⟨es, sets_Empty.mono _ _ _ _ _ _ _ he, Option.bind_eq_some_iff.2 ⟨fs, growG_mono _ _ _ _ _ _ hf, Option.bind_eq_some_iff.2 ⟨eo, bits_Of.mono _ _ _ ho, folG_mono _ _ _ _ _ _ _ _ h⟩⟩⟩
 ·exact fun _ h => h

end Go.Proofs.Ytggfiopajogiiaa.P
end

section
set_option linter.unusedVariables false
set_option linter.unusedSimpArgs false
namespace Go.Proofs.Ytggfiopajogiiaa.P
open Go.Proofs.Ytggfiopajogiiaa.Base Go.RowKit Go.Proofs.YtggfiopajogiiaaW.PrintWords Go.Proofs.YtggfiopajogiiaaW.PrintLast Go.Proofs.YtggfiopajogiiaaW.PrintMore

theorem C_one (w : World) (x : Int) : Kd.C (Kd.int .i64) (w.alloc (.cells #[.int .i64 x] 3)) (some ⟨w.heap.size, 0, none⟩) 1 [x] := by
 have h : Kd.R (Kd.int .i64) 3 (w.alloc (.cells #[.int .i64 x] 3)) w.heap.size (fun _ => True) (.slice (some ⟨w.heap.size, 0, none⟩) 1 1) [x] :=
  Kd.R_of_own (enc := fun x => Value.int .i64 x) ⟨by simp [encs], .inr ⟨w.heap.size, 1, #[.int .i64 x], by simp, Nat.le_refl _, blk_new w _, by simp, by simp [maxLen], by simp, by simp [encs]⟩⟩ (fun _ _ => trivial)
 exact (Kd.R_reads' h).2.2

theorem wp_scope_inner {P : Program} {Q : Exit → Act → World → Prop} {a : Act} {w : World} {c rest : Code} (l : Nat) (J : Nat → Act → World → Prop) (hf : findLabel c l = some (Code.skip.seq rest))
  (first : (∀ n a w, J n a w → rest.wp P (Exit.jump l (fun a w => ∃ n, J n a w) Q) a w) → c.wp P (Exit.jump l (fun a w => ∃ n, J n a w) Q) a w)
  (pass : ∀ n a w, J n a w → rest.wp P (Exit.jump l (fun a' w' => ∃ m, m < n ∧ J m a' w') Q) a w) : (Code.scope c).wp P Q a w :=
 wp_scope_ghost (rest := Code.skip.seq rest) l J hf (first fun n a w hj => Code.wp_mono (Exit.jump_imp fun _ _ ⟨m, _, hj⟩ => ⟨m, hj⟩) (pass n a w hj)) fun n a w hj => wp_seq (wp_skip (pass n a w hj))

/-- What Follow's loop reads, in the world behind 'known'. -/
structure FolF (w w3 : World) (gb tb nT nS : Nat) (l3 : List S45) (A0 A2 A3 E F : Option Addr) (c0 c2 c3 dE cF : Nat) (es : List Bool) (fs : List Int) : Prop where
 below : Below w.heap.size w w3
 prods : w3.cell? ⟨gb, 3, none⟩ = some (.slice A3 l3.length c3)
 reads : Kd.C k45 w3 A3 l3.length l3
 t0 : w3.cell? ⟨tb, 0, none⟩ = some (.slice A0 nT c0)
 t2 : w3.cell? ⟨tb, 2, none⟩ = some (.slice A2 nS c2)
 t5 : w3.cell? ⟨tb, 5, none⟩ = some (.slice E nS dE)
 t6 : w3.cell? ⟨tb, 6, none⟩ = some (.slice F nS cF)
 empty : Kd.C Kd.bool w3 E nS es
 first : Kd.C (Kd.int .u64) w3 F nS fs

set_option maxHeartbeats 8000000 in
set_option maxRecDepth 100000 in
theorem sets_Follow.calls (k : Nat) (A0 : Option Addr) (c0 : Nat) (l0 : List S51) (A1 : Option Addr) (c1 : Nat) (l1 : List S63) (A2 : Option Addr) (c2 : Nat) (l2 : List ByteArray) (A3 : Option Addr) (c3 : Nat) (l3 : List S45) (st : Int) (r : List Int) (w : World)
  (hr0 : Kd.C k51 w A0 l0.length l0) (hc0 : l0.length ≤ c0) (hr1 : Kd.C k63 w A1 l1.length l1) (hc1 : l1.length ≤ c1) (hr2 : Kd.C Kd.string w A2 l2.length l2) (hc2 : l2.length ≤ c2) (hr3 : Kd.C k45 w A3 l3.length l3) (hc3 : l3.length ≤ c3)
  (h : sets_Follow.f k l0 l1 l2 l3 st = some r) :
  Calls Try.prog 19 #[.agg #[.slice A0 l0.length c0, .slice A1 l1.length c1, .slice A2 l2.length c2, .slice A3 l3.length c3, .int .i64 st]] w fun e w' => ∃ v0_ : Value, e = .returned v0_ ∧ Kd.R (Kd.int .u64) 30 w' w.heap.size (fun _ => True) v0_ r ∧ Below w.heap.size w w' := by
 have HB : Aside0 (Below w.heap.size w (w.alloc (Obj.cells #[.slice A0 l0.length c0, .slice A1 l1.length c1, .slice A2 l2.length c2, .slice A3 l3.length c3, .int .i64 st] 27))) := ⟨below_alloc (Below.refl _ _) _⟩
 have hsz : Aside0 (w.heap.size < (w.alloc (Obj.cells #[.slice A0 l0.length c0, .slice A1 l1.length c1, .slice A2 l2.length c2, .slice A3 l3.length c3, .int .i64 st] 27)).heap.size) := ⟨by simp⟩
 have r0 := Kd.C_below hr0 HB.out
 have r1 := Kd.C_below hr1 HB.out
 have r2 := Kd.C_below hr2 HB.out
 have r3 := Kd.C_below hr3 HB.out
 have hu27 := Try.underlying27
 have hu56 := Try.underlying56
 have hu45 := Try.underlying45
 unfold sets_Follow.f at h
 cases hv : validB l0 l1 l2 l3 st
 ·have hkn := Aside0.mk (known_nil A0 c0 l0 A1 c1 l1 A2 c2 l2 A3 c3 l3 st (w.alloc (Obj.cells #[.slice A0 l0.length c0, .slice A1 l1.length c1, .slice A2 l2.length c2, .slice A3 l3.length c3, .int .i64 st] 27)) r0 r1 r2 r3 hv)
  have hr : Aside0 (([] : List Int) = r) := ⟨by rw [hv] at h; simpa using h⟩
  clear hr0 hr1 hr2 hr3 r0 r1 r2 r3 hv h
  go_enter Try.func19, Try.ntmps19
  go_wp2
  go_step3
  go_wp2_with (go_at_call 29; refine hkn.out.mono ?_; rintro e w3 ⟨rfl, hb3⟩; replace hb3 := Aside0.mk hb3)
  rw [Exit.noGoto_ret]
  go_ret
  exact ⟨_, rfl, by rw [← hr.out]; exact Kd.R_nil _ _ _ _ _, below_step HB.out hb3.out⟩
 ·rw [if_pos hv] at h
  obtain ⟨es, he, h⟩ := Option.bind_eq_some_iff.1 h
  obtain ⟨fs, hf, h⟩ := Option.bind_eq_some_iff.1 h
  obtain ⟨eo, ho, h⟩ := Option.bind_eq_some_iff.1 h
  have hkn := Aside0.mk (known_calls k A0 c0 l0 A1 c1 l1 A2 c2 l2 A3 c3 l3 st es fs (w.alloc (Obj.cells #[.slice A0 l0.length c0, .slice A1 l1.length c1, .slice A2 l2.length c2, .slice A3 l3.length c3, .int .i64 st] 27)) r0 hc0 r1 hc1 r2 hc2 r3 hc3 hv he (Empty_len hv he) hf (fun p hp => ⟨((valid_has hv).2.2 p hp).1, fun xs => rowF_total _ _ (valid_terms hv) _ _ _ _ _⟩))
  have hvh := Aside0.mk (valid_has hv)
  have hT := Aside0.mk (valid_terms hv)
  have HH := Aside0.mk h
  have HO := Aside0.mk ho
  have h60 : (l2.length : Int) ≤ 60 := by have := (valid_has hv).1; omega
  have hst0 : (0 ≤ st) = True := eq_true (valid_has hv).2.1.1
  have hst1 : (st < (l2.length : Int)) = True := eq_true (valid_has hv).2.1.2
  have hpos : Aside0 (0 < l2.length) := ⟨by have := (valid_has hv).2.1; omega⟩
  have X3 := Aside0.mk r3
  have f2 : (w.alloc (Obj.cells #[.slice A0 l0.length c0, .slice A1 l1.length c1, .slice A2 l2.length c2, .slice A3 l3.length c3, .int .i64 st] 27)).cell? ⟨w.heap.size, 2, none⟩ = some (.slice A2 l2.length c2) := by go_simp
  have f3 : (w.alloc (Obj.cells #[.slice A0 l0.length c0, .slice A1 l1.length c1, .slice A2 l2.length c2, .slice A3 l3.length c3, .int .i64 st] 27)).cell? ⟨w.heap.size, 3, none⟩ = some (.slice A3 l3.length c3) := by go_simp
  have f4 : (w.alloc (Obj.cells #[.slice A0 l0.length c0, .slice A1 l1.length c1, .slice A2 l2.length c2, .slice A3 l3.length c3, .int .i64 st] 27)).cell? ⟨w.heap.size, 4, none⟩ = some (.int .i64 st) := by go_simp
  replace f2 := Aside0.mk f2
  replace f3 := Aside0.mk f3
  replace f4 := Aside0.mk f4
  clear hr0 hr1 hr2 hr3 r0 r1 r2 r3 hv h he hf ho
  go_enter Try.func19, Try.ntmps19
  go_wp2
  obtain ⟨gb, hgb⟩ : ∃ gb, w.heap.size = gb := ⟨_, rfl⟩
  have HGB := Aside0.mk hgb
  clear hgb
  obtain ⟨vg, hvg⟩ : ∃ vg : Value, vg = .agg #[.slice A0 l0.length c0, .slice A1 l1.length c1, .slice A2 l2.length c2, .slice A3 l3.length c3, .int .i64 st] := ⟨_, rfl⟩
  rw [← hvg]
  clear hvg
  refine wp_scope_inner 0 (fun n a wr => ∃ (w3 : World) (tb G cap dE G2 cap2 : Nat) (E : Option Addr) (xs : List Int) (u5 u6 u7 u8 u9 u10 u11 u12 u13 u14 u15 u16 u17 u18 u19 u20 u21 u22 u23 u24 u25 u26 u27 u28 u29 u30 u31 u32 u33 u34 u35 u36 u37 u38 u39 u40 u41 u42 u43 u44 u45 u46 u47 u48 u49 u50 u51 u52 u53 u54 u55 u56 u57 u58 u59 u60 u61 u62 u63 u64 u65 u66 u67 u68 u69 u70 u71 u72 u73 u74 u75 u76 u77 u78 : Value), a = { tmps := #[vg, .pointer (some ⟨w.heap.size, 0, none⟩), .slice none 0 0, .pointer (some ⟨tb, 0, none⟩), .slice (some ⟨G2, 0, none⟩) l2.length cap2, u5, u6, u7, u8, u9, u10, u11, u12, u13, u14, u15, u16, u17, u18, u19, u20, u21, u22, u23, u24, u25, u26, u27, u28, u29, u30, u31, u32, u33, u34, u35, u36, u37, u38, u39, u40, u41, u42, u43, u44, u45, u46, u47, u48, u49, u50, u51, u52, u53, u54, u55, u56, u57, u58, u59, u60, u61, u62, u63, u64, u65, u66, u67, u68, u69, u70, u71, u72, u73, u74, u75, u76, u77, u78], defers := [] } ∧ Aside0 (FolF w w3 w.heap.size tb l0.length l2.length l3 A0 A2 A3 E (some ⟨G, 0, none⟩) c0 c2 c3 dE cap es fs) ∧ Aside0 (w3.heap.size ≤ G2 ∧ Below w3.heap.size w3 wr) ∧ Aside0 (Kd.R (Kd.int .u64) 30 wr w.heap.size (fun _ => True) (.slice (some ⟨G2, 0, none⟩) l2.length cap2) xs) ∧ Aside0 (folG l0.length l2.length es fs l3 n xs = some r)) rfl ?first ?pass
  case first =>
   intro hpass
   go_hide hQ
   rw [hQ] at hpass
   replace hpass := Aside0.mk hpass
   replace hQ := Aside0.mk hQ
   go_upto_region 5 with (first | (go_at_call 29; refine hkn.out.mono ?_; rintro e w3 ⟨tb, G, cap, dE, E, rfl, y0, y2, y5, y6, hE, hR, hb3⟩; have F2 := pw_cell_below hb3 f2.out; replace hb3 := Aside0.mk hb3; replace hR := Aside0.mk hR; replace hE := Aside0.mk hE; replace y0 := Aside0.mk y0; replace y2 := Aside0.mk y2; replace y5 := Aside0.mk y5; replace y6 := Aside0.mk y6) | ((with_reducible refine gate_dst (N := 18) rfl ?_); refine Kd.R_make (w0 := w3) (Kd.int .u64) w3.heap.size 30 rfl (N := 18) rfl 36 _ _ rfl (l2.length : Int) rfl rfl Try.underlying36 (.int .u64 0) 8 info30 rfl (by decide) (by omega) 0 (ok := fun _ => True) (okp := fun _ => True) rfl (fun _ hk => hk) trivial (by omega) (by omega) (Below.refl _ _) (Nat.le_refl _) ?_; intro v1 w4 ho4 hb4 hg4 hnew4; rw [Int.toNat_natCast] at ho4; obtain ⟨G2, cap2, hv1, hGb, hGs, hGc⟩ := Kd.R_form ho4 (by rw [List.length_replicate]; exact hpos.out); rw [List.length_replicate] at hv1; subst hv1; replace ho4 := Aside0.mk ho4; replace hb4 := Aside0.mk hb4; replace hGb := Aside0.mk (And.intro hGb hGs); clear hg4 hnew4 hGs hGc))
   have F43 := pw_cell_below hb3.out f4.out
   have F4 := pw_cell_below hb4.out F43
   obtain ⟨o, ho⟩ : ∃ o, rdOf 0 (List.replicate l2.length (0 : Int)) st = o := ⟨_, rfl⟩
   have hc := Kd.R_celln 0 ho4.out st (of_eq_true hst0) (of_eq_true hst1)
   rw [ho] at hc
   obtain ⟨hc1, hc2⟩ := hc
   have hgn : Aside0 (w.heap.size < w3.heap.size) := ⟨Nat.lt_of_lt_of_le hsz.out hb3.out.size⟩
   have hgG : ¬ w.heap.size = G2 := by have := hgn.out; have := hGb.out.1; omega
   have n1 := World.new_ne w4 _ F4
   have n2 := World.new_ne w4 _ hc1
   have hlt2 : G2 < w4.heap.size := hGb.out.2
   clear F2
   go_cut [19] from 20 to 24 (fun s19 wr => s19 = .slice (some ⟨G2, 0, none⟩) l2.length cap2 ∧ Aside0 (Kd.R (Kd.int .u64) 30 wr w3.heap.size (fun _ => True) (.slice (some ⟨G2, 0, none⟩) l2.length cap2) ((List.replicate l2.length 0).set st.toNat eo)) ∧ Aside0 (Below w3.heap.size w3 wr))
   case first =>
    go_region_held3 (fun w' => w'.cell? ⟨w.heap.size, 4, none⟩ = some (.int .i64 st)) (first | (go_keep; done) | exact pw_cell_below (w := w3) (by repeat (first | exact hb4.out | apply below_alloc | apply pw_below_drewN | apply below_drew | refine Below.setCell ?_ hGb.out.1 _)) F43)
     (first | (go_at_call 24; refine (bits_Of.calls k _ _ [63] eo _ ?_ ?_ HO.out).mono ?_; (first | exact C_one _ _ | exact Kd.C_below (C_one _ _) (below_drew (Below.refl _ _))); (exact Nat.le_refl _); rintro e wx ⟨rfl, m, rfl⟩))
    all_goals go_wp2_with fail
    all_goals go_meet
    all_goals exact ⟨rfl, ⟨Kd.R_putn (by (repeat (with_reducible first | apply Kd.R_alloc | apply Kd.R_drewN | apply Kd.R_drew)); exact ho4.out) st eo⟩, ⟨by repeat (first | exact hb4.out | apply below_alloc | apply pw_below_drewN | apply below_drew | refine Below.setCell ?_ hGb.out.1 _)⟩⟩
   case rest =>
    obtain ⟨rfl, hR5, hB5⟩ := hcut
    go_upto_region 6 with fail
    go_step3
    simp only [Exit.then]
    rename_i hKK
    have hFF : Kd.C (Kd.int .u64) w3 (some ⟨G, 0, none⟩) l2.length fs := by have := (Kd.R_reads' hR.out).2.2; rwa [← (Kd.R_reads' hR.out).1] at this
    refine hKK _ _ (hpass.out k _ _ ⟨w3, tb, G, cap, dE, G2, cap2, E, (List.replicate l2.length 0).set st.toNat eo, _, _, _, _, _, _, _, _, _, _, _, _, _, _, _, _, _, _, _, _, _, _, _, _, _, _, _, _, _, _, _, _, _, _, _, _, _, _, _, _, _, _, _, _, _, _, _, _, _, _, _, _, _, _, _, _, _, _, _, _, _, _, _, _, _, _, _, _, _, _, _, _, _, _, rfl, ⟨⟨below_step HB.out hb3.out, pw_cell_below hb3.out f3.out, Kd.C_below X3.out hb3.out, y0.out, y2.out, y5.out, y6.out, hE.out, hFF⟩⟩, ⟨hGb.out.1, hB5.out⟩, ⟨Kd.R_lower hR5.out (Nat.le_of_lt hgn.out)⟩, HH⟩)
  case pass =>
   clear hkn f2 f3 f4 X3 hpos hst0 hst1 HO HH
   rintro n a wq ⟨w3, tb, G, cap, dE, G2, cap2, E, xs, u5, u6, u7, u8, u9, u10, u11, u12, u13, u14, u15, u16, u17, u18, u19, u20, u21, u22, u23, u24, u25, u26, u27, u28, u29, u30, u31, u32, u33, u34, u35, u36, u37, u38, u39, u40, u41, u42, u43, u44, u45, u46, u47, u48, u49, u50, u51, u52, u53, u54, u55, u56, u57, u58, u59, u60, u61, u62, u63, u64, u65, u66, u67, u68, u69, u70, u71, u72, u73, u74, u75, u76, u77, u78, rfl, HFo, HN, HR, HG⟩
   go_hide hQ
   replace hQ := Aside0.mk hQ
   have f3 := pw_cell_below HN.out.2 HFo.out.prods
   go_wp2
   clear f3
   go_loopw [5, 28] (fun v5 v28 wr => ∃ (kk : Nat) (ch : Bool) (ys : List Int), v5 = .bool ch ∧ v28 = .int .i64 kk ∧ kk ≤ l3.length ∧ Aside0 (Kd.R (Kd.int .u64) 30 wr w.heap.size (fun _ => True) (.slice (some ⟨G2, 0, none⟩) l2.length cap2) ys) ∧ Aside0 (Below w3.heap.size w3 wr) ∧ Aside0 (folPass l0.length l2.length es fs l3 (xs, false) = folPass l0.length l2.length es fs (l3.drop kk) (ys, ch))) (fun _ v28 _ => l3.length - (intOf v28).toNat)
   case atStart => exact ⟨0, false, xs, rfl, rfl, Nat.zero_le _, HR, ⟨HN.out.2⟩, ⟨rfl⟩⟩
   case round =>
    obtain ⟨kk, ch, ys, rfl, rfl, hk, HRR, HBB, HP⟩ := hrel
    have hmx : l3.length ≤ 9223372036854775807 := HFo.out.reads.2.1
    by_cases hlt : kk < l3.length
    ·have hltb : decide (kk < l3.length) = true := decide_eq_true (by omega)
     obtain ⟨ad, A4, c4, e4, hx1, hx2, hx3, hx4, hcap, hr4⟩ := at_T45 HFo.out.reads (kk : Int) (by omega) (by omega)
     rw [Int.toNat_natCast] at hx1 hx2 hx3 hx4
     replace hx1 := pw_cell_below HBB.out hx1
     replace hx2 := pw_cell_below HBB.out hx2
     replace hx3 := pw_cell_below HBB.out hx3
     replace hx4 := pw_cell_below HBB.out hx4
     obtain ⟨p, hp⟩ : ∃ p, rd_T45 l3 kk = p := ⟨_, rfl⟩
     rw [hp] at hx1 hx2 hx3 hx4 hr4 hcap
     have hpk : l3[kk] = p := by rw [← hp]; unfold rd_T45; simp [List.getD, hlt]
     have hmem : p ∈ l3 := by rw [← hpk]; exact List.getElem_mem hlt
     have HPK := Aside0.mk hpk
     have hsp := Aside0.mk (hvh.out.2.2 p hmem)
     have HR4 := Aside0.mk hr4
     have HC4 := Aside0.mk hcap
     have hstep : Aside0 (folPass l0.length l2.length es fs l3 (xs, false) = folPass l0.length l2.length es fs (l3.drop (kk + 1)) (folSym l0.length l2.length es fs p.f1 p.f2 (ys, ch))) := ⟨by rw [HP.out, folPass_drop _ _ _ _ _ kk hlt, HPK.out]⟩
     clear hp hpk hr4 hcap hmem
     obtain ⟨nl, hnl⟩ : ∃ nl, p.f2.length = nl := ⟨_, rfl⟩
     obtain ⟨lab, hlab⟩ : ∃ lab, p.f0 = lab := ⟨_, rfl⟩
     obtain ⟨srt, hsrt⟩ : ∃ srt, p.f1 = srt := ⟨_, rfl⟩
     obtain ⟨cls, hcls⟩ : ∃ cls, p.f3 = cls := ⟨_, rfl⟩
     rw [hlab] at hx1
     rw [hsrt] at hx2 hstep hsp
     rw [hnl] at hx3
     rw [hcls] at hx4
     have HNL := Aside0.mk hnl
     clear hlab hnl hcls hsrt
     go_upto_region 10 with fail
     have HZ : Aside0 (Below wr.heap.size wr (wr.alloc (Obj.cells #[.string lab, .int .i64 srt, .slice A4 nl c4, .int .i64 cls] 45))) := ⟨below_alloc (Below.refl _ _) _⟩
     have z1 : (wr.alloc (Obj.cells #[.string lab, .int .i64 srt, .slice A4 nl c4, .int .i64 cls] 45)).cell? ⟨wr.heap.size, 1, none⟩ = some (.int .i64 srt) := by go_simp
     have z2 : (wr.alloc (Obj.cells #[.string lab, .int .i64 srt, .slice A4 nl c4, .int .i64 cls] 45)).cell? ⟨wr.heap.size, 2, none⟩ = some (.slice A4 nl c4) := by go_simp
     generalize wr.alloc (Obj.cells #[.string lab, .int .i64 srt, .slice A4 nl c4, .int .i64 cls] 45) = wz at *
     clear hx1 hx2 hx3 hx4
     have HRZ := Aside0.mk (Kd.R_below HRR.out HZ.out)
     have HBZ : Aside0 (Below w3.heap.size w3 wz) := ⟨HBB.out.trans (HZ.out.mono HBB.out.size)⟩
     have hgy : Aside0 (wr.heap.size ≠ G2) := ⟨by have := Kd.R_lt HRR.out G2 rfl; omega⟩
     have Z1 := Aside0.mk z1
     have Z2 := Aside0.mk z2
     generalize wr.heap.size = gy at z1 z2 hgy Z1 Z2 ⊢
     obtain ⟨wo, rfl⟩ : ∃ wo, wo = wr := ⟨_, rfl⟩
     go_wp2
     clear z1 z2 hltb
     go_loopw [5, 35] (fun v5 v35 wi => ∃ (j : Nat) (c' : Bool) (zs : List Int), v5 = .bool c' ∧ v35 = .int .i64 j ∧ j ≤ nl ∧ Aside0 (Kd.R (Kd.int .u64) 30 wi w.heap.size (fun _ => True) (.slice (some ⟨G2, 0, none⟩) l2.length cap2) zs) ∧ Aside0 (wz.grownBy wi (some G2)) ∧ Aside0 (folSym l0.length l2.length es fs srt p.f2 (ys, ch) = folSym l0.length l2.length es fs srt (p.f2.drop j) (zs, c'))) (fun _ v35 _ => nl - (intOf v35).toNat)
     case atStart => exact ⟨0, ch, ys, rfl, rfl, Nat.zero_le _, HRZ, ⟨World.grownBy.refl _ _⟩, ⟨rfl⟩⟩
     case round =>
      obtain ⟨j, c', zs, rfl, rfl, hj, HRI, HGI, HPI⟩ := hrel
      have hmj : nl ≤ 9223372036854775807 := by have := HR4.out.2.1; rw [HNL.out] at this; exact this
      have HBI : Aside0 (Below w3.heap.size w3 wr) := ⟨below_grown HBZ.out HGI.out HN.out.1⟩
      by_cases hjl : j < nl
      ·have hjb : decide (j < nl) = true := decide_eq_true (by omega)
       obtain ⟨ad5, e5, hxs⟩ := Kd.at_int (Kd.C_below HR4.out HBI.out) (j : Int) (by omega) (by have := HNL.out; omega)
       rw [Int.toNat_natCast] at hxs
       have hjl2 : j < p.f2.length := by rw [HNL.out]; exact hjl
       have hrk : rd p.f2 (j : Int) = p.f2[j] := by unfold rd; simp [List.getD, hjl2]
       obtain ⟨s, hs⟩ : ∃ s, p.f2[j] = s := ⟨_, rfl⟩
       have hin := hsp.out.2 p.f2[j] (List.getElem_mem hjl2)
       have hst := HPI.out
       rw [folSym_drop _ _ _ _ _ _ j hjl2, hs] at hst
       rw [hrk, hs] at hxs
       rw [hs] at hin
       replace hst := Aside0.mk hst
       clear hrk hs
       subst e5
       by_cases hs0 : 0 ≤ s
       ·have hs0b : decide (0 ≤ s) = true := decide_eq_true hs0
        have hst2 : Aside0 (folSym l0.length l2.length es fs srt p.f2 (ys, ch) = folSym l0.length l2.length es fs srt (p.f2.drop (j + 1)) (zs, c')) := ⟨by have := hst.out; rwa [if_pos hs0] at this⟩
        clear hst
        go_wp2
        exact ⟨⟨j + 1, c', zs, rfl, rfl, by omega, HRI, HGI, hst2⟩, by simp [intOf]; omega⟩
       ·have hs0b : decide (0 ≤ s) = false := decide_eq_false hs0
        obtain ⟨jx, hjx⟩ : ∃ jx, IntKind.i64.wrap (-1 - s) = jx := ⟨_, rfl⟩
        obtain ⟨hj0, hj1⟩ := hin (by omega)
        obtain ⟨m, hm⟩ : ∃ m, folMore l0.length l2.length es fs srt s (p.f2.drop (j + 1)) zs = m := ⟨_, rfl⟩
        obtain ⟨o, ho⟩ : ∃ o, rdOf 0 zs jx = o := ⟨_, rfl⟩
        obtain ⟨o2, ho2⟩ : ∃ o2, rdOf 0 zs srt = o2 := ⟨_, rfl⟩
        have hst2 : Aside0 (folSym l0.length l2.length es fs srt p.f2 (ys, ch) = folSym l0.length l2.length es fs srt (p.f2.drop (j + 1)) (zs.set jx.toNat m, c' || decide (m ≠ o))) := ⟨by have := hst.out; rw [if_neg hs0, hm, hjx, ho] at this; exact this⟩
        have hm2 : Aside0 (∃ q, rowF l0.length l2.length es fs o2 (p.f2.drop (j + 1)) 0 = some q ∧ m = Go.bits .or .u64 o q) := ⟨by
         obtain ⟨q, hq⟩ := rowF_total l0.length l2.length hT.out es fs o2 (p.f2.drop (j + 1)) 0
         refine ⟨q, hq, ?_⟩
         rw [← hm]; unfold folMore; rw [hjx, ho, ho2, hq]; rfl⟩
        clear hst hm
        rw [hjx] at hj0 hj1
        have q0 : (0 ≤ jx) = True := eq_true hj0
        have q1 : (jx < (l2.length : Int)) = True := eq_true hj1
        have q2 : (0 ≤ srt) = True := eq_true hsp.out.1.1
        have q3 : (srt < (l2.length : Int)) = True := eq_true hsp.out.1.2
        have hjj : IntKind.i64.wrap ((j : Int) + 1) = (j : Int) + 1 := IntWalk.i64_in _ (by omega)
        obtain ⟨q, hq1, hq2⟩ := hm2.out
        have hU := Aside0.mk (show bits_Union.f o q = some m by rw [hq2]; rfl)
        have hjl3 : j + 1 ≤ p.f2.length := hjl2
        obtain ⟨T, hTT⟩ : ∃ T, (if c4 = j + 1 then some ad5 else (some ad5).map (·.add ((j + 1) * (Kd.int .i64).sz))) = T := ⟨_, rfl⟩
        have hCd := Kd.C_drop (m := j + 1) HR4.out hjl3 HC4.out
        rw [hTT] at hCd
        have hlen : (p.f2.drop (j + 1)).length = nl - (j + 1) := by rw [List.length_drop, HNL.out]
        have h60n : l2.length ≤ 60 := by omega
        have hrow := fun (w' : World) (hb : Below wr.heap.size wr w') => row_calls tb l0.length l2.length A0 A2 E (some ⟨G, 0, none⟩) c0 c2 dE cap es fs T (c4 - (j + 1)) (p.f2.drop (j + 1)) o2 q w' (Kd.C_below hCd (below_step HBI.out hb)) h60n (pw_cell_below (below_step HBI.out hb) HFo.out.t0) (pw_cell_below (below_step HBI.out hb) HFo.out.t2) (pw_cell_below (below_step HBI.out hb) HFo.out.t5) (pw_cell_below (below_step HBI.out hb) HFo.out.t6) (Kd.C_below HFo.out.empty (below_step HBI.out hb)) (Kd.C_below HFo.out.first (below_step HBI.out hb)) hq1
        rw [hlen] at hrow
        replace hrow := Aside0.mk hrow
        obtain ⟨i41, hi41, hsz⟩ := Option.map_eq_some_iff.1 info41
        have hsl := cut_from (P := Try.prog) 28 41 .i64 Try.underlying28 hi41 (Kd.int .i64).sz (congrArg (fun z => z.2.1) hsz) (some ad5) nl c4 ((j : Int) + 1) (by omega) (by omega)
        rw [show ((j : Int) + 1).toNat = j + 1 by omega, hTT] at hsl
        have k1 := (Kd.R_celln 0 HRI.out jx hj0 hj1).1
        rw [ho] at k1
        have k2 := (Kd.R_celln 0 HRI.out srt hsp.out.1.1 hsp.out.1.2).1
        rw [ho2] at k2
        have k3 := HGI.out.cell Z1.out (by intro e; injection e with e; exact hgy.out e)
        have k4 := HGI.out.cell Z2.out (by intro e; injection e with e; exact hgy.out e)
        have K1 := Aside0.mk k1
        have K2 := Aside0.mk k2
        have K3 := Aside0.mk k3
        have K4 := Aside0.mk k4
        have HO1 := Aside0.mk ho
        clear k1 k2 k3 k4 hCd hTT hi41 hsz hq1 hq2 ho ho2 hlen hjl2 hjl3
        go_upto_region 14 with fail
        clear hxs
        have k1 := cell_below K1.out
        have k2 := cell_below K2.out
        have k3 := cell_below K3.out
        have k4 := cell_below K4.out
        refine wp_region_below (by kernel_rfl) (by kernel_rfl) ?_
        repeat (refine wpQuiet_step (fun K hK => ?_); go_simp; (first | (refine hK _ ?_; clear hK K) | (apply Exists.intro; refine ⟨fun wc hwc => ?_, hK _ ?_⟩; (first | exact rfl | (first | (go_at_call 33; exact calls_below hwc hwc.size ((hrow.out _ hwc).mono fun _ _ h => ⟨h.1, below_drawn h.2⟩)) | (go_at_call 32; exact calls_below hwc hwc.size ((bits_Union.calls _ _ _ _ hU.out).mono fun _ _ h => ⟨h.1, below_drawn h.2⟩))) | (go_simp; exact rfl)); clear hK K)))
        refine wpQuiet_nil ?_
        intro wq hwq
        clear k1 k2 k3 k4
        have HRQ := Aside0.mk (Kd.R_below HRI.out hwq)
        have HGQ := Aside0.mk (grown_below HGI.out hwq)
        obtain ⟨k5, k6⟩ := Kd.R_celln 0 HRQ.out jx hj0 hj1
        rw [HO1.out] at k5
        have hend : Aside0 (Kd.R (Kd.int .u64) 30 (wq.setCell ⟨G2, jx.toNat, none⟩ (.int .u64 m)) w.heap.size (fun _ => True) (.slice (some ⟨G2, 0, none⟩) l2.length cap2) (zs.set jx.toNat m)) := ⟨Kd.R_putn HRQ.out jx m⟩
        cases c'
        ·by_cases hom : m = o
         ·subst hom
          have hom1 : decide (m = m) = true := by simp
          go_wp2
          exact ⟨⟨_, _, _, _, _, ⟨j + 1, .inl ⟨rfl, rfl, by omega, zs.set jx.toNat m, hend, ⟨grown_put HGQ.out⟩, ⟨by rw [hst2.out]; simp⟩⟩⟩, rfl, rfl, rfl, rfl, rfl⟩, by simp [intOf]; omega⟩
         ·have hom1 : decide (m = o) = false := decide_eq_false hom
          have hom2 : (m != o) = true := by simp [hom]
          go_wp2
          exact ⟨⟨_, _, _, _, _, ⟨j + 1, .inr ⟨rfl, rfl, by omega, zs.set jx.toNat m, hend, ⟨grown_put HGQ.out⟩, ⟨by rw [hst2.out]; simp [hom]⟩⟩⟩, rfl, rfl, rfl, rfl, rfl⟩, by simp [intOf]; omega⟩
        ·go_wp2
         exact ⟨⟨_, _, _, _, _, ⟨j + 1, .inr ⟨rfl, rfl, by omega, zs.set jx.toNat m, hend, ⟨grown_put HGQ.out⟩, ⟨by rw [hst2.out]; simp⟩⟩⟩, rfl, rfl, rfl, rfl, rfl⟩, by simp [intOf]; omega⟩
      ·have hjb : decide (j < nl) = false := decide_eq_false (by omega)
       have HE : Aside0 (folSym l0.length l2.length es fs srt p.f2 (ys, ch) = (zs, c')) := ⟨by rw [HPI.out, List.drop_eq_nil_of_le (by have := HNL.out; omega)]; rfl⟩
       go_wp2
       exact ⟨⟨kk + 1, c', zs, rfl, rfl, by omega, HRI, HBI, ⟨by rw [hstep.out, HE.out]⟩⟩, by simp [intOf]; omega⟩
    ·have hltb : decide (kk < l3.length) = false := decide_eq_false (by omega)
     obtain ⟨n', rfl⟩ : ∃ n', n = n' + 1 := by
      cases n with
      | zero => have := HG.out; cases this
      | succ n' => exact ⟨n', rfl⟩
     have HF : Aside0 (folPass l0.length l2.length es fs l3 (xs, false) = (ys, ch)) := ⟨by rw [HP.out, List.drop_eq_nil_of_le (by omega)]; rfl⟩
     cases ch
     ·have HE : Aside0 (ys = r) := ⟨by have := HG.out; unfold folG at this; rw [HF.out] at this; simpa using this⟩
      go_wp2
      rw [← hQ.out]
      simp only [Exit.jump]
      go_ret
      exact ⟨_, rfl, by rw [← HE.out]; exact HRR.out, HFo.out.below.trans (HBB.out.mono HFo.out.below.size)⟩
     ·have HE : Aside0 (folG l0.length l2.length es fs l3 n' ys = some r) := ⟨by have := HG.out; unfold folG at this; rw [HF.out] at this; simpa using this⟩
      go_wp2
      go_step3
      rw [← hQ.out]
      exact ⟨rfl, n', Nat.lt_succ_self _, w3, tb, G, cap, dE, G2, cap2, E, ys, _, _, _, _, _, _, _, _, _, _, _, _, _, _, _, _, _, _, _, _, _, _, _, _, _, _, _, _, _, _, _, _, _, _, _, _, _, _, _, _, _, _, _, _, _, _, _, _, _, _, _, _, _, _, _, _, _, _, _, _, _, _, _, _, _, _, _, _, _, _, _, _, _, _, rfl, HFo, ⟨HN.out.1, HBB.out⟩, HRR, HE⟩

end Go.Proofs.Ytggfiopajogiiaa.P
end

section
namespace Go.Proofs.Ytggfiopajogiiaa.P
open Go.RowKit Go.Proofs.YtggfiopajogiiaaW.PrintWords Go.Proofs.YtggfiopajogiiaaW.PrintLast Go.Proofs.YtggfiopajogiiaaW.PrintMore
attribute [local go_sem] max2_int min2_int max_two min_two max_three min_three max_four min_four   -- for this text's walks alone
set_option linter.unusedVariables false
set_option linter.unusedSimpArgs false

/-! ### syntagmlaw13_works: function 10 -/
def syntagmlaw13_works.f (k : Nat)  : Option (Bool) := (some (([(⟨(⟨#[97]⟩ : ByteArray), (⟨#[]⟩ : ByteArray), false, 0⟩ : S51)] : List (S51)) : List (S51))).bind fun y127 => ((some (([(⟨#[83]⟩ : ByteArray)] : List ByteArray) : List ByteArray)).bind fun y130 => ((some (([(⟨(⟨#[112]⟩ : ByteArray), 0, (([0, (-1)] : List Int)), 0⟩ : S45), (⟨(⟨#[113]⟩ : ByteArray), 0, ([] : List Int), 0⟩ : S45)] : List (S45)) : List (S45))).bind fun y136 => ((sets_Empty.f k y127 ([] : List (S63)) y130 y136 0).bind fun t140 => ((sets_First.f k y127 ([] : List (S63)) y130 y136 0).bind fun t143 => ((sets_Follow.f k y127 ([] : List (S63)) y130 y136 0).bind fun t146 => ((sets_Lives.f k y127 ([] : List (S63)) y130 y136 0).bind fun t149 => (if (t140.length : Int) = 1 then (if 0 < (t140.length : Int) then (if rdOf false t140 0 = true then (if (t143.length : Int) = 1 then (if 0 < (t143.length : Int) then (if (rd t143 0) = 1 then (if (t146.length : Int) = 1 then (if 0 < (t146.length : Int) then (if (rd t146 0) = 9223372036854775808 then (if (t149.length : Int) = 1 then (if 0 < (t149.length : Int) then (if rdOf false t149 0 = true then ((sets_Of.f k y127 ([] : List (S63)) y130 y136 0 (([(-1)] : List Int)) 4).bind fun t159 => (if t159 = 5 then (some true) else (some false))) else (some false)) else (none)) else (some false)) else (some false)) else (none)) else (some false)) else (some false)) else (none)) else (some false)) else (some false)) else (none)) else (some false))))))))
theorem syntagmlaw13_works.mono : ∀ k, LeO (syntagmlaw13_works.f k ) (syntagmlaw13_works.f (k + 1) ) := by
 intro  k
 unfold syntagmlaw13_works.f
 repeat' first
   | (with_reducible exact sets_Empty.mono _ _ _ _ _ _)
   | (with_reducible exact sets_First.mono _ _ _ _ _ _)
   | (with_reducible exact sets_Follow.mono _ _ _ _ _ _)
   | (with_reducible exact sets_Lives.mono _ _ _ _ _ _)
   | (with_reducible exact sets_Of.mono _ _ _ _ _ _ _ _)
   | (with_reducible exact LeO.refl _)
   | (with_reducible exact LeO.none _)
   | (with_reducible refine LeO.ite ?_ ?_)
   | (with_reducible refine LeO.bind ?_ (fun _ => ?_))
   | exact sets_Empty.mono _ _ _ _ _ _
   | exact sets_First.mono _ _ _ _ _ _
   | exact sets_Follow.mono _ _ _ _ _ _
   | exact sets_Lives.mono _ _ _ _ _ _
   | exact sets_Of.mono _ _ _ _ _ _ _ _
   | exact LeO.none _
   | refine LeO.ite ?_ ?_
   | refine LeO.bind ?_ (fun _ => ?_)
set_option maxHeartbeats 8000000 in
set_option maxRecDepth 100000 in
theorem syntagmlaw13_works.calls (k : Nat)  (r : Bool) (w : World) (hT : r = true) (h : syntagmlaw13_works.f k  = some r) :
  Calls Try.prog 10 #[] w fun e w' => e = .returned (.bool r) ∧ Below w.heap.size w w' := by
 have hu51 := Try.underlying51
 have hu45 := Try.underlying45
 have hu27 := Try.underlying27
 have HT := Aside0.mk hT
 clear hT
 have HB := Aside0.mk (Below.refl w.heap.size w)
 have H : ((some (([(⟨(⟨#[97]⟩ : ByteArray), (⟨#[]⟩ : ByteArray), false, 0⟩ : S51)] : List (S51)) : List (S51))).bind fun y127 => ((some (([(⟨#[83]⟩ : ByteArray)] : List ByteArray) : List ByteArray)).bind fun y130 => ((some (([(⟨(⟨#[112]⟩ : ByteArray), 0, (([0, (-1)] : List Int)), 0⟩ : S45), (⟨(⟨#[113]⟩ : ByteArray), 0, ([] : List Int), 0⟩ : S45)] : List (S45)) : List (S45))).bind fun y136 => ((sets_Empty.f k y127 ([] : List (S63)) y130 y136 0).bind fun t140 => ((sets_First.f k y127 ([] : List (S63)) y130 y136 0).bind fun t143 => ((sets_Follow.f k y127 ([] : List (S63)) y130 y136 0).bind fun t146 => ((sets_Lives.f k y127 ([] : List (S63)) y130 y136 0).bind fun t149 => (if (t140.length : Int) = 1 then (if 0 < (t140.length : Int) then (if rdOf false t140 0 = true then (if (t143.length : Int) = 1 then (if 0 < (t143.length : Int) then (if (rd t143 0) = 1 then (if (t146.length : Int) = 1 then (if 0 < (t146.length : Int) then (if (rd t146 0) = 9223372036854775808 then (if (t149.length : Int) = 1 then (if 0 < (t149.length : Int) then (if rdOf false t149 0 = true then ((sets_Of.f k y127 ([] : List (S63)) y130 y136 0 (([(-1)] : List Int)) 4).bind fun t159 => (if t159 = 5 then (some true) else (some false))) else (some false)) else (none)) else (some false)) else (some false)) else (none)) else (some false)) else (some false)) else (none)) else (some false)) else (some false)) else (none)) else (some false))))))))) = some r := h
 clear h
 obtain ⟨y127, hy127⟩ : ∃ y_ : List (S51), y_ = (([(⟨(⟨#[97]⟩ : ByteArray), (⟨#[]⟩ : ByteArray), false, 0⟩ : S51)] : List (S51))) := ⟨_, rfl⟩
 replace H : ((some (([(⟨#[83]⟩ : ByteArray)] : List ByteArray) : List ByteArray)).bind fun y130 => ((some (([(⟨(⟨#[112]⟩ : ByteArray), 0, (([0, (-1)] : List Int)), 0⟩ : S45), (⟨(⟨#[113]⟩ : ByteArray), 0, ([] : List Int), 0⟩ : S45)] : List (S45)) : List (S45))).bind fun y136 => ((sets_Empty.f k y127 ([] : List (S63)) y130 y136 0).bind fun t140 => ((sets_First.f k y127 ([] : List (S63)) y130 y136 0).bind fun t143 => ((sets_Follow.f k y127 ([] : List (S63)) y130 y136 0).bind fun t146 => ((sets_Lives.f k y127 ([] : List (S63)) y130 y136 0).bind fun t149 => (if (t140.length : Int) = 1 then (if 0 < (t140.length : Int) then (if rdOf false t140 0 = true then (if (t143.length : Int) = 1 then (if 0 < (t143.length : Int) then (if (rd t143 0) = 1 then (if (t146.length : Int) = 1 then (if 0 < (t146.length : Int) then (if (rd t146 0) = 9223372036854775808 then (if (t149.length : Int) = 1 then (if 0 < (t149.length : Int) then (if rdOf false t149 0 = true then ((sets_Of.f k y127 ([] : List (S63)) y130 y136 0 (([(-1)] : List Int)) 4).bind fun t159 => (if t159 = 5 then (some true) else (some false))) else (some false)) else (none)) else (some false)) else (some false)) else (none)) else (some false)) else (some false)) else (none)) else (some false)) else (some false)) else (none)) else (some false)))))))) = some r := by first | (rw [hy127]; with_reducible exact H) | (have H2_ := (Option.bind_some _ _).symm.trans H; rw [hy127]; with_reducible exact H2_) | (have H2_ := (Option.bind_some _ _).symm.trans H; with_reducible exact H2_) | with_reducible exact H | (rw [hy127]; exact H) | exact H
 have Ny127 := Aside0.mk hy127
 clear hy127
 obtain ⟨y130, hy130⟩ : ∃ y_ : List ByteArray, y_ = (([(⟨#[83]⟩ : ByteArray)] : List ByteArray)) := ⟨_, rfl⟩
 replace H : ((some (([(⟨(⟨#[112]⟩ : ByteArray), 0, (([0, (-1)] : List Int)), 0⟩ : S45), (⟨(⟨#[113]⟩ : ByteArray), 0, ([] : List Int), 0⟩ : S45)] : List (S45)) : List (S45))).bind fun y136 => ((sets_Empty.f k y127 ([] : List (S63)) y130 y136 0).bind fun t140 => ((sets_First.f k y127 ([] : List (S63)) y130 y136 0).bind fun t143 => ((sets_Follow.f k y127 ([] : List (S63)) y130 y136 0).bind fun t146 => ((sets_Lives.f k y127 ([] : List (S63)) y130 y136 0).bind fun t149 => (if (t140.length : Int) = 1 then (if 0 < (t140.length : Int) then (if rdOf false t140 0 = true then (if (t143.length : Int) = 1 then (if 0 < (t143.length : Int) then (if (rd t143 0) = 1 then (if (t146.length : Int) = 1 then (if 0 < (t146.length : Int) then (if (rd t146 0) = 9223372036854775808 then (if (t149.length : Int) = 1 then (if 0 < (t149.length : Int) then (if rdOf false t149 0 = true then ((sets_Of.f k y127 ([] : List (S63)) y130 y136 0 (([(-1)] : List Int)) 4).bind fun t159 => (if t159 = 5 then (some true) else (some false))) else (some false)) else (none)) else (some false)) else (some false)) else (none)) else (some false)) else (some false)) else (none)) else (some false)) else (some false)) else (none)) else (some false))))))) = some r := by first | (rw [hy130]; with_reducible exact H) | (have H2_ := (Option.bind_some _ _).symm.trans H; rw [hy130]; with_reducible exact H2_) | (have H2_ := (Option.bind_some _ _).symm.trans H; with_reducible exact H2_) | with_reducible exact H | (rw [hy130]; exact H) | exact H
 have Ny130 := Aside0.mk hy130
 clear hy130
 obtain ⟨y133, hy133⟩ : ∃ y_ : List Int, y_ = (([0, (-1)] : List Int)) := ⟨_, rfl⟩
 replace H : ((some (([(⟨(⟨#[112]⟩ : ByteArray), 0, y133, 0⟩ : S45), (⟨(⟨#[113]⟩ : ByteArray), 0, ([] : List Int), 0⟩ : S45)] : List (S45)) : List (S45))).bind fun y136 => ((sets_Empty.f k y127 ([] : List (S63)) y130 y136 0).bind fun t140 => ((sets_First.f k y127 ([] : List (S63)) y130 y136 0).bind fun t143 => ((sets_Follow.f k y127 ([] : List (S63)) y130 y136 0).bind fun t146 => ((sets_Lives.f k y127 ([] : List (S63)) y130 y136 0).bind fun t149 => (if (t140.length : Int) = 1 then (if 0 < (t140.length : Int) then (if rdOf false t140 0 = true then (if (t143.length : Int) = 1 then (if 0 < (t143.length : Int) then (if (rd t143 0) = 1 then (if (t146.length : Int) = 1 then (if 0 < (t146.length : Int) then (if (rd t146 0) = 9223372036854775808 then (if (t149.length : Int) = 1 then (if 0 < (t149.length : Int) then (if rdOf false t149 0 = true then ((sets_Of.f k y127 ([] : List (S63)) y130 y136 0 (([(-1)] : List Int)) 4).bind fun t159 => (if t159 = 5 then (some true) else (some false))) else (some false)) else (none)) else (some false)) else (some false)) else (none)) else (some false)) else (some false)) else (none)) else (some false)) else (some false)) else (none)) else (some false))))))) = some r := by first | (rw [hy133]; with_reducible exact H) | (have H2_ := (Option.bind_some _ _).symm.trans H; rw [hy133]; with_reducible exact H2_) | (have H2_ := (Option.bind_some _ _).symm.trans H; with_reducible exact H2_) | with_reducible exact H | (rw [hy133]; exact H) | exact H
 have Ny133 := Aside0.mk hy133
 clear hy133
 obtain ⟨y136, hy136⟩ : ∃ y_ : List (S45), y_ = (([(⟨(⟨#[112]⟩ : ByteArray), 0, y133, 0⟩ : S45), (⟨(⟨#[113]⟩ : ByteArray), 0, ([] : List Int), 0⟩ : S45)] : List (S45))) := ⟨_, rfl⟩
 replace H : ((sets_Empty.f k y127 ([] : List (S63)) y130 y136 0).bind fun t140 => ((sets_First.f k y127 ([] : List (S63)) y130 y136 0).bind fun t143 => ((sets_Follow.f k y127 ([] : List (S63)) y130 y136 0).bind fun t146 => ((sets_Lives.f k y127 ([] : List (S63)) y130 y136 0).bind fun t149 => (if (t140.length : Int) = 1 then (if 0 < (t140.length : Int) then (if rdOf false t140 0 = true then (if (t143.length : Int) = 1 then (if 0 < (t143.length : Int) then (if (rd t143 0) = 1 then (if (t146.length : Int) = 1 then (if 0 < (t146.length : Int) then (if (rd t146 0) = 9223372036854775808 then (if (t149.length : Int) = 1 then (if 0 < (t149.length : Int) then (if rdOf false t149 0 = true then ((sets_Of.f k y127 ([] : List (S63)) y130 y136 0 (([(-1)] : List Int)) 4).bind fun t159 => (if t159 = 5 then (some true) else (some false))) else (some false)) else (none)) else (some false)) else (some false)) else (none)) else (some false)) else (some false)) else (none)) else (some false)) else (some false)) else (none)) else (some false)))))) = some r := by first | (rw [hy136]; with_reducible exact H) | (have H2_ := (Option.bind_some _ _).symm.trans H; rw [hy136]; with_reducible exact H2_) | (have H2_ := (Option.bind_some _ _).symm.trans H; with_reducible exact H2_) | with_reducible exact H | (rw [hy136]; exact H) | exact H
 have Ny136 := Aside0.mk hy136
 clear hy136
 replace H := Option.bind_eq_some_iff.mp H
 obtain ⟨t140, A10, H⟩ := H
 replace H : ((sets_First.f k y127 ([] : List (S63)) y130 y136 0).bind fun t143 => ((sets_Follow.f k y127 ([] : List (S63)) y130 y136 0).bind fun t146 => ((sets_Lives.f k y127 ([] : List (S63)) y130 y136 0).bind fun t149 => (if (t140.length : Int) = 1 then (if 0 < (t140.length : Int) then (if rdOf false t140 0 = true then (if (t143.length : Int) = 1 then (if 0 < (t143.length : Int) then (if (rd t143 0) = 1 then (if (t146.length : Int) = 1 then (if 0 < (t146.length : Int) then (if (rd t146 0) = 9223372036854775808 then (if (t149.length : Int) = 1 then (if 0 < (t149.length : Int) then (if rdOf false t149 0 = true then ((sets_Of.f k y127 ([] : List (S63)) y130 y136 0 (([(-1)] : List Int)) 4).bind fun t159 => (if t159 = 5 then (some true) else (some false))) else (some false)) else (none)) else (some false)) else (some false)) else (none)) else (some false)) else (some false)) else (none)) else (some false)) else (some false)) else (none)) else (some false))))) = some r := H
 have A1 := Aside0.mk A10
 clear A10
 replace H := Option.bind_eq_some_iff.mp H
 obtain ⟨t143, A20, H⟩ := H
 replace H : ((sets_Follow.f k y127 ([] : List (S63)) y130 y136 0).bind fun t146 => ((sets_Lives.f k y127 ([] : List (S63)) y130 y136 0).bind fun t149 => (if (t140.length : Int) = 1 then (if 0 < (t140.length : Int) then (if rdOf false t140 0 = true then (if (t143.length : Int) = 1 then (if 0 < (t143.length : Int) then (if (rd t143 0) = 1 then (if (t146.length : Int) = 1 then (if 0 < (t146.length : Int) then (if (rd t146 0) = 9223372036854775808 then (if (t149.length : Int) = 1 then (if 0 < (t149.length : Int) then (if rdOf false t149 0 = true then ((sets_Of.f k y127 ([] : List (S63)) y130 y136 0 (([(-1)] : List Int)) 4).bind fun t159 => (if t159 = 5 then (some true) else (some false))) else (some false)) else (none)) else (some false)) else (some false)) else (none)) else (some false)) else (some false)) else (none)) else (some false)) else (some false)) else (none)) else (some false)))) = some r := H
 have A2 := Aside0.mk A20
 clear A20
 replace H := Option.bind_eq_some_iff.mp H
 obtain ⟨t146, A30, H⟩ := H
 replace H : ((sets_Lives.f k y127 ([] : List (S63)) y130 y136 0).bind fun t149 => (if (t140.length : Int) = 1 then (if 0 < (t140.length : Int) then (if rdOf false t140 0 = true then (if (t143.length : Int) = 1 then (if 0 < (t143.length : Int) then (if (rd t143 0) = 1 then (if (t146.length : Int) = 1 then (if 0 < (t146.length : Int) then (if (rd t146 0) = 9223372036854775808 then (if (t149.length : Int) = 1 then (if 0 < (t149.length : Int) then (if rdOf false t149 0 = true then ((sets_Of.f k y127 ([] : List (S63)) y130 y136 0 (([(-1)] : List Int)) 4).bind fun t159 => (if t159 = 5 then (some true) else (some false))) else (some false)) else (none)) else (some false)) else (some false)) else (none)) else (some false)) else (some false)) else (none)) else (some false)) else (some false)) else (none)) else (some false))) = some r := H
 have A3 := Aside0.mk A30
 clear A30
 replace H := Option.bind_eq_some_iff.mp H
 obtain ⟨t149, A40, H⟩ := H
 replace H : (if (t140.length : Int) = 1 then (if 0 < (t140.length : Int) then (if rdOf false t140 0 = true then (if (t143.length : Int) = 1 then (if 0 < (t143.length : Int) then (if (rd t143 0) = 1 then (if (t146.length : Int) = 1 then (if 0 < (t146.length : Int) then (if (rd t146 0) = 9223372036854775808 then (if (t149.length : Int) = 1 then (if 0 < (t149.length : Int) then (if rdOf false t149 0 = true then ((sets_Of.f k y127 ([] : List (S63)) y130 y136 0 (([(-1)] : List Int)) 4).bind fun t159 => (if t159 = 5 then (some true) else (some false))) else (some false)) else (none)) else (some false)) else (some false)) else (none)) else (some false)) else (some false)) else (none)) else (some false)) else (some false)) else (none)) else (some false)) = some r := H
 have A4 := Aside0.mk A40
 clear A40
 by_cases c5 : (t140.length : Int) = 1
 ·rw [if_pos c5] at H
  have c5b0 : ((t140.length : Int) == 1) = true := beq_iff_eq.mpr c5
  have c5b1 : ((t140.length : Int) != 1) = false := bne_eq_false_iff_eq.mpr c5
  clear c5
  by_cases c6 : 0 < (t140.length : Int)
  ·rw [if_pos c6] at H
   have c6b0 : decide (0 < (t140.length : Int)) = true := decide_eq_true c6
   have c6b1 : decide (0 < t140.length) = true := decide_eq_true (by omega)
   clear c6
   obtain ⟨bq7, hbq7⟩ : ∃ b_ : Bool, b_ = (rdOf false t140 0) := ⟨_, rfl⟩
   replace H : (if bq7 = true then (if (t143.length : Int) = 1 then (if 0 < (t143.length : Int) then (if (rd t143 0) = 1 then (if (t146.length : Int) = 1 then (if 0 < (t146.length : Int) then (if (rd t146 0) = 9223372036854775808 then (if (t149.length : Int) = 1 then (if 0 < (t149.length : Int) then (if rdOf false t149 0 = true then ((sets_Of.f k y127 ([] : List (S63)) y130 y136 0 (([(-1)] : List Int)) 4).bind fun t159 => (if t159 = 5 then (some true) else (some false))) else (some false)) else (none)) else (some false)) else (some false)) else (none)) else (some false)) else (some false)) else (none)) else (some false)) else (some false)) = some r := by rw [← hbq7] at H; exact H
   have Nbq7 := Aside0.mk hbq7
   clear hbq7
   by_cases c8 : bq7 = true
   ·subst c8
    have H1 : (if (t143.length : Int) = 1 then (if 0 < (t143.length : Int) then (if (rd t143 0) = 1 then (if (t146.length : Int) = 1 then (if 0 < (t146.length : Int) then (if (rd t146 0) = 9223372036854775808 then (if (t149.length : Int) = 1 then (if 0 < (t149.length : Int) then (if rdOf false t149 0 = true then ((sets_Of.f k y127 ([] : List (S63)) y130 y136 0 (([(-1)] : List Int)) 4).bind fun t159 => (if t159 = 5 then (some true) else (some false))) else (some false)) else (none)) else (some false)) else (some false)) else (none)) else (some false)) else (some false)) else (none)) else (some false)) = some r := by rw [if_pos rfl] at H; exact H
    clear H
    have H := H1
    clear H1
    by_cases c9 : (t143.length : Int) = 1
    ·rw [if_pos c9] at H
     have c9b0 : ((t143.length : Int) == 1) = true := beq_iff_eq.mpr c9
     have c9b1 : ((t143.length : Int) != 1) = false := bne_eq_false_iff_eq.mpr c9
     clear c9
     by_cases c10 : 0 < (t143.length : Int)
     ·rw [if_pos c10] at H
      have c10b0 : decide (0 < (t143.length : Int)) = true := decide_eq_true c10
      have c10b1 : decide (0 < t143.length) = true := decide_eq_true (by omega)
      clear c10
      by_cases c11 : (rd t143 0) = 1
      ·rw [if_pos c11] at H
       have c11b0 : ((rd t143 0) == 1) = true := beq_iff_eq.mpr c11
       have c11b1 : ((rd t143 0) != 1) = false := bne_eq_false_iff_eq.mpr c11
       clear c11
       by_cases c12 : (t146.length : Int) = 1
       ·rw [if_pos c12] at H
        have c12b0 : ((t146.length : Int) == 1) = true := beq_iff_eq.mpr c12
        have c12b1 : ((t146.length : Int) != 1) = false := bne_eq_false_iff_eq.mpr c12
        clear c12
        by_cases c13 : 0 < (t146.length : Int)
        ·rw [if_pos c13] at H
         have c13b0 : decide (0 < (t146.length : Int)) = true := decide_eq_true c13
         have c13b1 : decide (0 < t146.length) = true := decide_eq_true (by omega)
         clear c13
         by_cases c14 : (rd t146 0) = 9223372036854775808
         ·rw [if_pos c14] at H
          have c14b0 : ((rd t146 0) == 9223372036854775808) = true := beq_iff_eq.mpr c14
          have c14b1 : ((rd t146 0) != 9223372036854775808) = false := bne_eq_false_iff_eq.mpr c14
          clear c14
          by_cases c15 : (t149.length : Int) = 1
          ·rw [if_pos c15] at H
           have c15b0 : ((t149.length : Int) == 1) = true := beq_iff_eq.mpr c15
           have c15b1 : ((t149.length : Int) != 1) = false := bne_eq_false_iff_eq.mpr c15
           clear c15
           by_cases c16 : 0 < (t149.length : Int)
           ·rw [if_pos c16] at H
            have c16b0 : decide (0 < (t149.length : Int)) = true := decide_eq_true c16
            have c16b1 : decide (0 < t149.length) = true := decide_eq_true (by omega)
            clear c16
            obtain ⟨bq17, hbq17⟩ : ∃ b_ : Bool, b_ = (rdOf false t149 0) := ⟨_, rfl⟩
            replace H : (if bq17 = true then ((sets_Of.f k y127 ([] : List (S63)) y130 y136 0 (([(-1)] : List Int)) 4).bind fun t159 => (if t159 = 5 then (some true) else (some false))) else (some false)) = some r := by rw [← hbq17] at H; exact H
            have Nbq17 := Aside0.mk hbq17
            clear hbq17
            by_cases c18 : bq17 = true
            ·subst c18
             have H1 : ((sets_Of.f k y127 ([] : List (S63)) y130 y136 0 (([(-1)] : List Int)) 4).bind fun t159 => (if t159 = 5 then (some true) else (some false))) = some r := by rw [if_pos rfl] at H; exact H
             clear H
             have H := H1
             clear H1
             obtain ⟨y156, hy156⟩ : ∃ y_ : List Int, y_ = (([(-1)] : List Int)) := ⟨_, rfl⟩
             replace H : ((sets_Of.f k y127 ([] : List (S63)) y130 y136 0 y156 4).bind fun t159 => (if t159 = 5 then (some true) else (some false))) = some r := by first | (rw [hy156]; with_reducible exact H) | (have H2_ := (Option.bind_some _ _).symm.trans H; rw [hy156]; with_reducible exact H2_) | (have H2_ := (Option.bind_some _ _).symm.trans H; with_reducible exact H2_) | with_reducible exact H | (rw [hy156]; exact H) | exact H
             have Ny156 := Aside0.mk hy156
             clear hy156
             replace H := Option.bind_eq_some_iff.mp H
             obtain ⟨t159, A190, H⟩ := H
             replace H : (if t159 = 5 then (some true) else (some false)) = some r := H
             have A19 := Aside0.mk A190
             clear A190
             by_cases c20 : t159 = 5
             ·rw [if_pos c20] at H
              have c20b0 : (t159 == 5) = true := beq_iff_eq.mpr c20
              have c20b1 : (t159 != 5) = false := bne_eq_false_iff_eq.mpr c20
              clear c20
              obtain rfl := Option.some.inj H
              go_enter Try.func10, Try.ntmps10
              go_wp2_with (first | ((with_reducible refine gate_dst (N := 7) rfl ?_); (try (refine gate_guard (by rfl) ?_; dsimp only)); refine Kd.R_lit k51 _ 51 ?hg (N := 7) ?hd (xs := ([(⟨(⟨#[97]⟩ : ByteArray), (⟨#[]⟩ : ByteArray), false, 0⟩ : S51)] : List (S51))) (inner := [.string (⟨#[97]⟩ : ByteArray), .string (⟨#[]⟩ : ByteArray), .bool false, .int .i64 0]) (ok := fun _ => True) (okp := fun _ => True) ?hr ?hp (fun _ hk => hk) trivial (Below.refl _ _) (Nat.le_refl _) (by simp) ?_; (case hd => rfl); (case hg => rfl); (case hr => first | (go_simp; done) | (go_simp; rfl)); (case hp => exact (Reps.c4 (show Kd.M k51 _ _ _ (⟨(⟨#[97]⟩ : ByteArray), (⟨#[]⟩ : ByteArray), false, 0⟩ : S51) [.string (⟨#[97]⟩ : ByteArray), .string (⟨#[]⟩ : ByteArray), .bool false, .int .i64 0] from (k51_mkM _ _ _ (⟨(⟨#[97]⟩ : ByteArray), (⟨#[]⟩ : ByteArray), false, 0⟩ : S51) )) (Reps.none _ _))); intro v128 w21 ho22 hb hg_ hnew_; clear hg_ hnew_; (first | rw [← Ny127.out] at ho22 | (simp only [Int.reduceToNat] at ho22; rw [← Ny127.out] at ho22)); have n0_ := Aside0.mk (Kd.R_lower ho22 (below_size (by repeat (first | (with_reducible first | exact HB.out | apply below_alloc | apply pw_below_drewN | apply below_drew1) | exact HB.out)))); have n1_ := Aside0.mk (below_step (by repeat (first | (with_reducible first | exact HB.out | apply below_alloc | apply pw_below_drewN | apply below_drew1) | exact HB.out)) hb); clear HB; have HO129 := n0_; have HB := n1_; clear n0_ n1_; clear hb ho22) | ((with_reducible refine gate_dst (N := 8) rfl ?_); (try (refine gate_guard (by rfl) ?_; dsimp only)); refine Kd.R_lit Kd.string _ 9 ?hg (N := 8) ?hd (xs := ([(⟨#[83]⟩ : ByteArray)] : List ByteArray)) (inner := [.string (⟨#[83]⟩ : ByteArray)]) (ok := fun _ => True) (okp := fun _ => True) ?hr ?hp (fun _ hk => hk) trivial (Below.refl _ _) (Nat.le_refl _) (by simp) ?_; (case hd => rfl); (case hg => rfl); (case hr => first | (go_simp; done) | (go_simp; rfl)); (case hp => exact (Reps.one (show Kd.M Kd.string _ _ _ (⟨#[83]⟩ : ByteArray) [.string (⟨#[83]⟩ : ByteArray)] from rfl) (Reps.none _ _))); intro v131 w23 ho24 hb hg_ hnew_; clear hg_ hnew_; (first | rw [← Ny130.out] at ho24 | (simp only [Int.reduceToNat] at ho24; rw [← Ny130.out] at ho24)); have n0_ := Aside0.mk (Kd.R_below (by (with_reducible repeat (first | apply Kd.R_alloc | apply Kd.R_drewN | apply Kd.R_drew)); exact HO129.out) hb); have n1_ := Aside0.mk (Kd.R_lower ho24 (below_size (by repeat (first | (with_reducible first | exact HB.out | apply below_alloc | apply pw_below_drewN | apply below_drew1) | exact HB.out)))); have n2_ := Aside0.mk (below_step (by repeat (first | (with_reducible first | exact HB.out | apply below_alloc | apply pw_below_drewN | apply below_drew1) | exact HB.out)) hb); clear HO129; clear HB; have HO129 := n0_; have HO132 := n1_; have HB := n2_; clear n0_ n1_ n2_; clear hb ho24) | ((with_reducible refine gate_dst (N := 9) rfl ?_); (try (refine gate_guard (by rfl) ?_; dsimp only)); refine Kd.R_lit (Kd.int .i64) _ 41 ?hg (N := 9) ?hd (xs := ([0, (-1)] : List Int)) (inner := [.int .i64 0, .int .i64 (-1)]) (ok := fun _ => True) (okp := fun _ => True) ?hr ?hp (fun _ hk => hk) trivial (Below.refl _ _) (Nat.le_refl _) (by simp) ?_; (case hd => rfl); (case hg => rfl); (case hr => first | (go_simp; done) | (go_simp; rfl)); (case hp => exact (Reps.one (show Kd.M (Kd.int .i64) _ _ _ 0 [.int .i64 0] from rfl) (Reps.one (show Kd.M (Kd.int .i64) _ _ _ (-1) [.int .i64 (-1)] from rfl) (Reps.none _ _)))); intro v134 w25 ho26 hb hg_ hnew_; clear hg_ hnew_; (first | rw [← Ny133.out] at ho26 | (simp only [Int.reduceToNat] at ho26; rw [← Ny133.out] at ho26)); have n0_ := Aside0.mk (Kd.R_below (by (with_reducible repeat (first | apply Kd.R_alloc | apply Kd.R_drewN | apply Kd.R_drew)); exact HO129.out) hb); have n1_ := Aside0.mk (Kd.R_below (by (with_reducible repeat (first | apply Kd.R_alloc | apply Kd.R_drewN | apply Kd.R_drew)); exact HO132.out) hb); have n2_ := Aside0.mk (Kd.R_lower ho26 (below_size (by repeat (first | (with_reducible first | exact HB.out | apply below_alloc | apply pw_below_drewN | apply below_drew1) | exact HB.out)))); have n3_ := Aside0.mk (below_step (by repeat (first | (with_reducible first | exact HB.out | apply below_alloc | apply pw_below_drewN | apply below_drew1) | exact HB.out)) hb); clear HO129; clear HO132; clear HB; have HO129 := n0_; have HO132 := n1_; have HO135 := n2_; have HB := n3_; clear n0_ n1_ n2_ n3_; clear hb ho26; obtain ⟨Ao27, co27, eo27⟩ := Kd.R_slice HO135.out; subst eo27) | ((with_reducible refine gate_dst (N := 12) rfl ?_); (try (refine gate_guard (by rfl) ?_; dsimp only)); refine Kd.N_lit k45 _ 45 ?hg (N' := 12) ?hd (xs := ([(⟨(⟨#[112]⟩ : ByteArray), 0, y133, 0⟩ : S45), (⟨(⟨#[113]⟩ : ByteArray), 0, ([] : List Int), 0⟩ : S45)] : List (S45))) (inner := [.string (⟨#[112]⟩ : ByteArray), .int .i64 0, .slice Ao27 y133.length co27, .int .i64 0, .string (⟨#[113]⟩ : ByteArray), .int .i64 0, .slice none 0 0, .int .i64 0]) (ok := (fun k_ => some k_ ≠ (v128 : Value).ownBlock ∧ some k_ ≠ (v131 : Value).ownBlock)) (okp := (fun k_ => some k_ ≠ (v128 : Value).ownBlock ∧ some k_ ≠ (v131 : Value).ownBlock)) ?hr ?hp (fun _ hk => hk) ((show ∀ k_, w25.heap.size ≤ k_ → (fun k_ => some k_ ≠ (v128 : Value).ownBlock ∧ some k_ ≠ (v131 : Value).ownBlock) k_ from fun k_ hk => ⟨Kd.fresh' (Kd.R_lt (by (with_reducible repeat (first | apply Kd.R_alloc | apply Kd.R_drewN | apply Kd.R_drew)); exact HO129.out)) k_ hk, Kd.fresh' (Kd.R_lt (by (with_reducible repeat (first | apply Kd.R_alloc | apply Kd.R_drewN | apply Kd.R_drew)); exact HO132.out)) k_ hk⟩) _ (Nat.le_refl _)) (Below.refl _ _) (Nat.le_refl _) (by simp) ?_; (case hd => rfl); (case hg => rfl); (case hr => first | (go_simp; done) | (go_simp; rfl)); (case hp => exact (Reps.c4 (show Kd.FK k45 _ _ (⟨(⟨#[112]⟩ : ByteArray), 0, y133, 0⟩ : S45) [.string (⟨#[112]⟩ : ByteArray), .int .i64 0, .slice Ao27 y133.length co27, .int .i64 0] from (k45_mkF _ _ (⟨(⟨#[112]⟩ : ByteArray), 0, y133, 0⟩ : S45) (Kd.R_reads' (Kd.R_mono (ok' := (fun k_ => some k_ ≠ (v128 : Value).ownBlock ∧ some k_ ≠ (v131 : Value).ownBlock)) (Kd.R_apart' (Kd.R_apart' (HO135.out) (Kd.R_typed HO129.out) (by decide)) (Kd.R_typed HO132.out) (by decide)) (fun k_ hk => ⟨hk.1.2, hk.2⟩))).2.1 (Kd.R_F (Kd.R_mono (ok' := (fun k_ => some k_ ≠ (v128 : Value).ownBlock ∧ some k_ ≠ (v131 : Value).ownBlock)) (Kd.R_apart' (Kd.R_apart' (HO135.out) (Kd.R_typed HO129.out) (by decide)) (Kd.R_typed HO132.out) (by decide)) (fun k_ hk => ⟨hk.1.2, hk.2⟩))))) (Reps.c4 (show Kd.FK k45 _ _ (⟨(⟨#[113]⟩ : ByteArray), 0, ([] : List Int), 0⟩ : S45) [.string (⟨#[113]⟩ : ByteArray), .int .i64 0, .slice none 0 0, .int .i64 0] from (k45_mkF _ _ (⟨(⟨#[113]⟩ : ByteArray), 0, ([] : List Int), 0⟩ : S45) (Nat.le_refl _) (Kd.F_nil _ _ _))) (Reps.none _ _)))); intro v137 w28 ho29 hb hg_ hnew_; clear hg_ hnew_; (first | rw [← Ny136.out] at ho29 | (simp only [Int.reduceToNat] at ho29; rw [← Ny136.out] at ho29)); have n0_ := Aside0.mk (Kd.R_below (by (with_reducible repeat (first | apply Kd.R_alloc | apply Kd.R_drewN | apply Kd.R_drew)); exact HO129.out) hb); have n1_ := Aside0.mk (Kd.R_below (by (with_reducible repeat (first | apply Kd.R_alloc | apply Kd.R_drewN | apply Kd.R_drew)); exact HO132.out) hb); have n2_ := Aside0.mk (Kd.N_lower ho29 (below_size (by repeat (first | (with_reducible first | exact HB.out | apply below_alloc | apply pw_below_drewN | apply below_drew1) | exact HB.out)))); have n3_ := Aside0.mk (below_step (by repeat (first | (with_reducible first | exact HB.out | apply below_alloc | apply pw_below_drewN | apply below_drew1) | exact HB.out)) hb); clear HO129; clear HO132; clear HB; clear HO135; have HO129 := n0_; have HO132 := n1_; have HO138 := n2_; have HB := n3_; clear n0_ n1_ n2_ n3_; clear hb ho29; obtain ⟨Ao30, co30, eo30⟩ := Kd.N_slice HO138.out; subst eo30; obtain ⟨Ao31, co31, eo31⟩ := Kd.R_slice HO132.out; subst eo31; obtain ⟨Ao32, co32, eo32⟩ := Kd.R_slice HO129.out; subst eo32) | ((with_reducible refine gate_dst (N := 1) rfl ?_); (try (refine gate_guard (by rfl) ?_; dsimp only)); refine box_event ?hg (N := 1) ?hd (cs := #[.slice none 0 0, .slice none 0 0, .slice none 0 0, .slice none 0 0, .int .i64 0]) (t := 27) ?hr ?_; (case hd => rfl); (case hg => rfl); (case hr => first | (go_simp; done) | (go_simp; rfl)); intro gb139 hg w33 hbox hb; have n0_ := Aside0.mk (Kd.R_below (by (with_reducible repeat (first | apply Kd.R_alloc | apply Kd.R_drewN | apply Kd.R_drew)); exact HO129.out) hb); have n1_ := Aside0.mk (Kd.R_below (by (with_reducible repeat (first | apply Kd.R_alloc | apply Kd.R_drewN | apply Kd.R_drew)); exact HO132.out) hb); have n2_ := Aside0.mk (Kd.N_below (Kd.N_elderB (by (with_reducible repeat (first | apply Kd.N_alloc | apply Kd.N_drewN | apply Kd.N_drew)); exact HO138.out) gb139 (Nat.le_of_eq hg.symm)) hb); have n3_ := Aside0.mk (below_step (by repeat (first | (with_reducible first | exact HB.out | apply below_alloc | apply pw_below_drewN | apply below_drew1) | exact HB.out)) hb); have n4_ := Aside0.mk (hbox); have n5_ := Aside0.mk ((by rw [hg]; exact (below_size (by repeat (first | (with_reducible first | exact HB.out | apply below_alloc | apply pw_below_drewN | apply below_drew1) | exact HB.out))) : w.heap.size ≤ gb139)); have n6_ := Aside0.mk ((by rw [hg]; exact (below_size (by repeat (first | (with_reducible first | exact HB.out | apply below_alloc | apply pw_below_drewN | apply below_drew1) | exact HB.out))) : w.heap.size ≤ gb139)); clear HO129; clear HO132; clear HO138; clear HB; have HO129 := n0_; have HO132 := n1_; have HO138 := n2_; have HB := n3_; have BK139 := n4_; have GW139 := n5_; have GE139 := n6_; clear n0_ n1_ n2_ n3_ n4_ n5_ n6_; clear hb hbox hg; have hcz34_0 : w33.cell? ⟨gb139, 0, none⟩ = some (.slice none 0 0) := (blk_cell BK139.out 0).trans rfl; have hcz34_1 : w33.cell? ⟨gb139, 1, none⟩ = some (.slice none 0 0) := (blk_cell BK139.out 1).trans rfl; have hcz34_2 : w33.cell? ⟨gb139, 2, none⟩ = some (.slice none 0 0) := (blk_cell BK139.out 2).trans rfl; have hcz34_3 : w33.cell? ⟨gb139, 3, none⟩ = some (.slice none 0 0) := (blk_cell BK139.out 3).trans rfl; have hcz34_4 : w33.cell? ⟨gb139, 4, none⟩ = some (.int .i64 0) := (blk_cell BK139.out 4).trans rfl; have hfz34_0 := blk_frozen BK139.out 0; have hfz34_1 := blk_frozen BK139.out 1; have hfz34_2 := blk_frozen BK139.out 2; have hfz34_3 := blk_frozen BK139.out 3; have hfz34_4 := blk_frozen BK139.out 4) | ((with_reducible refine gate_callee (f := 12) rfl ?_); refine goesL_ (some 15) rfl rfl Try.func12 (by kernel_rfl) rfl #[.agg #[.slice Ao32 y127.length co32, .slice none 0 0, .slice Ao31 y130.length co31, .slice Ao30 y136.length co30, .int .i64 0]] rfl (by (try simp only [List.map_toArray, List.map_cons, List.map_nil]); first | done | rfl | (simp only [List.length_drop, List.length_take]; rfl)) ?_; (refine (sets_Empty.calls k _ _ y127 _ _ ([] : List (S63)) _ _ y130 _ _ y136 0 t140 _ ?side1 ?side2 ?side3 ?side4 ?side5 ?side6 ?side7 ?side8 A1.out).mono ?_); (case side1 => refine (Kd.R_reads' (e := 51) (base := w.heap.size) (ok := fun k_ => True) (n := y127.length) (c := co32) ?_).2.2; exact (by (with_reducible repeat (first | apply Kd.R_alloc | apply Kd.R_drewN | apply Kd.R_drew)); exact (Kd.R_mono (Kd.R_far (p := ⟨gb139, 4, none⟩) (Kd.R_far (p := ⟨gb139, 3, none⟩) (Kd.R_far (p := ⟨gb139, 2, none⟩) (Kd.R_far (p := ⟨gb139, 1, none⟩) (Kd.R_far (p := ⟨gb139, 0, none⟩) (Kd.R_types HO129.out BK139.out (by decide)) (fun _ hk => hk.2) (.slice Ao32 y127.length co32)) (fun _ hk => hk.2) (.slice none 0 0)) (fun _ hk => hk.2) (.slice Ao31 y130.length co31)) (fun _ hk => hk.2) (.slice Ao30 y136.length co30)) (fun _ hk => hk.2) (.int .i64 0)) (fun _ h_ => h_.1)))); (case side2 => exact (Kd.R_reads' HO129.out).2.1); (case side3 => exact Kd.C_nil _ _); (case side4 => exact Nat.le_refl _); (case side5 => refine (Kd.R_reads' (e := 9) (base := w.heap.size) (ok := fun k_ => True) (n := y130.length) (c := co31) ?_).2.2; exact (by (with_reducible repeat (first | apply Kd.R_alloc | apply Kd.R_drewN | apply Kd.R_drew)); exact (Kd.R_mono (Kd.R_far (p := ⟨gb139, 4, none⟩) (Kd.R_far (p := ⟨gb139, 3, none⟩) (Kd.R_far (p := ⟨gb139, 2, none⟩) (Kd.R_far (p := ⟨gb139, 1, none⟩) (Kd.R_far (p := ⟨gb139, 0, none⟩) (Kd.R_types HO132.out BK139.out (by decide)) (fun _ hk => hk.2) (.slice Ao32 y127.length co32)) (fun _ hk => hk.2) (.slice none 0 0)) (fun _ hk => hk.2) (.slice Ao31 y130.length co31)) (fun _ hk => hk.2) (.slice Ao30 y136.length co30)) (fun _ hk => hk.2) (.int .i64 0)) (fun _ h_ => h_.1)))); (case side6 => exact (Kd.R_reads' HO132.out).2.1); (case side7 => refine (Kd.N_reads' (e := 45) (base := w.heap.size) (ok := fun k_ => ((some k_ ≠ (.slice Ao32 y127.length co32 : Value).ownBlock ∧ some k_ ≠ (.slice Ao31 y130.length co31 : Value).ownBlock) ∧ k_ ≠ gb139)) (n := y136.length) (c := co30) ?_).2.2; exact (by (with_reducible repeat (first | apply Kd.N_alloc | apply Kd.N_drewN | apply Kd.N_drew)); exact (Kd.N_mono (Kd.N_far (p := ⟨gb139, 4, none⟩) (Kd.N_far (p := ⟨gb139, 3, none⟩) (Kd.N_far (p := ⟨gb139, 2, none⟩) (Kd.N_far (p := ⟨gb139, 1, none⟩) (Kd.N_far (p := ⟨gb139, 0, none⟩) (Kd.N_mono HO138.out (fun k_ hk => (⟨hk, hk.2⟩ : _ ∧ k_ ≠ gb139))) (fun _ hk => hk.2) (.slice Ao32 y127.length co32)) (fun _ hk => hk.2) (.slice none 0 0)) (fun _ hk => hk.2) (.slice Ao31 y130.length co31)) (fun _ hk => hk.2) (.slice Ao30 y136.length co30)) (fun _ hk => hk.2) (.int .i64 0)) (fun _ h_ => h_.1)))); (case side8 => exact (Kd.N_reads' HO138.out).2.1); rintro e w35 ⟨v141, rfl, ho0, hb⟩; refine ⟨_, rfl, ?_⟩; have n0_ := Aside0.mk (Kd.R_below (by (with_reducible repeat (first | apply Kd.R_alloc | apply Kd.R_drewN | apply Kd.R_drew)); exact (Kd.R_mono (Kd.R_far (p := ⟨gb139, 4, none⟩) (Kd.R_far (p := ⟨gb139, 3, none⟩) (Kd.R_far (p := ⟨gb139, 2, none⟩) (Kd.R_far (p := ⟨gb139, 1, none⟩) (Kd.R_far (p := ⟨gb139, 0, none⟩) (Kd.R_types HO129.out BK139.out (by decide)) (fun _ hk => hk.2) (.slice Ao32 y127.length co32)) (fun _ hk => hk.2) (.slice none 0 0)) (fun _ hk => hk.2) (.slice Ao31 y130.length co31)) (fun _ hk => hk.2) (.slice Ao30 y136.length co30)) (fun _ hk => hk.2) (.int .i64 0)) (fun _ h_ => h_.1))) hb); have n1_ := Aside0.mk (Kd.R_below (by (with_reducible repeat (first | apply Kd.R_alloc | apply Kd.R_drewN | apply Kd.R_drew)); exact (Kd.R_mono (Kd.R_far (p := ⟨gb139, 4, none⟩) (Kd.R_far (p := ⟨gb139, 3, none⟩) (Kd.R_far (p := ⟨gb139, 2, none⟩) (Kd.R_far (p := ⟨gb139, 1, none⟩) (Kd.R_far (p := ⟨gb139, 0, none⟩) (Kd.R_types HO132.out BK139.out (by decide)) (fun _ hk => hk.2) (.slice Ao32 y127.length co32)) (fun _ hk => hk.2) (.slice none 0 0)) (fun _ hk => hk.2) (.slice Ao31 y130.length co31)) (fun _ hk => hk.2) (.slice Ao30 y136.length co30)) (fun _ hk => hk.2) (.int .i64 0)) (fun _ h_ => h_.1))) hb); have n2_ := Aside0.mk (Kd.N_elder' (by (with_reducible repeat (first | apply Kd.N_alloc | apply Kd.N_drewN | apply Kd.N_drew)); exact (Kd.N_mono (Kd.N_far (p := ⟨gb139, 4, none⟩) (Kd.N_far (p := ⟨gb139, 3, none⟩) (Kd.N_far (p := ⟨gb139, 2, none⟩) (Kd.N_far (p := ⟨gb139, 1, none⟩) (Kd.N_far (p := ⟨gb139, 0, none⟩) (Kd.N_mono HO138.out (fun k_ hk => (⟨hk, hk.2⟩ : _ ∧ k_ ≠ gb139))) (fun _ hk => hk.2) (.slice Ao32 y127.length co32)) (fun _ hk => hk.2) (.slice none 0 0)) (fun _ hk => hk.2) (.slice Ao31 y130.length co31)) (fun _ hk => hk.2) (.slice Ao30 y136.length co30)) (fun _ hk => hk.2) (.int .i64 0)) (fun _ h_ => h_.1))) (Kd.R_base ho0) hb); have n3_ := Aside0.mk (Kd.R_lower ho0 (below_size (by repeat (first | (with_reducible first | exact HB.out | apply below_alloc | apply pw_below_drewN | apply below_drew1 | refine below_set ?_ GE139.out) | exact HB.out)))); have n4_ := Aside0.mk (blk_below (g := gb139) (o := .cells #[.slice Ao32 y127.length co32, .slice none 0 0, .slice Ao31 y130.length co31, .slice Ao30 y136.length co30, .int .i64 0] 27 (0, 0)) (by (with_reducible repeat (first | refine blk_drewN ?_ _ | refine blk_drew ?_ | refine blk_alloc ?_ _)); refine blk_put (cs := #[.slice Ao32 y127.length co32, .slice none 0 0, .slice Ao31 y130.length co31, .slice Ao30 y136.length co30, .int .i64 0]) ?_ 4 _ rfl; (with_reducible repeat (first | refine blk_drewN ?_ _ | refine blk_drew ?_ | refine blk_alloc ?_ _)); refine blk_put (cs := #[.slice Ao32 y127.length co32, .slice none 0 0, .slice Ao31 y130.length co31, .slice none 0 0, .int .i64 0]) ?_ 3 _ rfl; (with_reducible repeat (first | refine blk_drewN ?_ _ | refine blk_drew ?_ | refine blk_alloc ?_ _)); refine blk_put (cs := #[.slice Ao32 y127.length co32, .slice none 0 0, .slice none 0 0, .slice none 0 0, .int .i64 0]) ?_ 2 _ rfl; (with_reducible repeat (first | refine blk_drewN ?_ _ | refine blk_drew ?_ | refine blk_alloc ?_ _)); refine blk_put (cs := #[.slice Ao32 y127.length co32, .slice none 0 0, .slice none 0 0, .slice none 0 0, .int .i64 0]) ?_ 1 _ rfl; (with_reducible repeat (first | refine blk_drewN ?_ _ | refine blk_drew ?_ | refine blk_alloc ?_ _)); refine blk_put (cs := #[.slice none 0 0, .slice none 0 0, .slice none 0 0, .slice none 0 0, .int .i64 0]) ?_ 0 _ rfl; (with_reducible repeat (first | refine blk_drewN ?_ _ | refine blk_drew ?_ | refine blk_alloc ?_ _)); exact BK139.out) hb); have n5_ := Aside0.mk (below_step (by repeat (first | (with_reducible first | exact HB.out | apply below_alloc | apply pw_below_drewN | apply below_drew1 | refine below_set ?_ GE139.out) | exact HB.out)) hb); clear HO129; clear HO132; clear HO138; clear BK139; clear HB; have HO129 := n0_; have HO132 := n1_; have HO138 := n2_; have HO142 := n3_; have BK139 := n4_; have HB := n5_; clear n0_ n1_ n2_ n3_ n4_ n5_; (try clear hb); (try clear hb2); (try clear hk); (try clear hi); (try clear ho0); have hcz36_0 : w35.cell? ⟨gb139, 0, none⟩ = some (.slice Ao32 y127.length co32) := (blk_cell BK139.out 0).trans rfl; have hcz36_1 : w35.cell? ⟨gb139, 1, none⟩ = some (.slice none 0 0) := (blk_cell BK139.out 1).trans rfl; have hcz36_2 : w35.cell? ⟨gb139, 2, none⟩ = some (.slice Ao31 y130.length co31) := (blk_cell BK139.out 2).trans rfl; have hcz36_3 : w35.cell? ⟨gb139, 3, none⟩ = some (.slice Ao30 y136.length co30) := (blk_cell BK139.out 3).trans rfl; have hcz36_4 : w35.cell? ⟨gb139, 4, none⟩ = some (.int .i64 0) := (blk_cell BK139.out 4).trans rfl; have hfz36_0 := blk_frozen BK139.out 0; have hfz36_1 := blk_frozen BK139.out 1; have hfz36_2 := blk_frozen BK139.out 2; have hfz36_3 := blk_frozen BK139.out 3; have hfz36_4 := blk_frozen BK139.out 4) | ((with_reducible refine gate_callee (f := 17) rfl ?_); refine goesL_ (some 17) rfl rfl Try.func17 (by kernel_rfl) rfl #[.agg #[.slice Ao32 y127.length co32, .slice none 0 0, .slice Ao31 y130.length co31, .slice Ao30 y136.length co30, .int .i64 0]] rfl (by (try simp only [List.map_toArray, List.map_cons, List.map_nil]); first | done | rfl | (simp only [List.length_drop, List.length_take]; rfl)) ?_; (refine (sets_First.calls k _ _ y127 _ _ ([] : List (S63)) _ _ y130 _ _ y136 0 t143 _ ?side1 ?side2 ?side3 ?side4 ?side5 ?side6 ?side7 ?side8 A2.out).mono ?_); (case side1 => repeat (first | exact (Kd.R_reads' HO129.out).2.2 | (with_reducible refine Kd.C_alloc ?_ _) | (with_reducible refine Kd.C_drewN ?_ _) | (with_reducible refine Kd.C_drew ?_))); (case side2 => exact (Kd.R_reads' HO129.out).2.1); (case side3 => exact Kd.C_nil _ _); (case side4 => exact Nat.le_refl _); (case side5 => repeat (first | exact (Kd.R_reads' HO132.out).2.2 | (with_reducible refine Kd.C_alloc ?_ _) | (with_reducible refine Kd.C_drewN ?_ _) | (with_reducible refine Kd.C_drew ?_))); (case side6 => exact (Kd.R_reads' HO132.out).2.1); (case side7 => repeat (first | exact (Kd.N_reads' HO138.out).2.2 | (with_reducible refine Kd.C_alloc ?_ _) | (with_reducible refine Kd.C_drewN ?_ _) | (with_reducible refine Kd.C_drew ?_))); (case side8 => exact (Kd.N_reads' HO138.out).2.1); rintro e w37 ⟨v144, rfl, ho0, hb⟩; refine ⟨_, rfl, ?_⟩; have n0_ := Aside0.mk (Kd.R_below (by (with_reducible repeat (first | apply Kd.R_alloc | apply Kd.R_drewN | apply Kd.R_drew)); exact HO129.out) hb); have n1_ := Aside0.mk (Kd.R_below (by (with_reducible repeat (first | apply Kd.R_alloc | apply Kd.R_drewN | apply Kd.R_drew)); exact HO132.out) hb); have n2_ := Aside0.mk (Kd.N_elder' (by (with_reducible repeat (first | apply Kd.N_alloc | apply Kd.N_drewN | apply Kd.N_drew)); exact HO138.out) (Kd.R_base ho0) hb); have n3_ := Aside0.mk (Kd.R_below (by (with_reducible repeat (first | apply Kd.R_alloc | apply Kd.R_drewN | apply Kd.R_drew)); exact HO142.out) hb); have n4_ := Aside0.mk (Kd.R_lower ho0 (below_size (by repeat (first | (with_reducible first | exact HB.out | apply below_alloc | apply pw_below_drewN | apply below_drew1 | refine below_set ?_ GE139.out) | exact HB.out)))); have n5_ := Aside0.mk (blk_below (g := gb139) (o := .cells #[.slice Ao32 y127.length co32, .slice none 0 0, .slice Ao31 y130.length co31, .slice Ao30 y136.length co30, .int .i64 0] 27 (0, 0)) (by (with_reducible repeat (first | refine blk_drewN ?_ _ | refine blk_drew ?_ | refine blk_alloc ?_ _)); exact BK139.out) hb); have n6_ := Aside0.mk (below_step (by repeat (first | (with_reducible first | exact HB.out | apply below_alloc | apply pw_below_drewN | apply below_drew1 | refine below_set ?_ GE139.out) | exact HB.out)) hb); clear HO129; clear HO132; clear HO138; clear HO142; clear BK139; clear HB; have HO129 := n0_; have HO132 := n1_; have HO138 := n2_; have HO142 := n3_; have HO145 := n4_; have BK139 := n5_; have HB := n6_; clear n0_ n1_ n2_ n3_ n4_ n5_ n6_; (try clear hb); (try clear hb2); (try clear hk); (try clear hi); (try clear ho0); have hcz38_0 : w37.cell? ⟨gb139, 0, none⟩ = some (.slice Ao32 y127.length co32) := (blk_cell BK139.out 0).trans rfl; have hcz38_1 : w37.cell? ⟨gb139, 1, none⟩ = some (.slice none 0 0) := (blk_cell BK139.out 1).trans rfl; have hcz38_2 : w37.cell? ⟨gb139, 2, none⟩ = some (.slice Ao31 y130.length co31) := (blk_cell BK139.out 2).trans rfl; have hcz38_3 : w37.cell? ⟨gb139, 3, none⟩ = some (.slice Ao30 y136.length co30) := (blk_cell BK139.out 3).trans rfl; have hcz38_4 : w37.cell? ⟨gb139, 4, none⟩ = some (.int .i64 0) := (blk_cell BK139.out 4).trans rfl; have hfz38_0 := blk_frozen BK139.out 0; have hfz38_1 := blk_frozen BK139.out 1; have hfz38_2 := blk_frozen BK139.out 2; have hfz38_3 := blk_frozen BK139.out 3; have hfz38_4 := blk_frozen BK139.out 4) | ((with_reducible refine gate_callee (f := 19) rfl ?_); refine goesL_ (some 19) rfl rfl Try.func19 (by kernel_rfl) rfl #[.agg #[.slice Ao32 y127.length co32, .slice none 0 0, .slice Ao31 y130.length co31, .slice Ao30 y136.length co30, .int .i64 0]] rfl (by (try simp only [List.map_toArray, List.map_cons, List.map_nil]); first | done | rfl | (simp only [List.length_drop, List.length_take]; rfl)) ?_; (refine (sets_Follow.calls k _ _ y127 _ _ ([] : List (S63)) _ _ y130 _ _ y136 0 t146 _ ?side1 ?side2 ?side3 ?side4 ?side5 ?side6 ?side7 ?side8 A3.out).mono ?_); (case side1 => repeat (first | exact (Kd.R_reads' HO129.out).2.2 | (with_reducible refine Kd.C_alloc ?_ _) | (with_reducible refine Kd.C_drewN ?_ _) | (with_reducible refine Kd.C_drew ?_))); (case side2 => exact (Kd.R_reads' HO129.out).2.1); (case side3 => exact Kd.C_nil _ _); (case side4 => exact Nat.le_refl _); (case side5 => repeat (first | exact (Kd.R_reads' HO132.out).2.2 | (with_reducible refine Kd.C_alloc ?_ _) | (with_reducible refine Kd.C_drewN ?_ _) | (with_reducible refine Kd.C_drew ?_))); (case side6 => exact (Kd.R_reads' HO132.out).2.1); (case side7 => repeat (first | exact (Kd.N_reads' HO138.out).2.2 | (with_reducible refine Kd.C_alloc ?_ _) | (with_reducible refine Kd.C_drewN ?_ _) | (with_reducible refine Kd.C_drew ?_))); (case side8 => exact (Kd.N_reads' HO138.out).2.1); rintro e w39 ⟨v147, rfl, ho0, hb⟩; refine ⟨_, rfl, ?_⟩; have n0_ := Aside0.mk (Kd.R_below (by (with_reducible repeat (first | apply Kd.R_alloc | apply Kd.R_drewN | apply Kd.R_drew)); exact HO129.out) hb); have n1_ := Aside0.mk (Kd.R_below (by (with_reducible repeat (first | apply Kd.R_alloc | apply Kd.R_drewN | apply Kd.R_drew)); exact HO132.out) hb); have n2_ := Aside0.mk (Kd.N_elder' (by (with_reducible repeat (first | apply Kd.N_alloc | apply Kd.N_drewN | apply Kd.N_drew)); exact HO138.out) (Kd.R_base ho0) hb); have n3_ := Aside0.mk (Kd.R_below (by (with_reducible repeat (first | apply Kd.R_alloc | apply Kd.R_drewN | apply Kd.R_drew)); exact HO142.out) hb); have n4_ := Aside0.mk (Kd.R_elder' (by (with_reducible repeat (first | apply Kd.R_alloc | apply Kd.R_drewN | apply Kd.R_drew)); exact HO145.out) (Kd.R_base ho0) hb); have n5_ := Aside0.mk (Kd.R_lower (Kd.R_new' ho0 (Kd.R_lt (by (with_reducible repeat (first | apply Kd.R_alloc | apply Kd.R_drewN | apply Kd.R_drew)); exact HO145.out))) (below_size (by repeat (first | (with_reducible first | exact HB.out | apply below_alloc | apply pw_below_drewN | apply below_drew1 | refine below_set ?_ GE139.out) | exact HB.out)))); have n6_ := Aside0.mk (blk_below (g := gb139) (o := .cells #[.slice Ao32 y127.length co32, .slice none 0 0, .slice Ao31 y130.length co31, .slice Ao30 y136.length co30, .int .i64 0] 27 (0, 0)) (by (with_reducible repeat (first | refine blk_drewN ?_ _ | refine blk_drew ?_ | refine blk_alloc ?_ _)); exact BK139.out) hb); have n7_ := Aside0.mk (below_step (by repeat (first | (with_reducible first | exact HB.out | apply below_alloc | apply pw_below_drewN | apply below_drew1 | refine below_set ?_ GE139.out) | exact HB.out)) hb); clear HO129; clear HO132; clear HO138; clear HO142; clear HO145; clear BK139; clear HB; have HO129 := n0_; have HO132 := n1_; have HO138 := n2_; have HO142 := n3_; have HO145 := n4_; have HO148 := n5_; have BK139 := n6_; have HB := n7_; clear n0_ n1_ n2_ n3_ n4_ n5_ n6_ n7_; (try clear hb); (try clear hb2); (try clear hk); (try clear hi); (try clear ho0); have hcz40_0 : w39.cell? ⟨gb139, 0, none⟩ = some (.slice Ao32 y127.length co32) := (blk_cell BK139.out 0).trans rfl; have hcz40_1 : w39.cell? ⟨gb139, 1, none⟩ = some (.slice none 0 0) := (blk_cell BK139.out 1).trans rfl; have hcz40_2 : w39.cell? ⟨gb139, 2, none⟩ = some (.slice Ao31 y130.length co31) := (blk_cell BK139.out 2).trans rfl; have hcz40_3 : w39.cell? ⟨gb139, 3, none⟩ = some (.slice Ao30 y136.length co30) := (blk_cell BK139.out 3).trans rfl; have hcz40_4 : w39.cell? ⟨gb139, 4, none⟩ = some (.int .i64 0) := (blk_cell BK139.out 4).trans rfl; have hfz40_0 := blk_frozen BK139.out 0; have hfz40_1 := blk_frozen BK139.out 1; have hfz40_2 := blk_frozen BK139.out 2; have hfz40_3 := blk_frozen BK139.out 3; have hfz40_4 := blk_frozen BK139.out 4) | ((with_reducible refine gate_callee (f := 14) rfl ?_); refine goesL_ (some 21) rfl rfl Try.func14 (by kernel_rfl) rfl #[.agg #[.slice Ao32 y127.length co32, .slice none 0 0, .slice Ao31 y130.length co31, .slice Ao30 y136.length co30, .int .i64 0]] rfl (by (try simp only [List.map_toArray, List.map_cons, List.map_nil]); first | done | rfl | (simp only [List.length_drop, List.length_take]; rfl)) ?_; (refine (sets_Lives.calls k _ _ y127 _ _ ([] : List (S63)) _ _ y130 _ _ y136 0 t149 _ ?side1 ?side2 ?side3 ?side4 ?side5 ?side6 ?side7 ?side8 A4.out).mono ?_); (case side1 => repeat (first | exact (Kd.R_reads' HO129.out).2.2 | (with_reducible refine Kd.C_alloc ?_ _) | (with_reducible refine Kd.C_drewN ?_ _) | (with_reducible refine Kd.C_drew ?_))); (case side2 => exact (Kd.R_reads' HO129.out).2.1); (case side3 => exact Kd.C_nil _ _); (case side4 => exact Nat.le_refl _); (case side5 => repeat (first | exact (Kd.R_reads' HO132.out).2.2 | (with_reducible refine Kd.C_alloc ?_ _) | (with_reducible refine Kd.C_drewN ?_ _) | (with_reducible refine Kd.C_drew ?_))); (case side6 => exact (Kd.R_reads' HO132.out).2.1); (case side7 => repeat (first | exact (Kd.N_reads' HO138.out).2.2 | (with_reducible refine Kd.C_alloc ?_ _) | (with_reducible refine Kd.C_drewN ?_ _) | (with_reducible refine Kd.C_drew ?_))); (case side8 => exact (Kd.N_reads' HO138.out).2.1); rintro e w41 ⟨v150, rfl, ho0, hb⟩; refine ⟨_, rfl, ?_⟩; have n0_ := Aside0.mk (Kd.R_below (by (with_reducible repeat (first | apply Kd.R_alloc | apply Kd.R_drewN | apply Kd.R_drew)); exact HO129.out) hb); have n1_ := Aside0.mk (Kd.R_below (by (with_reducible repeat (first | apply Kd.R_alloc | apply Kd.R_drewN | apply Kd.R_drew)); exact HO132.out) hb); have n2_ := Aside0.mk (Kd.N_elder' (by (with_reducible repeat (first | apply Kd.N_alloc | apply Kd.N_drewN | apply Kd.N_drew)); exact HO138.out) (Kd.R_base ho0) hb); have n3_ := Aside0.mk (Kd.R_elder' (by (with_reducible repeat (first | apply Kd.R_alloc | apply Kd.R_drewN | apply Kd.R_drew)); exact HO142.out) (Kd.R_base ho0) hb); have n4_ := Aside0.mk (Kd.R_below (by (with_reducible repeat (first | apply Kd.R_alloc | apply Kd.R_drewN | apply Kd.R_drew)); exact HO145.out) hb); have n5_ := Aside0.mk (Kd.R_below (by (with_reducible repeat (first | apply Kd.R_alloc | apply Kd.R_drewN | apply Kd.R_drew)); exact HO148.out) hb); have n6_ := Aside0.mk (Kd.R_lower (Kd.R_new' ho0 (Kd.R_lt (by (with_reducible repeat (first | apply Kd.R_alloc | apply Kd.R_drewN | apply Kd.R_drew)); exact HO142.out))) (below_size (by repeat (first | (with_reducible first | exact HB.out | apply below_alloc | apply pw_below_drewN | apply below_drew1 | refine below_set ?_ GE139.out) | exact HB.out)))); have n7_ := Aside0.mk (blk_below (g := gb139) (o := .cells #[.slice Ao32 y127.length co32, .slice none 0 0, .slice Ao31 y130.length co31, .slice Ao30 y136.length co30, .int .i64 0] 27 (0, 0)) (by (with_reducible repeat (first | refine blk_drewN ?_ _ | refine blk_drew ?_ | refine blk_alloc ?_ _)); exact BK139.out) hb); have n8_ := Aside0.mk (below_step (by repeat (first | (with_reducible first | exact HB.out | apply below_alloc | apply pw_below_drewN | apply below_drew1 | refine below_set ?_ GE139.out) | exact HB.out)) hb); clear HO129; clear HO132; clear HO138; clear HO142; clear HO145; clear HO148; clear BK139; clear HB; have HO129 := n0_; have HO132 := n1_; have HO138 := n2_; have HO142 := n3_; have HO145 := n4_; have HO148 := n5_; have HO151 := n6_; have BK139 := n7_; have HB := n8_; clear n0_ n1_ n2_ n3_ n4_ n5_ n6_ n7_ n8_; (try clear hb); (try clear hb2); (try clear hk); (try clear hi); (try clear ho0); obtain ⟨Ao42, co42, eo42⟩ := Kd.R_slice HO142.out; subst eo42; have p152 : 0 ≤ (0 : Int) := (by omega); have q152 : 0 < (t140.length : Int) := of_decide_eq_true (by first | (with_reducible assumption) | assumption); obtain ⟨ad152, e152, hx152_0⟩ := Kd.at_bool (Kd.R_reads' HO142.out).2.2 0 p152 q152; (try rw [← Nbq7.out] at hx152_0); (try rw [← Nbq17.out] at hx152_0); cases e152; have qi152 : (0 < t140.length) = True := eq_true (by omega); (try rw [show ((0 : Int)).toNat = 0 from rfl] at hx152_0); (try rw [Addr.add_zero'] at hx152_0); replace p152 := eq_true p152; replace q152 := eq_true q152; obtain ⟨Ao43, co43, eo43⟩ := Kd.R_slice HO145.out; subst eo43; have p153 : 0 ≤ (0 : Int) := (by omega); have q153 : 0 < (t143.length : Int) := of_decide_eq_true (by first | (with_reducible assumption) | assumption); obtain ⟨ad153, e153, hx153_0⟩ := Kd.at_int (Kd.R_reads' HO145.out).2.2 0 p153 q153; cases e153; have qi153 : (0 < t143.length) = True := eq_true (by omega); (try rw [show ((0 : Int)).toNat = 0 from rfl] at hx153_0); (try rw [Addr.add_zero'] at hx153_0); replace p153 := eq_true p153; replace q153 := eq_true q153; obtain ⟨Ao44, co44, eo44⟩ := Kd.R_slice HO148.out; subst eo44; have p154 : 0 ≤ (0 : Int) := (by omega); have q154 : 0 < (t146.length : Int) := of_decide_eq_true (by first | (with_reducible assumption) | assumption); obtain ⟨ad154, e154, hx154_0⟩ := Kd.at_int (Kd.R_reads' HO148.out).2.2 0 p154 q154; cases e154; have qi154 : (0 < t146.length) = True := eq_true (by omega); (try rw [show ((0 : Int)).toNat = 0 from rfl] at hx154_0); (try rw [Addr.add_zero'] at hx154_0); replace p154 := eq_true p154; replace q154 := eq_true q154; obtain ⟨Ao45, co45, eo45⟩ := Kd.R_slice HO151.out; subst eo45; have p155 : 0 ≤ (0 : Int) := (by omega); have q155 : 0 < (t149.length : Int) := of_decide_eq_true (by first | (with_reducible assumption) | assumption); obtain ⟨ad155, e155, hx155_0⟩ := Kd.at_bool (Kd.R_reads' HO151.out).2.2 0 p155 q155; (try rw [← Nbq7.out] at hx155_0); (try rw [← Nbq17.out] at hx155_0); cases e155; have qi155 : (0 < t149.length) = True := eq_true (by omega); (try rw [show ((0 : Int)).toNat = 0 from rfl] at hx155_0); (try rw [Addr.add_zero'] at hx155_0); replace p155 := eq_true p155; replace q155 := eq_true q155; have hcz46_0 : w41.cell? ⟨gb139, 0, none⟩ = some (.slice Ao32 y127.length co32) := (blk_cell BK139.out 0).trans rfl; have hcz46_1 : w41.cell? ⟨gb139, 1, none⟩ = some (.slice none 0 0) := (blk_cell BK139.out 1).trans rfl; have hcz46_2 : w41.cell? ⟨gb139, 2, none⟩ = some (.slice Ao31 y130.length co31) := (blk_cell BK139.out 2).trans rfl; have hcz46_3 : w41.cell? ⟨gb139, 3, none⟩ = some (.slice Ao30 y136.length co30) := (blk_cell BK139.out 3).trans rfl; have hcz46_4 : w41.cell? ⟨gb139, 4, none⟩ = some (.int .i64 0) := (blk_cell BK139.out 4).trans rfl; have hfz46_0 := blk_frozen BK139.out 0; have hfz46_1 := blk_frozen BK139.out 1; have hfz46_2 := blk_frozen BK139.out 2; have hfz46_3 := blk_frozen BK139.out 3; have hfz46_4 := blk_frozen BK139.out 4) | ((with_reducible refine gate_dst (N := 64) rfl ?_); (try (refine gate_guard (by rfl) ?_; dsimp only)); refine Kd.R_lit (Kd.int .i64) _ 41 ?hg (N := 64) ?hd (xs := ([(-1)] : List Int)) (inner := [.int .i64 (-1)]) (ok := fun _ => True) (okp := fun _ => True) ?hr ?hp (fun _ hk => hk) trivial (Below.refl _ _) (Nat.le_refl _) (by simp) ?_; (case hd => rfl); (case hg => rfl); (case hr => first | (go_simp; done) | (go_simp; rfl)); (case hp => exact (Reps.one (show Kd.M (Kd.int .i64) _ _ _ (-1) [.int .i64 (-1)] from rfl) (Reps.none _ _))); intro v157 w47 ho48 hb hg_ hnew_; clear hg_ hnew_; (first | rw [← Ny156.out] at ho48 | (simp only [Int.reduceToNat] at ho48; rw [← Ny156.out] at ho48)); have n0_ := Aside0.mk (Kd.R_below (by (with_reducible repeat (first | apply Kd.R_alloc | apply Kd.R_drewN | apply Kd.R_drew)); exact HO129.out) hb); have n1_ := Aside0.mk (Kd.R_below (by (with_reducible repeat (first | apply Kd.R_alloc | apply Kd.R_drewN | apply Kd.R_drew)); exact HO132.out) hb); have n2_ := Aside0.mk (Kd.N_elder' (by (with_reducible repeat (first | apply Kd.N_alloc | apply Kd.N_drewN | apply Kd.N_drew)); exact HO138.out) (Kd.R_base ho48) hb); have n3_ := Aside0.mk (Kd.R_below (by (with_reducible repeat (first | apply Kd.R_alloc | apply Kd.R_drewN | apply Kd.R_drew)); exact HO142.out) hb); have n4_ := Aside0.mk (Kd.R_below (by (with_reducible repeat (first | apply Kd.R_alloc | apply Kd.R_drewN | apply Kd.R_drew)); exact HO145.out) hb); have n5_ := Aside0.mk (Kd.R_below (by (with_reducible repeat (first | apply Kd.R_alloc | apply Kd.R_drewN | apply Kd.R_drew)); exact HO148.out) hb); have n6_ := Aside0.mk (Kd.R_below (by (with_reducible repeat (first | apply Kd.R_alloc | apply Kd.R_drewN | apply Kd.R_drew)); exact HO151.out) hb); have n7_ := Aside0.mk (Kd.R_lower ho48 (below_size (by repeat (first | (with_reducible first | exact HB.out | apply below_alloc | apply pw_below_drewN | apply below_drew1 | refine below_set ?_ GE139.out) | exact HB.out)))); have n8_ := Aside0.mk (blk_below (g := gb139) (o := .cells #[.slice Ao32 y127.length co32, .slice none 0 0, .slice Ao31 y130.length co31, .slice Ao30 y136.length co30, .int .i64 0] 27 (0, 0)) (by (with_reducible repeat (first | refine blk_drewN ?_ _ | refine blk_drew ?_ | refine blk_alloc ?_ _)); exact BK139.out) hb); have n9_ := Aside0.mk (below_step (by repeat (first | (with_reducible first | exact HB.out | apply below_alloc | apply pw_below_drewN | apply below_drew1 | refine below_set ?_ GE139.out) | exact HB.out)) hb); clear HO129; clear HO132; clear HO138; clear HO142; clear HO145; clear HO148; clear HO151; clear BK139; clear HB; have HO129 := n0_; have HO132 := n1_; have HO138 := n2_; have HO142 := n3_; have HO145 := n4_; have HO148 := n5_; have HO151 := n6_; have HO158 := n7_; have BK139 := n8_; have HB := n9_; clear n0_ n1_ n2_ n3_ n4_ n5_ n6_ n7_ n8_ n9_; clear hb ho48; obtain ⟨Ao49, co49, eo49⟩ := Kd.R_slice HO158.out; subst eo49) | (go_at_call 21; (refine (sets_Of.calls k _ _ y127 _ _ ([] : List (S63)) _ _ y130 _ _ y136 0 _ _ y156 4 t159 _ ?side1 ?side2 ?side3 ?side4 ?side5 ?side6 ?side7 ?side8 ?side9 ?side10 A19.out).mono ?_); (case side1 => repeat (first | exact (Kd.R_reads' HO129.out).2.2 | (with_reducible refine Kd.C_alloc ?_ _) | (with_reducible refine Kd.C_drewN ?_ _) | (with_reducible refine Kd.C_drew ?_))); (case side2 => exact (Kd.R_reads' HO129.out).2.1); (case side3 => exact Kd.C_nil _ _); (case side4 => exact Nat.le_refl _); (case side5 => repeat (first | exact (Kd.R_reads' HO132.out).2.2 | (with_reducible refine Kd.C_alloc ?_ _) | (with_reducible refine Kd.C_drewN ?_ _) | (with_reducible refine Kd.C_drew ?_))); (case side6 => exact (Kd.R_reads' HO132.out).2.1); (case side7 => repeat (first | exact (Kd.N_reads' HO138.out).2.2 | (with_reducible refine Kd.C_alloc ?_ _) | (with_reducible refine Kd.C_drewN ?_ _) | (with_reducible refine Kd.C_drew ?_))); (case side8 => exact (Kd.N_reads' HO138.out).2.1); (case side9 => repeat (first | exact (Kd.R_reads' HO158.out).2.2 | (with_reducible refine Kd.C_alloc ?_ _) | (with_reducible refine Kd.C_drewN ?_ _) | (with_reducible refine Kd.C_drew ?_))); (case side10 => exact (Kd.R_reads' HO158.out).2.1); rintro e w50 ⟨rfl, hb⟩; have n0_ := Aside0.mk (Kd.R_below (by (with_reducible repeat (first | apply Kd.R_alloc | apply Kd.R_drewN | apply Kd.R_drew)); exact HO129.out) hb); have n1_ := Aside0.mk (Kd.R_below (by (with_reducible repeat (first | apply Kd.R_alloc | apply Kd.R_drewN | apply Kd.R_drew)); exact HO132.out) hb); have n2_ := Aside0.mk (Kd.N_below (by (with_reducible repeat (first | apply Kd.N_alloc | apply Kd.N_drewN | apply Kd.N_drew)); exact HO138.out) hb); have n3_ := Aside0.mk (Kd.R_below (by (with_reducible repeat (first | apply Kd.R_alloc | apply Kd.R_drewN | apply Kd.R_drew)); exact HO142.out) hb); have n4_ := Aside0.mk (Kd.R_below (by (with_reducible repeat (first | apply Kd.R_alloc | apply Kd.R_drewN | apply Kd.R_drew)); exact HO145.out) hb); have n5_ := Aside0.mk (Kd.R_below (by (with_reducible repeat (first | apply Kd.R_alloc | apply Kd.R_drewN | apply Kd.R_drew)); exact HO148.out) hb); have n6_ := Aside0.mk (Kd.R_below (by (with_reducible repeat (first | apply Kd.R_alloc | apply Kd.R_drewN | apply Kd.R_drew)); exact HO151.out) hb); have n7_ := Aside0.mk (Kd.R_below (by (with_reducible repeat (first | apply Kd.R_alloc | apply Kd.R_drewN | apply Kd.R_drew)); exact HO158.out) hb); have n8_ := Aside0.mk (blk_below (g := gb139) (o := .cells #[.slice Ao32 y127.length co32, .slice none 0 0, .slice Ao31 y130.length co31, .slice Ao30 y136.length co30, .int .i64 0] 27 (0, 0)) (by (with_reducible repeat (first | refine blk_drewN ?_ _ | refine blk_drew ?_ | refine blk_alloc ?_ _)); exact BK139.out) hb); have n9_ := Aside0.mk (below_step (by repeat (first | (with_reducible first | exact HB.out | apply below_alloc | apply pw_below_drewN | apply below_drew1 | refine below_set ?_ GE139.out) | exact HB.out)) hb); clear HO129; clear HO132; clear HO138; clear HO142; clear HO145; clear HO148; clear HO151; clear HO158; clear BK139; clear HB; have HO129 := n0_; have HO132 := n1_; have HO138 := n2_; have HO142 := n3_; have HO145 := n4_; have HO148 := n5_; have HO151 := n6_; have HO158 := n7_; have BK139 := n8_; have HB := n9_; clear n0_ n1_ n2_ n3_ n4_ n5_ n6_ n7_ n8_ n9_; (try clear hb); (try clear hb2); (try clear hk); (try clear hi)))
              go_ret
              exact ⟨by first | rfl | (simp [errW_none, errW_some] <;> rfl) | (simp [*, errW_none, errW_some] <;> rfl), by repeat (first | (with_reducible first | exact HB.out | apply below_alloc | apply pw_below_drewN | apply below_drew1 | refine below_set ?_ GE139.out) | exact HB.out)⟩
             ·rw [if_neg c20] at H
              have c20b0 : (t159 == 5) = false := beq_eq_false_iff_ne.mpr c20
              have c20b1 : (t159 != 5) = true := bne_iff_ne.mpr c20
              exact absurd ((Option.some.inj H).trans HT.out) (by decide)
            ·replace c18 := Bool.eq_false_iff.mpr c18
             subst c18
             have H1 : (some false) = some r := by rw [if_neg (show ¬ (false = true) by decide)] at H; exact H
             clear H
             have H := H1
             clear H1
             exact absurd ((Option.some.inj H).trans HT.out) (by decide)
           ·rw [if_neg c16] at H
            exact absurd H (by simp)
          ·rw [if_neg c15] at H
           have c15b0 : ((t149.length : Int) == 1) = false := beq_eq_false_iff_ne.mpr c15
           have c15b1 : ((t149.length : Int) != 1) = true := bne_iff_ne.mpr c15
           exact absurd ((Option.some.inj H).trans HT.out) (by decide)
         ·rw [if_neg c14] at H
          have c14b0 : ((rd t146 0) == 9223372036854775808) = false := beq_eq_false_iff_ne.mpr c14
          have c14b1 : ((rd t146 0) != 9223372036854775808) = true := bne_iff_ne.mpr c14
          exact absurd ((Option.some.inj H).trans HT.out) (by decide)
        ·rw [if_neg c13] at H
         exact absurd H (by simp)
       ·rw [if_neg c12] at H
        have c12b0 : ((t146.length : Int) == 1) = false := beq_eq_false_iff_ne.mpr c12
        have c12b1 : ((t146.length : Int) != 1) = true := bne_iff_ne.mpr c12
        exact absurd ((Option.some.inj H).trans HT.out) (by decide)
      ·rw [if_neg c11] at H
       have c11b0 : ((rd t143 0) == 1) = false := beq_eq_false_iff_ne.mpr c11
       have c11b1 : ((rd t143 0) != 1) = true := bne_iff_ne.mpr c11
       exact absurd ((Option.some.inj H).trans HT.out) (by decide)
     ·rw [if_neg c10] at H
      exact absurd H (by simp)
    ·rw [if_neg c9] at H
     have c9b0 : ((t143.length : Int) == 1) = false := beq_eq_false_iff_ne.mpr c9
     have c9b1 : ((t143.length : Int) != 1) = true := bne_iff_ne.mpr c9
     exact absurd ((Option.some.inj H).trans HT.out) (by decide)
   ·replace c8 := Bool.eq_false_iff.mpr c8
    subst c8
    have H1 : (some false) = some r := by rw [if_neg (show ¬ (false = true) by decide)] at H; exact H
    clear H
    have H := H1
    clear H1
    exact absurd ((Option.some.inj H).trans HT.out) (by decide)
  ·rw [if_neg c6] at H
   exact absurd H (by simp)
 ·rw [if_neg c5] at H
  have c5b0 : ((t140.length : Int) == 1) = false := beq_eq_false_iff_ne.mpr c5
  have c5b1 : ((t140.length : Int) != 1) = true := bne_iff_ne.mpr c5
  exact absurd ((Option.some.inj H).trans HT.out) (by decide)

end Go.Proofs.Ytggfiopajogiiaa.P
end

section
namespace Go.Proofs.Ytggfiopajogiiaa.P
open Go.RowKit Go.Proofs.YtggfiopajogiiaaW.PrintWords Go.Proofs.YtggfiopajogiiaaW.PrintLast Go.Proofs.YtggfiopajogiiaaW.PrintMore
attribute [local go_sem] max2_int min2_int max_two min_two max_three min_three max_four min_four   -- for this text's walks alone
set_option linter.unusedVariables false
set_option linter.unusedSimpArgs false

/-! ### syntagmlaw13_Few: function 11 -/
mutual
def syntagmlaw13_Few.l0 : Nat → Int → List (S51) → List (S63) → List ByteArray → List (S45) → Int → Option (Bool)
 | 0, _, _, _, _, _, _ => none
 | k + 1, x3, x161000, x161001, x161002, x161003, x161004 => if x3 < (x161003.length : Int) then (syntagmlaw13_Few.j1 k x3 (decide (x3 < 15)) x161000 x161001 x161002 x161003 x161004) else (syntagmlaw13_Few.j1 k x3 false x161000 x161001 x161002 x161003 x161004)
def syntagmlaw13_Few.j1 : Nat → Int → Bool → List (S51) → List (S63) → List ByteArray → List (S45) → Int → Option (Bool)
 | 0, _, _, _, _, _, _, _ => none
 | k + 1, x3, x12, x161000, x161001, x161002, x161003, x161004 => if x12 = true then (if 0 ≤ x3 then (if x3 < (x161003.length : Int) then (if (((rd_T45 x161003 x3).f2).length : Int) > 12 then (some false) else (syntagmlaw13_Few.l0 k (wrap64 (x3 + 1)) x161000 x161001 x161002 x161003 x161004)) else (none)) else (none)) else (if (x161000.length : Int) ≤ 10 then (if (x161002.length : Int) ≤ 8 then (if (x161003.length : Int) ≤ 14 then (some (decide ((x161001.length : Int) ≤ 30))) else (some false)) else (some false)) else (some false))
end
def syntagmlaw13_Few.f (k : Nat) (l0_0 : List (S51)) (l0_1 : List (S63)) (l0_2 : List ByteArray) (l0_3 : List (S45)) (a0_4 : Int) : Option (Bool) := syntagmlaw13_Few.l0 k 0 l0_0 l0_1 l0_2 l0_3 a0_4
theorem syntagmlaw13_Few.mono_l : ∀ k, (∀ y0 y1 y2 y3 y4 y5, LeO (syntagmlaw13_Few.l0 k y0 y1 y2 y3 y4 y5) (syntagmlaw13_Few.l0 (k + 1) y0 y1 y2 y3 y4 y5)) ∧ (∀ y0 y1 y2 y3 y4 y5 y6, LeO (syntagmlaw13_Few.j1 k y0 y1 y2 y3 y4 y5 y6) (syntagmlaw13_Few.j1 (k + 1) y0 y1 y2 y3 y4 y5 y6))
 | 0 => ⟨fun _ _ _ _ _ _ r h => by simp [syntagmlaw13_Few.l0] at h, fun _ _ _ _ _ _ _ r h => by simp [syntagmlaw13_Few.j1] at h⟩
 | k + 1 => by
  obtain ⟨ih0, ih1⟩ := syntagmlaw13_Few.mono_l k
  refine ⟨?_, ?_⟩
  ·intro y0 y1 y2 y3 y4 y5
   unfold syntagmlaw13_Few.l0
   repeat' first
   | (with_reducible exact ih0 _ _ _ _ _ _)
   | (with_reducible exact ih1 _ _ _ _ _ _ _)
   | (with_reducible exact LeO.refl _)
   | (with_reducible exact LeO.none _)
   | (with_reducible refine LeO.ite ?_ ?_)
   | (with_reducible refine LeO.bind ?_ (fun _ => ?_))
   | exact ih0 _ _ _ _ _ _
   | exact ih1 _ _ _ _ _ _ _
   | exact LeO.none _
   | refine LeO.ite ?_ ?_
   | refine LeO.bind ?_ (fun _ => ?_)
  ·intro y0 y1 y2 y3 y4 y5 y6
   unfold syntagmlaw13_Few.j1
   repeat' first
   | (with_reducible exact ih0 _ _ _ _ _ _)
   | (with_reducible exact ih1 _ _ _ _ _ _ _)
   | (with_reducible exact LeO.refl _)
   | (with_reducible exact LeO.none _)
   | (with_reducible refine LeO.ite ?_ ?_)
   | (with_reducible refine LeO.bind ?_ (fun _ => ?_))
   | exact ih0 _ _ _ _ _ _
   | exact ih1 _ _ _ _ _ _ _
   | exact LeO.none _
   | refine LeO.ite ?_ ?_
   | refine LeO.bind ?_ (fun _ => ?_)
theorem syntagmlaw13_Few.mono : ∀ a0 a1 a2 a3 a4 k, LeO (syntagmlaw13_Few.f k a0 a1 a2 a3 a4) (syntagmlaw13_Few.f (k + 1) a0 a1 a2 a3 a4) := by
 intro a0 a1 a2 a3 a4 k
 obtain ⟨ih0, ih1⟩ := syntagmlaw13_Few.mono_l k
 unfold syntagmlaw13_Few.f
 repeat' first
   | (with_reducible exact ih0 _ _ _ _ _ _)
   | (with_reducible exact ih1 _ _ _ _ _ _ _)
   | (with_reducible exact LeO.refl _)
   | (with_reducible exact LeO.none _)
   | (with_reducible refine LeO.ite ?_ ?_)
   | (with_reducible refine LeO.bind ?_ (fun _ => ?_))
   | exact ih0 _ _ _ _ _ _
   | exact ih1 _ _ _ _ _ _ _
   | exact LeO.none _
   | refine LeO.ite ?_ ?_
   | refine LeO.bind ?_ (fun _ => ?_)
set_option maxHeartbeats 8000000 in
set_option maxRecDepth 100000 in
theorem syntagmlaw13_Few.calls (k : Nat) (A0_0 : Option Addr) (c0_0 : Nat) (l0_0 : List (S51)) (A0_1 : Option Addr) (c0_1 : Nat) (l0_1 : List (S63)) (A0_2 : Option Addr) (c0_2 : Nat) (l0_2 : List ByteArray) (A0_3 : Option Addr) (c0_3 : Nat) (l0_3 : List (S45)) (a0_4 : Int) (r : Bool) (w : World) (hr0_0 : Kd.C k51 w A0_0 l0_0.length l0_0) (hc0_0 : l0_0.length ≤ c0_0) (hr0_1 : Kd.C k63 w A0_1 l0_1.length l0_1) (hc0_1 : l0_1.length ≤ c0_1) (hr0_2 : Kd.C Kd.string w A0_2 l0_2.length l0_2) (hc0_2 : l0_2.length ≤ c0_2) (hr0_3 : Kd.C k45 w A0_3 l0_3.length l0_3) (hc0_3 : l0_3.length ≤ c0_3) (h : syntagmlaw13_Few.f k l0_0 l0_1 l0_2 l0_3 a0_4 = some r) :
  Calls Try.prog 11 #[.agg #[.slice A0_0 l0_0.length c0_0, .slice A0_1 l0_1.length c0_1, .slice A0_2 l0_2.length c0_2, .slice A0_3 l0_3.length c0_3, .int .i64 a0_4]] w fun e w' => e = .returned (.bool r) ∧ Below w.heap.size w w' := by
 have hu27 := Try.underlying27
 have HR0_0 := Aside0.mk hr0_0
 have HC0_0 := Aside0.mk hc0_0
 clear hr0_0 hc0_0
 have HR0_1 := Aside0.mk hr0_1
 have HC0_1 := Aside0.mk hc0_1
 clear hr0_1 hc0_1
 have HR0_2 := Aside0.mk hr0_2
 have HC0_2 := Aside0.mk hc0_2
 clear hr0_2 hc0_2
 have HR0_3 := Aside0.mk hr0_3
 have HC0_3 := Aside0.mk hc0_3
 clear hr0_3 hc0_3
 have HB := Aside0.mk (Below.refl w.heap.size w)
 have H : (syntagmlaw13_Few.l0 k 0 l0_0 l0_1 l0_2 l0_3 a0_4) = some r := h
 clear h
 have H' := Aside0.mk H
 clear H
 go_enter Try.func11, Try.ntmps11
 go_wp2_with (first | ((with_reducible refine gate_dst (N := 1) rfl ?_); (try (refine gate_guard (by rfl) ?_; dsimp only)); refine box_event ?hg (N := 1) ?hd (cs := #[.slice A0_0 l0_0.length c0_0, .slice A0_1 l0_1.length c0_1, .slice A0_2 l0_2.length c0_2, .slice A0_3 l0_3.length c0_3, .int .i64 a0_4]) (t := 27) ?hr ?_; (case hd => rfl); (case hg => rfl); (case hr => first | (go_simp; done) | (go_simp; rfl)); intro gb160 hg w2 hbox hb; have n0_ := Aside0.mk (below_step (by repeat (first | (with_reducible first | exact HB.out | apply below_alloc | apply pw_below_drewN | apply below_drew1) | exact HB.out)) hb); have n1_ := Aside0.mk (hbox); have n2_ := Aside0.mk ((by rw [hg]; exact (below_size (by repeat (first | (with_reducible first | exact HB.out | apply below_alloc | apply pw_below_drewN | apply below_drew1) | exact HB.out))) : w.heap.size ≤ gb160)); have n3_ := Aside0.mk ((by rw [hg]; exact (below_size (by repeat (first | (with_reducible first | exact HB.out | apply below_alloc | apply pw_below_drewN | apply below_drew1) | exact HB.out))) : w.heap.size ≤ gb160)); clear HB; have HB := n0_; have BK160 := n1_; have GW160 := n2_; have GE160 := n3_; clear n0_ n1_ n2_ n3_; clear hb hbox hg))
 go_loopg [3] k (fun kq v3 w' => ∃ (x3_1 : Int), v3 = .int .i64 x3_1 ∧ Aside0 (syntagmlaw13_Few.l0 kq x3_1 l0_0 l0_1 l0_2 l0_3 a0_4 = some r) ∧ Aside0 (kq ≤ k) ∧ Aside0 (w'.heap[gb160]? = some (.cells #[(.slice A0_0 l0_0.length c0_0), (.slice A0_1 l0_1.length c0_1), (.slice A0_2 l0_2.length c0_2), (.slice A0_3 l0_3.length c0_3), .int .i64 a0_4] 27 (0, 0))) ∧ Aside0 (Below w.heap.size w w'))
 case atStart => exact ⟨(0), (by first | rfl | (simp; done) | (simp [*]; done)), H', ⟨Nat.le_refl _⟩, ⟨by (with_reducible repeat (first | refine blk_drewN ?_ _ | refine blk_drew ?_ | refine blk_alloc ?_ _)); exact BK160.out⟩, ⟨by repeat (first | (with_reducible first | exact HB.out | apply below_alloc | apply pw_below_drewN | apply below_drew1 | refine below_set ?_ GE160.out) | exact HB.out)⟩⟩
 case round =>
  clear H'
  try clear c1
  try clear p2
  obtain ⟨x3_1, rfl, HA, HK1, BK160, HB⟩ := hrel
  cases gk with
  | zero => exact absurd HA.out (by simp [syntagmlaw13_Few.l0])
  | succ k1 =>
   have H := HA.out
   clear HA
   simp only [syntagmlaw13_Few.l0] at H
   have HC3 := Aside0.mk H
   clear H
   go_upto_region 2 with (fail)
   go_cut [12] (fun v12 wc => ∃ (kq : Nat) (x12_2 : Bool), v12 = .bool x12_2 ∧ Aside0 (syntagmlaw13_Few.j1 kq x3_1 x12_2 l0_0 l0_1 l0_2 l0_3 a0_4 = some r) ∧ Aside0 (kq ≤ k1) ∧ Aside0 (wc.heap[gb160]? = some (.cells #[(.slice A0_0 l0_0.length c0_0), (.slice A0_1 l0_1.length c0_1), (.slice A0_2 l0_2.length c0_2), (.slice A0_3 l0_3.length c0_3), .int .i64 a0_4] 27 (0, 0))) ∧ Aside0 (Below w.heap.size w wc))
   case first =>
    have H := HC3.out
    clear HC3
    by_cases c4 : x3_1 < (l0_3.length : Int)
    ·rw [if_pos c4] at H
     have c4b0 : decide (x3_1 < (l0_3.length : Int)) = true := decide_eq_true c4
     clear c4
     (first | rw [c4b0] | (simp only [i64_w, i32_w]; rw [c4b0]) | skip)
     have H' := Aside0.mk H
     clear H
     have hcz5_0 : wr.cell? ⟨gb160, 0, none⟩ = some (.slice A0_0 l0_0.length c0_0) := (blk_cell BK160.out 0).trans rfl
     have hcz5_1 : wr.cell? ⟨gb160, 1, none⟩ = some (.slice A0_1 l0_1.length c0_1) := (blk_cell BK160.out 1).trans rfl
     have hcz5_2 : wr.cell? ⟨gb160, 2, none⟩ = some (.slice A0_2 l0_2.length c0_2) := (blk_cell BK160.out 2).trans rfl
     have hcz5_3 : wr.cell? ⟨gb160, 3, none⟩ = some (.slice A0_3 l0_3.length c0_3) := (blk_cell BK160.out 3).trans rfl
     have hcz5_4 : wr.cell? ⟨gb160, 4, none⟩ = some (.int .i64 a0_4) := (blk_cell BK160.out 4).trans rfl
     have hfz5_0 := blk_frozen BK160.out 0
     have hfz5_1 := blk_frozen BK160.out 1
     have hfz5_2 := blk_frozen BK160.out 2
     have hfz5_3 := blk_frozen BK160.out 3
     have hfz5_4 := blk_frozen BK160.out 4
     go_wp2
     go_meet
     case rel => exact ⟨_, (decide (x3_1 < 15)), (by first | rfl | (simp; done) | (simp [*]; done)), H', ⟨by have := HK1.out; first | omega | exact Nat.le_refl _⟩, ⟨by (with_reducible repeat (first | refine blk_drewN ?_ _ | refine blk_drew ?_ | refine blk_alloc ?_ _)); exact BK160.out⟩, ⟨by repeat (first | (with_reducible first | exact HB.out | apply below_alloc | apply pw_below_drewN | apply below_drew1 | refine below_set ?_ GE160.out) | exact HB.out)⟩⟩
    ·rw [if_neg c4] at H
     have c4b0 : decide (x3_1 < (l0_3.length : Int)) = false := decide_eq_false c4
     clear c4
     (first | rw [c4b0] | (simp only [i64_w, i32_w]; rw [c4b0]) | skip)
     have H' := Aside0.mk H
     clear H
     have hcz6_0 : wr.cell? ⟨gb160, 0, none⟩ = some (.slice A0_0 l0_0.length c0_0) := (blk_cell BK160.out 0).trans rfl
     have hcz6_1 : wr.cell? ⟨gb160, 1, none⟩ = some (.slice A0_1 l0_1.length c0_1) := (blk_cell BK160.out 1).trans rfl
     have hcz6_2 : wr.cell? ⟨gb160, 2, none⟩ = some (.slice A0_2 l0_2.length c0_2) := (blk_cell BK160.out 2).trans rfl
     have hcz6_3 : wr.cell? ⟨gb160, 3, none⟩ = some (.slice A0_3 l0_3.length c0_3) := (blk_cell BK160.out 3).trans rfl
     have hcz6_4 : wr.cell? ⟨gb160, 4, none⟩ = some (.int .i64 a0_4) := (blk_cell BK160.out 4).trans rfl
     have hfz6_0 := blk_frozen BK160.out 0
     have hfz6_1 := blk_frozen BK160.out 1
     have hfz6_2 := blk_frozen BK160.out 2
     have hfz6_3 := blk_frozen BK160.out 3
     have hfz6_4 := blk_frozen BK160.out 4
     go_wp2
     go_meet
     case rel => exact ⟨_, (false), (by first | rfl | (simp; done) | (simp [*]; done)), H', ⟨by have := HK1.out; first | omega | exact Nat.le_refl _⟩, ⟨by (with_reducible repeat (first | refine blk_drewN ?_ _ | refine blk_drew ?_ | refine blk_alloc ?_ _)); exact BK160.out⟩, ⟨by repeat (first | (with_reducible first | exact HB.out | apply below_alloc | apply pw_below_drewN | apply below_drew1 | refine below_set ?_ GE160.out) | exact HB.out)⟩⟩
   case rest =>
    clear HC3
    try clear c1
    try clear p2
    try clear c4
    try clear c4b0
    try clear hcz5_0
    try clear hcz5_1
    try clear hcz5_2
    try clear hcz5_3
    try clear hcz5_4
    try clear hcz6_0
    try clear hcz6_1
    try clear hcz6_2
    try clear hcz6_3
    try clear hcz6_4
    try clear hfz5_0
    try clear hfz5_1
    try clear hfz5_2
    try clear hfz5_3
    try clear hfz5_4
    try clear hfz6_0
    try clear hfz6_1
    try clear hfz6_2
    try clear hfz6_3
    try clear hfz6_4
    try clear p2
    obtain ⟨kq, x12_2, rfl, HA, HJ2, BK160, HB⟩ := hcut
    cases kq with
    | zero => exact absurd HA.out (by simp [syntagmlaw13_Few.j1])
    | succ kj2 =>
     have H := HA.out
     clear HA
     simp only [syntagmlaw13_Few.j1] at H
     by_cases c7 : x12_2 = true
     ·subst c7
      have H1 : (if 0 ≤ x3_1 then (if x3_1 < (l0_3.length : Int) then (if (((rd_T45 l0_3 x3_1).f2).length : Int) > 12 then (some false) else (syntagmlaw13_Few.l0 kj2 (wrap64 (x3_1 + 1)) l0_0 l0_1 l0_2 l0_3 a0_4)) else (none)) else (none)) = some r := by rw [if_pos rfl] at H; exact H
      clear H
      have H := H1
      clear H1
      by_cases c8 : 0 ≤ x3_1
      ·rw [if_pos c8] at H
       have c8b0 : decide (0 ≤ x3_1) = true := decide_eq_true c8
       clear c8
       by_cases c9 : x3_1 < (l0_3.length : Int)
       ·rw [if_pos c9] at H
        have c9b0 : decide (x3_1 < (l0_3.length : Int)) = true := decide_eq_true c9
        clear c9
        by_cases c10 : (((rd_T45 l0_3 x3_1).f2).length : Int) > 12
        ·rw [if_pos c10] at H
         have c10b0 : decide (12 < (((rd_T45 l0_3 x3_1).f2).length : Int)) = true := decide_eq_true c10
         have c10b1 : decide (12 < ((rd_T45 l0_3 x3_1).f2).length) = true := decide_eq_true (by omega)
         clear c10
         obtain rfl := Option.some.inj H
         have hcz11_0 : wc.cell? ⟨gb160, 0, none⟩ = some (.slice A0_0 l0_0.length c0_0) := (blk_cell BK160.out 0).trans rfl
         have hcz11_1 : wc.cell? ⟨gb160, 1, none⟩ = some (.slice A0_1 l0_1.length c0_1) := (blk_cell BK160.out 1).trans rfl
         have hcz11_2 : wc.cell? ⟨gb160, 2, none⟩ = some (.slice A0_2 l0_2.length c0_2) := (blk_cell BK160.out 2).trans rfl
         have hcz11_3 : wc.cell? ⟨gb160, 3, none⟩ = some (.slice A0_3 l0_3.length c0_3) := (blk_cell BK160.out 3).trans rfl
         have hcz11_4 : wc.cell? ⟨gb160, 4, none⟩ = some (.int .i64 a0_4) := (blk_cell BK160.out 4).trans rfl
         have hfz11_0 := blk_frozen BK160.out 0
         have hfz11_1 := blk_frozen BK160.out 1
         have hfz11_2 := blk_frozen BK160.out 2
         have hfz11_3 := blk_frozen BK160.out 3
         have hfz11_4 := blk_frozen BK160.out 4
         have p161 : 0 ≤ (x3_1 : Int) := of_decide_eq_true (by first | (with_reducible assumption) | assumption)
         have q161 : x3_1 < (l0_3.length : Int) := of_decide_eq_true (by first | (with_reducible assumption) | assumption)
         obtain ⟨ad161, A161_2, c161_2, e161, hx161_0, hx161_1, hx161_2, hx161_3, hl161_2, hi161_2⟩ := at_T45 HR0_3.out x3_1 p161 q161
         cases e161
         replace hx161_0 := (HB.out.cell (World.block_lt_of_cell? w _ hx161_0)).trans hx161_0
         replace hx161_1 := (HB.out.cell (World.block_lt_of_cell? w _ hx161_1)).trans hx161_1
         replace hx161_2 := (HB.out.cell (World.block_lt_of_cell? w _ hx161_2)).trans hx161_2
         replace hx161_3 := (HB.out.cell (World.block_lt_of_cell? w _ hx161_3)).trans hx161_3
         have HR161_2 := Aside0.mk hi161_2
         have HC161_2 := Aside0.mk hl161_2
         clear hi161_2 hl161_2
         replace p161 := eq_true p161
         replace q161 := eq_true q161
         go_wp2
         go_ret
         exact ⟨by first | rfl | (simp [errW_none, errW_some] <;> rfl) | (simp [*, errW_none, errW_some] <;> rfl), by repeat (first | (with_reducible first | exact HB.out | apply below_alloc | apply pw_below_drewN | apply below_drew1 | refine below_set ?_ GE160.out) | exact HB.out)⟩
        ·rw [if_neg c10] at H
         have c10b0 : decide (12 < (((rd_T45 l0_3 x3_1).f2).length : Int)) = false := decide_eq_false c10
         have c10b1 : decide (12 < ((rd_T45 l0_3 x3_1).f2).length) = false := decide_eq_false (by omega)
         clear c10
         have H' := Aside0.mk H
         clear H
         have hcz12_0 : wc.cell? ⟨gb160, 0, none⟩ = some (.slice A0_0 l0_0.length c0_0) := (blk_cell BK160.out 0).trans rfl
         have hcz12_1 : wc.cell? ⟨gb160, 1, none⟩ = some (.slice A0_1 l0_1.length c0_1) := (blk_cell BK160.out 1).trans rfl
         have hcz12_2 : wc.cell? ⟨gb160, 2, none⟩ = some (.slice A0_2 l0_2.length c0_2) := (blk_cell BK160.out 2).trans rfl
         have hcz12_3 : wc.cell? ⟨gb160, 3, none⟩ = some (.slice A0_3 l0_3.length c0_3) := (blk_cell BK160.out 3).trans rfl
         have hcz12_4 : wc.cell? ⟨gb160, 4, none⟩ = some (.int .i64 a0_4) := (blk_cell BK160.out 4).trans rfl
         have hfz12_0 := blk_frozen BK160.out 0
         have hfz12_1 := blk_frozen BK160.out 1
         have hfz12_2 := blk_frozen BK160.out 2
         have hfz12_3 := blk_frozen BK160.out 3
         have hfz12_4 := blk_frozen BK160.out 4
         have p161 : 0 ≤ (x3_1 : Int) := of_decide_eq_true (by first | (with_reducible assumption) | assumption)
         have q161 : x3_1 < (l0_3.length : Int) := of_decide_eq_true (by first | (with_reducible assumption) | assumption)
         obtain ⟨ad161, A161_2, c161_2, e161, hx161_0, hx161_1, hx161_2, hx161_3, hl161_2, hi161_2⟩ := at_T45 HR0_3.out x3_1 p161 q161
         cases e161
         replace hx161_0 := (HB.out.cell (World.block_lt_of_cell? w _ hx161_0)).trans hx161_0
         replace hx161_1 := (HB.out.cell (World.block_lt_of_cell? w _ hx161_1)).trans hx161_1
         replace hx161_2 := (HB.out.cell (World.block_lt_of_cell? w _ hx161_2)).trans hx161_2
         replace hx161_3 := (HB.out.cell (World.block_lt_of_cell? w _ hx161_3)).trans hx161_3
         have HR161_2 := Aside0.mk hi161_2
         have HC161_2 := Aside0.mk hl161_2
         clear hi161_2 hl161_2
         replace p161 := eq_true p161
         replace q161 := eq_true q161
         go_wp2
         go_roundg kj2
         case measure => have := HK1.out; have := HJ2.out; omega
         case rel => exact ⟨(wrap64 (x3_1 + 1)), (by first | rfl | (simp; done) | (simp [*]; done)), H', ⟨by have := HK1.out; have := HJ2.out; omega⟩, ⟨by (with_reducible repeat (first | refine blk_drewN ?_ _ | refine blk_drew ?_ | refine blk_alloc ?_ _)); exact BK160.out⟩, ⟨by repeat (first | (with_reducible first | exact HB.out | apply below_alloc | apply pw_below_drewN | apply below_drew1 | refine below_set ?_ GE160.out) | exact HB.out)⟩⟩
       ·rw [if_neg c9] at H
        exact absurd H (by simp)
      ·rw [if_neg c8] at H
       exact absurd H (by simp)
     ·replace c7 := Bool.eq_false_iff.mpr c7
      subst c7
      have H1 : (if (l0_0.length : Int) ≤ 10 then (if (l0_2.length : Int) ≤ 8 then (if (l0_3.length : Int) ≤ 14 then (some (decide ((l0_1.length : Int) ≤ 30))) else (some false)) else (some false)) else (some false)) = some r := by rw [if_neg (show ¬ (false = true) by decide)] at H; exact H
      clear H
      have H := H1
      clear H1
      by_cases c13 : (l0_0.length : Int) ≤ 10
      ·rw [if_pos c13] at H
       have c13b0 : decide ((l0_0.length : Int) ≤ 10) = true := decide_eq_true c13
       have c13b1 : decide (l0_0.length ≤ 10) = true := decide_eq_true (by omega)
       clear c13
       by_cases c14 : (l0_2.length : Int) ≤ 8
       ·rw [if_pos c14] at H
        have c14b0 : decide ((l0_2.length : Int) ≤ 8) = true := decide_eq_true c14
        have c14b1 : decide (l0_2.length ≤ 8) = true := decide_eq_true (by omega)
        clear c14
        by_cases c15 : (l0_3.length : Int) ≤ 14
        ·rw [if_pos c15] at H
         have c15b0 : decide ((l0_3.length : Int) ≤ 14) = true := decide_eq_true c15
         have c15b1 : decide (l0_3.length ≤ 14) = true := decide_eq_true (by omega)
         clear c15
         obtain rfl := Option.some.inj H
         have hcz16_0 : wc.cell? ⟨gb160, 0, none⟩ = some (.slice A0_0 l0_0.length c0_0) := (blk_cell BK160.out 0).trans rfl
         have hcz16_1 : wc.cell? ⟨gb160, 1, none⟩ = some (.slice A0_1 l0_1.length c0_1) := (blk_cell BK160.out 1).trans rfl
         have hcz16_2 : wc.cell? ⟨gb160, 2, none⟩ = some (.slice A0_2 l0_2.length c0_2) := (blk_cell BK160.out 2).trans rfl
         have hcz16_3 : wc.cell? ⟨gb160, 3, none⟩ = some (.slice A0_3 l0_3.length c0_3) := (blk_cell BK160.out 3).trans rfl
         have hcz16_4 : wc.cell? ⟨gb160, 4, none⟩ = some (.int .i64 a0_4) := (blk_cell BK160.out 4).trans rfl
         have hfz16_0 := blk_frozen BK160.out 0
         have hfz16_1 := blk_frozen BK160.out 1
         have hfz16_2 := blk_frozen BK160.out 2
         have hfz16_3 := blk_frozen BK160.out 3
         have hfz16_4 := blk_frozen BK160.out 4
         go_wp2
         go_ret
         exact ⟨by first | rfl | (simp [errW_none, errW_some] <;> rfl) | (simp [*, errW_none, errW_some] <;> rfl), by repeat (first | (with_reducible first | exact HB.out | apply below_alloc | apply pw_below_drewN | apply below_drew1 | refine below_set ?_ GE160.out) | exact HB.out)⟩
        ·rw [if_neg c15] at H
         have c15b0 : decide ((l0_3.length : Int) ≤ 14) = false := decide_eq_false c15
         have c15b1 : decide (l0_3.length ≤ 14) = false := decide_eq_false (by omega)
         clear c15
         obtain rfl := Option.some.inj H
         have hcz17_0 : wc.cell? ⟨gb160, 0, none⟩ = some (.slice A0_0 l0_0.length c0_0) := (blk_cell BK160.out 0).trans rfl
         have hcz17_1 : wc.cell? ⟨gb160, 1, none⟩ = some (.slice A0_1 l0_1.length c0_1) := (blk_cell BK160.out 1).trans rfl
         have hcz17_2 : wc.cell? ⟨gb160, 2, none⟩ = some (.slice A0_2 l0_2.length c0_2) := (blk_cell BK160.out 2).trans rfl
         have hcz17_3 : wc.cell? ⟨gb160, 3, none⟩ = some (.slice A0_3 l0_3.length c0_3) := (blk_cell BK160.out 3).trans rfl
         have hcz17_4 : wc.cell? ⟨gb160, 4, none⟩ = some (.int .i64 a0_4) := (blk_cell BK160.out 4).trans rfl
         have hfz17_0 := blk_frozen BK160.out 0
         have hfz17_1 := blk_frozen BK160.out 1
         have hfz17_2 := blk_frozen BK160.out 2
         have hfz17_3 := blk_frozen BK160.out 3
         have hfz17_4 := blk_frozen BK160.out 4
         go_wp2
         go_ret
         exact ⟨by first | rfl | (simp [errW_none, errW_some] <;> rfl) | (simp [*, errW_none, errW_some] <;> rfl), by repeat (first | (with_reducible first | exact HB.out | apply below_alloc | apply pw_below_drewN | apply below_drew1 | refine below_set ?_ GE160.out) | exact HB.out)⟩
       ·rw [if_neg c14] at H
        have c14b0 : decide ((l0_2.length : Int) ≤ 8) = false := decide_eq_false c14
        have c14b1 : decide (l0_2.length ≤ 8) = false := decide_eq_false (by omega)
        clear c14
        obtain rfl := Option.some.inj H
        have hcz18_0 : wc.cell? ⟨gb160, 0, none⟩ = some (.slice A0_0 l0_0.length c0_0) := (blk_cell BK160.out 0).trans rfl
        have hcz18_1 : wc.cell? ⟨gb160, 1, none⟩ = some (.slice A0_1 l0_1.length c0_1) := (blk_cell BK160.out 1).trans rfl
        have hcz18_2 : wc.cell? ⟨gb160, 2, none⟩ = some (.slice A0_2 l0_2.length c0_2) := (blk_cell BK160.out 2).trans rfl
        have hcz18_3 : wc.cell? ⟨gb160, 3, none⟩ = some (.slice A0_3 l0_3.length c0_3) := (blk_cell BK160.out 3).trans rfl
        have hcz18_4 : wc.cell? ⟨gb160, 4, none⟩ = some (.int .i64 a0_4) := (blk_cell BK160.out 4).trans rfl
        have hfz18_0 := blk_frozen BK160.out 0
        have hfz18_1 := blk_frozen BK160.out 1
        have hfz18_2 := blk_frozen BK160.out 2
        have hfz18_3 := blk_frozen BK160.out 3
        have hfz18_4 := blk_frozen BK160.out 4
        go_wp2
        go_ret
        exact ⟨by first | rfl | (simp [errW_none, errW_some] <;> rfl) | (simp [*, errW_none, errW_some] <;> rfl), by repeat (first | (with_reducible first | exact HB.out | apply below_alloc | apply pw_below_drewN | apply below_drew1 | refine below_set ?_ GE160.out) | exact HB.out)⟩
      ·rw [if_neg c13] at H
       have c13b0 : decide ((l0_0.length : Int) ≤ 10) = false := decide_eq_false c13
       have c13b1 : decide (l0_0.length ≤ 10) = false := decide_eq_false (by omega)
       clear c13
       obtain rfl := Option.some.inj H
       have hcz19_0 : wc.cell? ⟨gb160, 0, none⟩ = some (.slice A0_0 l0_0.length c0_0) := (blk_cell BK160.out 0).trans rfl
       have hcz19_1 : wc.cell? ⟨gb160, 1, none⟩ = some (.slice A0_1 l0_1.length c0_1) := (blk_cell BK160.out 1).trans rfl
       have hcz19_2 : wc.cell? ⟨gb160, 2, none⟩ = some (.slice A0_2 l0_2.length c0_2) := (blk_cell BK160.out 2).trans rfl
       have hcz19_3 : wc.cell? ⟨gb160, 3, none⟩ = some (.slice A0_3 l0_3.length c0_3) := (blk_cell BK160.out 3).trans rfl
       have hcz19_4 : wc.cell? ⟨gb160, 4, none⟩ = some (.int .i64 a0_4) := (blk_cell BK160.out 4).trans rfl
       have hfz19_0 := blk_frozen BK160.out 0
       have hfz19_1 := blk_frozen BK160.out 1
       have hfz19_2 := blk_frozen BK160.out 2
       have hfz19_3 := blk_frozen BK160.out 3
       have hfz19_4 := blk_frozen BK160.out 4
       go_wp2
       go_ret
       exact ⟨by first | rfl | (simp [errW_none, errW_some] <;> rfl) | (simp [*, errW_none, errW_some] <;> rfl), by repeat (first | (with_reducible first | exact HB.out | apply below_alloc | apply pw_below_drewN | apply below_drew1 | refine below_set ?_ GE160.out) | exact HB.out)⟩

end Go.Proofs.Ytggfiopajogiiaa.P
end

section
namespace Go.Proofs.Ytggfiopajogiiaa.P
open Go.RowKit Go.Proofs.YtggfiopajogiiaaW.PrintWords

def inst_Valid.f (l0 : List S51) (l1 : List S63) (l2 : List ByteArray) (l3 : List S45) (st : Int) : Option Bool := some (validB l0 l1 l2 l3 st)
theorem inst_Valid.calls (A0 : Option Addr) (c0 : Nat) (l0 : List S51) (A1 : Option Addr) (c1 : Nat) (l1 : List S63) (A2 : Option Addr) (c2 : Nat) (l2 : List ByteArray) (A3 : Option Addr) (c3 : Nat) (l3 : List S45) (st : Int) (r : Bool) (w : World)
  (hr0 : Kd.C k51 w A0 l0.length l0) (_ : l0.length ≤ c0) (hr1 : Kd.C k63 w A1 l1.length l1) (_ : l1.length ≤ c1) (hr2 : Kd.C Kd.string w A2 l2.length l2) (_ : l2.length ≤ c2) (hr3 : Kd.C k45 w A3 l3.length l3) (_ : l3.length ≤ c3) (h : inst_Valid.f l0 l1 l2 l3 st = some r) :
  Calls Try.prog 23 #[.agg #[.slice A0 l0.length c0, .slice A1 l1.length c1, .slice A2 l2.length c2, .slice A3 l3.length c3, .int .i64 st]] w fun e w' => e = .returned (.bool r) ∧ Below w.heap.size w w' := by
 have e : validB l0 l1 l2 l3 st = r := by unfold inst_Valid.f at h; exact Option.some.inj h
 rw [← e]
 exact valid_calls A0 c0 l0 A1 c1 l1 A2 c2 l2 A3 c3 l3 st w hr0 hr1 hr2 hr3
end Go.Proofs.Ytggfiopajogiiaa.P
end

section
set_option linter.unusedVariables false
set_option linter.unusedSimpArgs false
namespace Go.Proofs.Ytggfiopajogiiaa.P
open Go.Proofs.Ytggfiopajogiiaa.Base Go.RowKit Go.Proofs.YtggfiopajogiiaaW.PrintWords Go.Proofs.YtggfiopajogiiaaW.PrintLast Go.Proofs.YtggfiopajogiiaaW.PrintMore

def bad5 (l0 : List S51) (l2 : List ByteArray) (l3 : List S45) (st : Int) : Bool := decide (60 < l0.length) || decide (60 < l2.length) || decide (120 < l3.length) || decide (st < 0) || decide ((l2.length : Int) ≤ st)
section
variable {l0 : List S51} {l1 : List S63} {l2 : List ByteArray} {l3 : List S45} {st : Int}
theorem not_five (h : bad5 l0 l2 l3 st = true) : validB l0 l1 l2 l3 st = false := by
 simp only [bad5, Bool.or_eq_true, decide_eq_true_eq] at h
 rw [Bool.eq_false_iff]
 intro hv
 simp only [validB, Bool.and_eq_true, Bool.not_eq_true', decide_eq_false_iff_not, inB, decide_eq_true_eq] at hv
 obtain ⟨⟨⟨⟨⟨⟨⟨⟨h0, h1⟩, h2⟩, h3⟩, -⟩, -⟩, -⟩, -⟩, -⟩ := hv
 omega
theorem not_over (h : l1.all (pairB l0.length) = false) : validB l0 l1 l2 l3 st = false := by simp [validB, h]
theorem not_prods (h : l3.all (prodB l0.length l2.length) = false) : validB l0 l1 l2 l3 st = false := by simp [validB, h]
theorem not_sorts (h : rises (rdOf ByteArray.empty l2) l2.length = false) : validB l0 l1 l2 l3 st = false := by simp [validB, h]
theorem not_terms (h : rises (fun i => (rd_T51 l0 i).f0) l0.length = false) : validB l0 l1 l2 l3 st = false := by simp [validB, h]
theorem not_labels (h : rises (fun i => (rd_T45 l3 i).f0) l3.length = false) : validB l0 l1 l2 l3 st = false := by simp [validB, h]
theorem all_valid (h : bad5 l0 l2 l3 st = false) (h1 : l1.all (pairB l0.length) = true) (h2 : l3.all (prodB l0.length l2.length) = true) (h3 : rises (rdOf ByteArray.empty l2) l2.length = true) (h4 : rises (fun i => (rd_T51 l0 i).f0) l0.length = true) (h5 : rises (fun i => (rd_T45 l3 i).f0) l3.length = true) : validB l0 l1 l2 l3 st = true := by
 simp only [bad5, Bool.or_eq_false_iff, decide_eq_false_iff_not] at h
 obtain ⟨⟨⟨⟨g0, g1⟩, g2⟩, g3⟩, g4⟩ := h
 simp only [validB, h1, h2, h3, h4, h5, inB, Bool.and_true, Bool.and_eq_true, Bool.not_eq_true', decide_eq_false_iff_not, decide_eq_true_eq]
 exact ⟨⟨⟨g0, g1⟩, g2⟩, by omega, by omega⟩
theorem odd_is (T S : Nat) (s : Int) (hS : S ≤ 60) (hs : -9223372036854775808 ≤ s ∧ s ≤ 9223372036854775807) : oddB T S s = (decide ((T : Int) ≤ s) || decide (s < -(S : Int))) := by
 unfold oddB inB
 by_cases h0 : 0 ≤ s
 ·rw [decide_eq_true h0, decide_eq_false (by omega : ¬ s < 0), decide_eq_false (by omega : ¬ s < -(S : Int))]
  by_cases h1 : s < T
  ·rw [decide_eq_true h1, decide_eq_false (by omega : ¬ (T : Int) ≤ s)]; rfl
  ·rw [decide_eq_false h1, decide_eq_true (by omega : (T : Int) ≤ s)]; rfl
 ·rw [decide_eq_false h0, decide_eq_true (by omega : s < 0), decide_eq_false (by omega : ¬ (T : Int) ≤ s), IntWalk.i64_in _ (by omega), decide_eq_true (by omega : 0 ≤ -1 - s)]
  by_cases h1 : -1 - s < S
  ·rw [decide_eq_true h1, decide_eq_false (by omega : ¬ s < -(S : Int))]; rfl
  ·rw [decide_eq_false h1, decide_eq_true (by omega : s < -(S : Int))]; rfl
theorem RisesTo.down {f : Int → ByteArray} {k n : Nat} (h : RisesTo f k) (hn : n ≤ k) : RisesTo f n := fun i h0 hi => h i h0 (by omega)
end
theorem fives {w w' : World} {gb : Nat} {u0 u1 u2 u3 u4 : Value} (hb : Below w.heap.size w w') (h : w.cell? ⟨gb, 0, none⟩ = some u0 ∧ w.cell? ⟨gb, 1, none⟩ = some u1 ∧ w.cell? ⟨gb, 2, none⟩ = some u2 ∧ w.cell? ⟨gb, 3, none⟩ = some u3 ∧ w.cell? ⟨gb, 4, none⟩ = some u4) :
  w'.cell? ⟨gb, 0, none⟩ = some u0 ∧ w'.cell? ⟨gb, 1, none⟩ = some u1 ∧ w'.cell? ⟨gb, 2, none⟩ = some u2 ∧ w'.cell? ⟨gb, 3, none⟩ = some u3 ∧ w'.cell? ⟨gb, 4, none⟩ = some u4 :=
 ⟨pw_cell_below hb h.1, pw_cell_below hb h.2.1, pw_cell_below hb h.2.2.1, pw_cell_below hb h.2.2.2.1, pw_cell_below hb h.2.2.2.2⟩

set_option maxHeartbeats 8000000 in
set_option maxRecDepth 100000 in
theorem refv_walk (A0 : Option Addr) (c0 : Nat) (l0 : List S51) (A1 : Option Addr) (c1 : Nat) (l1 : List S63) (A2 : Option Addr) (c2 : Nat) (l2 : List ByteArray) (A3 : Option Addr) (c3 : Nat) (l3 : List S45) (st : Int) (w : World)
  (hr0 : Kd.C k51 w A0 l0.length l0) (hr1 : Kd.C k63 w A1 l1.length l1) (hr2 : Kd.C Kd.string w A2 l2.length l2) (hr3 : Kd.C k45 w A3 l3.length l3) (hrg : ∀ p ∈ l3, ∀ s ∈ p.f2, -9223372036854775808 ≤ s ∧ s ≤ 9223372036854775807) :
  Calls Try.prog 28 #[.agg #[.slice A0 l0.length c0, .slice A1 l1.length c1, .slice A2 l2.length c2, .slice A3 l3.length c3, .int .i64 st]] w fun e w' => e = .returned (.bool (validB l0 l1 l2 l3 st)) ∧ Below w.heap.size w w' := by
 have HR0 := Aside0.mk hr0
 have HR1 := Aside0.mk hr1
 have HR2 := Aside0.mk hr2
 have HR3 := Aside0.mk hr3
 have HRG := Aside0.mk hrg
 have hm0 : l0.length ≤ 9223372036854775807 := hr0.2.1
 have hm1 : l1.length ≤ 9223372036854775807 := hr1.2.1
 have hm2 : l2.length ≤ 9223372036854775807 := hr2.2.1
 have hm3 : l3.length ≤ 9223372036854775807 := hr3.2.1
 clear hr0 hr1 hr2 hr3 hrg
 have hu27 := Try.underlying27
 have hu45 := Try.underlying45
 have hu51 := Try.underlying51
 have hu63 := Try.underlying63
 go_enter Try.func28, Try.ntmps28
 go_upto_region 1 with fail
 have HB : Aside0 (Below w.heap.size w (w.alloc (Obj.cells #[.slice A0 l0.length c0, .slice A1 l1.length c1, .slice A2 l2.length c2, .slice A3 l3.length c3, .int .i64 st] 27))) := ⟨below_alloc (Below.refl _ _) _⟩
 have hY : (w.alloc (Obj.cells #[.slice A0 l0.length c0, .slice A1 l1.length c1, .slice A2 l2.length c2, .slice A3 l3.length c3, .int .i64 st] 27)).cell? ⟨w.heap.size, 0, none⟩ = some (.slice A0 l0.length c0) ∧ (w.alloc (Obj.cells #[.slice A0 l0.length c0, .slice A1 l1.length c1, .slice A2 l2.length c2, .slice A3 l3.length c3, .int .i64 st] 27)).cell? ⟨w.heap.size, 1, none⟩ = some (.slice A1 l1.length c1) ∧ (w.alloc (Obj.cells #[.slice A0 l0.length c0, .slice A1 l1.length c1, .slice A2 l2.length c2, .slice A3 l3.length c3, .int .i64 st] 27)).cell? ⟨w.heap.size, 2, none⟩ = some (.slice A2 l2.length c2) ∧ (w.alloc (Obj.cells #[.slice A0 l0.length c0, .slice A1 l1.length c1, .slice A2 l2.length c2, .slice A3 l3.length c3, .int .i64 st] 27)).cell? ⟨w.heap.size, 3, none⟩ = some (.slice A3 l3.length c3) ∧ (w.alloc (Obj.cells #[.slice A0 l0.length c0, .slice A1 l1.length c1, .slice A2 l2.length c2, .slice A3 l3.length c3, .int .i64 st] 27)).cell? ⟨w.heap.size, 4, none⟩ = some (.int .i64 st) := by
  refine ⟨?_, ?_, ?_, ?_, ?_⟩ <;> go_simp
 generalize w.alloc (Obj.cells #[.slice A0 l0.length c0, .slice A1 l1.length c1, .slice A2 l2.length c2, .slice A3 l3.length c3, .int .i64 st] 27) = w1 at *
 replace hY := Aside0.mk hY
 obtain ⟨z0, z1, z2, z3, z4⟩ := hY.out
 go_upto_region 3 with fail
 go_cut [39] from 17 to 39 (fun v39 wc => ∃ b : Bool, v39 = .bool b ∧ Aside0 (Below w1.heap.size w1 wc) ∧ Aside0 (bad5 l0 l2 l3 st = b))
 case first =>
  by_cases g1 : 60 < l0.length
  ·have d1 : decide (60 < l0.length) = true := decide_eq_true g1
   have e1 : Aside0 (bad5 l0 l2 l3 st = true) := ⟨by unfold bad5; rw [d1]; rfl⟩
   go_wp2_with fail
   go_meet
   exact ⟨true, by first | rfl | (simp; omega), ⟨Below.refl _ _⟩, e1⟩
  ·have d1 : decide (60 < l0.length) = false := decide_eq_false g1
   by_cases g2 : 60 < l2.length
   ·have d2 : decide (60 < l2.length) = true := decide_eq_true g2
    have e1 : Aside0 (bad5 l0 l2 l3 st = true) := ⟨by unfold bad5; rw [d1, d2]; rfl⟩
    go_wp2_with fail
    go_meet
    exact ⟨true, by first | rfl | (simp; omega), ⟨Below.refl _ _⟩, e1⟩
   ·have d2 : decide (60 < l2.length) = false := decide_eq_false g2
    by_cases g3 : 120 < l3.length
    ·have d3 : decide (120 < l3.length) = true := decide_eq_true g3
     have e1 : Aside0 (bad5 l0 l2 l3 st = true) := ⟨by unfold bad5; rw [d1, d2, d3]; rfl⟩
     go_wp2_with fail
     go_meet
     exact ⟨true, by first | rfl | (simp; omega), ⟨Below.refl _ _⟩, e1⟩
    ·have d3 : decide (120 < l3.length) = false := decide_eq_false g3
     by_cases g4 : st < 0
     ·have d4 : decide (st < 0) = true := decide_eq_true g4
      have e1 : Aside0 (bad5 l0 l2 l3 st = true) := ⟨by unfold bad5; rw [d1, d2, d3, d4]; rfl⟩
      go_wp2_with fail
      go_meet
      exact ⟨true, by first | rfl | (simp; omega), ⟨Below.refl _ _⟩, e1⟩
     ·have d4 : decide (st < 0) = false := decide_eq_false g4
      by_cases g5 : (l2.length : Int) ≤ st
      ·have d5 : decide ((l2.length : Int) ≤ st) = true := decide_eq_true g5
       have e1 : Aside0 (bad5 l0 l2 l3 st = true) := ⟨by unfold bad5; rw [d1, d2, d3, d4, d5]; rfl⟩
       go_wp2_with fail
       go_meet
       exact ⟨true, by first | rfl | (simp; omega), ⟨Below.refl _ _⟩, e1⟩
      ·have d5 : decide ((l2.length : Int) ≤ st) = false := decide_eq_false g5
       have e1 : Aside0 (bad5 l0 l2 l3 st = false) := ⟨by unfold bad5; rw [d1, d2, d3, d4, d5]; rfl⟩
       go_wp2_with fail
       go_meet
       exact ⟨false, by first | rfl | (simp; omega), ⟨Below.refl _ _⟩, e1⟩
 case rest =>
  obtain ⟨b, rfl, HB1, H5⟩ := hcut
  clear z0 z1 z2 z3 z4
  obtain ⟨w2, rfl⟩ : ∃ x, x = wc := ⟨_, rfl⟩
  have HBw : Aside0 (Below w.heap.size w w2) := ⟨below_step HB.out HB1.out⟩
  have hY2 := Aside0.mk (fives HB1.out hY.out)
  clear hY HB HB1
  cases b
  ·have hS : l2.length ≤ 60 := by
    have := H5.out
    simp only [bad5, Bool.or_eq_false_iff, decide_eq_false_iff_not] at this
    omega
   have HR0' := Aside0.mk (Kd.C_below HR0.out HBw.out)
   have HR1' := Aside0.mk (Kd.C_below HR1.out HBw.out)
   have HR2' := Aside0.mk (Kd.C_below HR2.out HBw.out)
   have HR3' := Aside0.mk (Kd.C_below HR3.out HBw.out)
   clear HR0 HR1 HR2 HR3
   obtain ⟨z0, z1, z2, z3, z4⟩ := hY2.out
   go_wp2
   clear z0 z1 z2 z3 z4
   go_loopw [5] (fun v wr => ∃ i : Nat, v = .int .i64 i ∧ i ≤ l1.length ∧ Aside0 ((l1.take i).all (pairB l0.length) = true) ∧ Aside0 (Below w2.heap.size w2 wr)) (fun v _ => l1.length - (intOf v).toNat)
   case atStart => exact ⟨0, rfl, Nat.zero_le _, ⟨by simp⟩, ⟨Below.refl _ _⟩⟩
   case round =>
    obtain ⟨i, rfl, hi, HA, HBR⟩ := hrel
    obtain ⟨z0, z1, z2, z3, z4⟩ := fives HBR.out hY2.out
    by_cases hlt : i < l1.length
    ·have hltb : decide (i < l1.length) = true := decide_eq_true hlt
     obtain ⟨ad, e1, hx0, hx1⟩ := at_T63 (Kd.C_below HR1'.out HBR.out) (i : Int) (by omega) (by omega)
     rw [Int.toNat_natCast] at hx0 hx1
     obtain ⟨q, hq⟩ : ∃ q, rd_T63 l1 i = q := ⟨_, rfl⟩
     rw [hq] at hx0 hx1
     have HQ : Aside0 (l1[i] = q) := ⟨by rw [← hq, rd63_at l1 i hlt]⟩
     clear hq
     subst e1
     obtain ⟨qa, hqa⟩ : ∃ a, q.f0 = a := ⟨_, rfl⟩
     obtain ⟨qb, hqb⟩ : ∃ a, q.f1 = a := ⟨_, rfl⟩
     rw [hqa] at hx0
     rw [hqb] at hx1
     have HP : Aside0 (pairB l0.length q = (inB qa l0.length && inB qb l0.length)) := ⟨by unfold pairB; rw [hqa, hqb]⟩
     clear hqa hqb
     go_upto_region 8 with fail
     go_cut [82] from 47 to 82 (fun v82 wc => ∃ b : Bool, v82 = .bool b ∧ Aside0 (Below w2.heap.size w2 wc) ∧ Aside0 (pairB l0.length q = !b))
     case first =>
      by_cases g1 : qa < 0
      ·have d1 : decide (qa < 0) = true := decide_eq_true g1
       have e1 : Aside0 (pairB l0.length q = false) := ⟨by rw [HP.out]; unfold inB; rw [decide_eq_false (by omega : ¬ 0 ≤ qa)]; rfl⟩
       go_wp2_with fail
       go_meet
       exact ⟨true, rfl, HBR, e1⟩
      ·have d1 : decide (qa < 0) = false := decide_eq_false g1
       by_cases g2 : (l0.length : Int) ≤ qa
       ·have d2 : decide ((l0.length : Int) ≤ qa) = true := decide_eq_true g2
        have e1 : Aside0 (pairB l0.length q = false) := ⟨by rw [HP.out]; unfold inB; rw [decide_eq_false (by omega : ¬ qa < l0.length), Bool.and_false]; rfl⟩
        go_wp2_with fail
        go_meet
        exact ⟨true, rfl, HBR, e1⟩
       ·have d2 : decide ((l0.length : Int) ≤ qa) = false := decide_eq_false g2
        by_cases g3 : qb < 0
        ·have d3 : decide (qb < 0) = true := decide_eq_true g3
         have e1 : Aside0 (pairB l0.length q = false) := ⟨by rw [HP.out]; unfold inB; rw [decide_eq_false (by omega : ¬ 0 ≤ qb), Bool.false_and, Bool.and_false]⟩
         go_wp2_with fail
         go_meet
         exact ⟨true, rfl, HBR, e1⟩
        ·have d3 : decide (qb < 0) = false := decide_eq_false g3
         by_cases g4 : (l0.length : Int) ≤ qb
         ·have d4 : decide ((l0.length : Int) ≤ qb) = true := decide_eq_true g4
          have e1 : Aside0 (pairB l0.length q = false) := ⟨by rw [HP.out]; unfold inB; rw [decide_eq_false (by omega : ¬ qb < l0.length), Bool.and_false, Bool.and_false]⟩
          go_wp2_with fail
          go_meet
          exact ⟨true, rfl, HBR, e1⟩
         ·have d4 : decide ((l0.length : Int) ≤ qb) = false := decide_eq_false g4
          have e1 : Aside0 (pairB l0.length q = true) := ⟨by rw [HP.out]; unfold inB; rw [decide_eq_true (by omega : 0 ≤ qa), decide_eq_true (by omega : qa < l0.length), decide_eq_true (by omega : 0 ≤ qb), decide_eq_true (by omega : qb < l0.length)]; rfl⟩
          go_wp2_with fail
          go_meet
          exact ⟨false, rfl, HBR, e1⟩
     case rest =>
      obtain ⟨b, rfl, HB2, HP2⟩ := hcut
      cases b
      ·go_wp2
       exact ⟨⟨i + 1, rfl, by omega, ⟨by rw [all_take _ _ i hlt, HA.out, HQ.out, HP2.out]; rfl⟩, HB2⟩, by simp [intOf]; omega⟩
      ·go_wp2
       go_ret
       exact ⟨by rw [not_over (by rw [all_part _ _ i hlt, HQ.out, HP2.out]; simp)]; rfl, below_step HBw.out HB2.out⟩
    ·have hltb : decide (i < l1.length) = false := decide_eq_false hlt
     have HOV : Aside0 (l1.all (pairB l0.length) = true) := ⟨by have := HA.out; rwa [List.take_of_length_le (by omega)] at this⟩
     clear HA hlt
     obtain ⟨w3, rfl⟩ : ∃ x, x = wr := ⟨_, rfl⟩
     have HB3 : Aside0 (Below w.heap.size w w3) := ⟨below_step HBw.out HBR.out⟩
     have hY3 := Aside0.mk (fives HBR.out hY2.out)
     have HR0'' := Aside0.mk (Kd.C_below HR0'.out HBR.out)
     have HR2'' := Aside0.mk (Kd.C_below HR2'.out HBR.out)
     have HR3'' := Aside0.mk (Kd.C_below HR3'.out HBR.out)
     clear HR0' HR1' HR2' HR3' HBw hY2 HBR
     go_wp2
     clear z0 z1 z2 z3 z4 hltb
     go_loopw [6] (fun v wr => ∃ k : Nat, v = .int .i64 k ∧ 1 ≤ k ∧ (k ≤ l0.length ∨ k = 1) ∧ Aside0 (RisesTo (fun i => (rd_T51 l0 i).f0) k) ∧ Aside0 (Below w3.heap.size w3 wr)) (fun v _ => l0.length - (intOf v).toNat)
     case atStart => exact ⟨1, rfl, Nat.le_refl _, .inr rfl, ⟨fun i h0 hi => by omega⟩, ⟨Below.refl _ _⟩⟩
     case round =>
      obtain ⟨k, rfl, hk1, hk, HT, HBR⟩ := hrel
      obtain ⟨z0, z1, z2, z3, z4⟩ := fives HBR.out hY3.out
      by_cases hlt : k < l0.length
      ·have hltb : decide (k < l0.length) = true := decide_eq_true hlt
       obtain ⟨j, hj⟩ : ∃ j : Int, (k : Int) - 1 = j := ⟨_, rfl⟩
       obtain ⟨ad, e1, hx1, -⟩ := at_T51 (Kd.C_below HR0''.out HBR.out) j (by omega) (by omega)
       obtain ⟨ad', e2, hx2, -⟩ := at_T51 (Kd.C_below HR0''.out HBR.out) (k : Int) (by omega) (by omega)
       obtain rfl : ad = ad' := Option.some.inj (e1.symm.trans e2)
       subst e1
       clear e2
       rw [Int.toNat_natCast] at hx2
       have q2 : (0 ≤ j) = True := eq_true (by omega)
       have q3 : (j < (l0.length : Int)) = True := eq_true (by omega)
       have hw : IntKind.i64.wrap ((k : Int) - 1) = j := by rw [IntWalk.i64_in _ (by omega)]; exact hj
       have HJ := Aside0.mk hj
       clear hj
       cases hb : Op.bytesLess (rd_T51 l0 j).f0.toList (rd_T51 l0 (k : Int)).f0.toList
       ·go_wp2
        go_quiet (fail)
        go_wp2
        go_ret
        exact ⟨by rw [not_terms (rises_not k (by omega) hlt (by rw [HJ.out]; exact hb))]; rfl, pw_below_drewN (below_step HB3.out HBR.out) _⟩
       ·go_wp2
        go_quiet (fail)
        go_wp2
        exact ⟨⟨k + 1, rfl, by omega, by omega, ⟨HT.out.step (.inr (by rw [HJ.out]; exact hb))⟩, ⟨pw_below_drewN HBR.out _⟩⟩, by simp [intOf]; omega⟩
      ·have hltb : decide (k < l0.length) = false := decide_eq_false hlt
       have HTE : Aside0 (rises (fun i => (rd_T51 l0 i).f0) l0.length = true) := ⟨rises_all (HT.out.down (by omega))⟩
       clear HT hlt hk hk1
       obtain ⟨w4, rfl⟩ : ∃ x, x = wr := ⟨_, rfl⟩
       have HB4 : Aside0 (Below w.heap.size w w4) := ⟨below_step HB3.out HBR.out⟩
       have hY4 := Aside0.mk (fives HBR.out hY3.out)
       have HR2' := Aside0.mk (Kd.C_below HR2''.out HBR.out)
       have HR3' := Aside0.mk (Kd.C_below HR3''.out HBR.out)
       clear HR0'' HR2'' HR3'' HB3 hY3 HBR
       go_wp2
       clear z0 z1 z2 z3 z4 hltb
       go_loopw [7] (fun v wr => ∃ k : Nat, v = .int .i64 k ∧ 1 ≤ k ∧ (k ≤ l2.length ∨ k = 1) ∧ Aside0 (RisesTo (rdOf ByteArray.empty l2) k) ∧ Aside0 (Below w4.heap.size w4 wr)) (fun v _ => l2.length - (intOf v).toNat)
       case atStart => exact ⟨1, rfl, Nat.le_refl _, .inr rfl, ⟨fun i h0 hi => by omega⟩, ⟨Below.refl _ _⟩⟩
       case round =>
        obtain ⟨k, rfl, hk1, hk, HT, HBR⟩ := hrel
        obtain ⟨z0, z1, z2, z3, z4⟩ := fives HBR.out hY4.out
        by_cases hlt : k < l2.length
        ·have hltb : decide (k < l2.length) = true := decide_eq_true hlt
         obtain ⟨j, hj⟩ : ∃ j : Int, (k : Int) - 1 = j := ⟨_, rfl⟩
         obtain ⟨ad, e1, hx1⟩ := Kd.at_string (Kd.C_below HR2'.out HBR.out) j (by omega) (by omega)
         obtain ⟨ad', e2, hx2⟩ := Kd.at_string (Kd.C_below HR2'.out HBR.out) (k : Int) (by omega) (by omega)
         obtain rfl : ad = ad' := Option.some.inj (e1.symm.trans e2)
         subst e1
         clear e2
         rw [Int.toNat_natCast] at hx2
         have q2 : (0 ≤ j) = True := eq_true (by omega)
         have q3 : (j < (l2.length : Int)) = True := eq_true (by omega)
         have hw : IntKind.i64.wrap ((k : Int) - 1) = j := by rw [IntWalk.i64_in _ (by omega)]; exact hj
         have HJ := Aside0.mk hj
         clear hj
         cases hb : Op.bytesLess (rdOf ByteArray.empty l2 j).toList (rdOf ByteArray.empty l2 (k : Int)).toList
         ·go_wp2
          go_quiet (fail)
          go_wp2
          go_ret
          exact ⟨by rw [not_sorts (rises_not k (by omega) hlt (by rw [HJ.out]; exact hb))]; rfl, pw_below_drewN (below_step HB4.out HBR.out) _⟩
         ·go_wp2
          go_quiet (fail)
          go_wp2
          exact ⟨⟨k + 1, rfl, by omega, by omega, ⟨HT.out.step (.inr (by rw [HJ.out]; exact hb))⟩, ⟨pw_below_drewN HBR.out _⟩⟩, by simp [intOf]; omega⟩
        ·have hltb : decide (k < l2.length) = false := decide_eq_false hlt
         have HSE : Aside0 (rises (rdOf ByteArray.empty l2) l2.length = true) := ⟨rises_all (HT.out.down (by omega))⟩
         clear HT hlt hk hk1
         obtain ⟨w5, rfl⟩ : ∃ x, x = wr := ⟨_, rfl⟩
         have HB5 : Aside0 (Below w.heap.size w w5) := ⟨below_step HB4.out HBR.out⟩
         have hY5 := Aside0.mk (fives HBR.out hY4.out)
         have HR3 := Aside0.mk (Kd.C_below HR3'.out HBR.out)
         clear HR2' HR3' HB4 hY4 HBR
         go_wp2
         clear z0 z1 z2 z3 z4 hltb
         go_loopw [8] (fun v wr => ∃ i : Nat, v = .int .i64 i ∧ i ≤ l3.length ∧ Aside0 (RisesTo (fun i => (rd_T45 l3 i).f0) i) ∧ Aside0 ((l3.take i).all (prodB l0.length l2.length) = true) ∧ Aside0 (Below w5.heap.size w5 wr)) (fun v _ => l3.length - (intOf v).toNat)
         case atStart => exact ⟨0, rfl, Nat.zero_le _, ⟨fun i h0 hi => by omega⟩, ⟨by simp⟩, ⟨Below.refl _ _⟩⟩
         case round =>
          obtain ⟨i, rfl, hi, HT, HA, HBR⟩ := hrel
          obtain ⟨z0, z1, z2, z3, z4⟩ := fives HBR.out hY5.out
          by_cases hlt : i < l3.length
          ·have hltb : decide (i < l3.length) = true := decide_eq_true hlt
           obtain ⟨ad, A4, c4, e4, hx1, hx2, hx3, hx4, hcap, hr4⟩ := at_T45 (Kd.C_below HR3.out HBR.out) (i : Int) (by omega) (by omega)
           rw [Int.toNat_natCast] at hx1 hx2 hx3 hx4
           obtain ⟨p, hp⟩ : ∃ p, rd_T45 l3 i = p := ⟨_, rfl⟩
           rw [hp] at hx1 hx2 hx3 hx4 hr4 hcap
           have HPI := Aside0.mk hp
           have HPK : Aside0 (l3[i] = p) := ⟨by rw [← hp, rd45_at l3 i hlt]⟩
           have HM : Aside0 (p ∈ l3) := ⟨by rw [← HPK.out]; exact List.getElem_mem hlt⟩
           have hbad : prodB l0.length l2.length p = false → validB l0 l1 l2 l3 st = false := fun h => not_prods (by rw [all_part _ _ i hlt, HPK.out, h]; simp)
           have HBD := Aside0.mk hbad
           clear hp hcap hbad
           subst e4
           obtain ⟨nl, hnl⟩ : ∃ nl, p.f2.length = nl := ⟨_, rfl⟩
           obtain ⟨lab, hlab⟩ : ∃ lab, p.f0 = lab := ⟨_, rfl⟩
           obtain ⟨srt, hsrt⟩ : ∃ srt, p.f1 = srt := ⟨_, rfl⟩
           obtain ⟨cls, hcls⟩ : ∃ cls, p.f3 = cls := ⟨_, rfl⟩
           rw [hlab] at hx1
           rw [hsrt] at hx2
           rw [hnl] at hx3
           rw [hcls] at hx4
           have HPB : Aside0 (prodB l0.length l2.length p = (inB srt l2.length && !decide (12 < nl) && !p.f2.any (oddB l0.length l2.length))) := ⟨by unfold prodB; rw [hsrt, hnl]⟩
           have HNL := Aside0.mk hnl
           have HLB := Aside0.mk hlab
           have HR4 := Aside0.mk hr4
           clear hlab hnl hcls hsrt hr4
           go_upto_region 24 with fail
           have HZ : Aside0 (Below wr.heap.size wr (wr.alloc (Obj.cells #[.string lab, .int .i64 srt, .slice A4 nl c4, .int .i64 cls] 45))) := ⟨below_alloc (Below.refl _ _) _⟩
           have x0 : (wr.alloc (Obj.cells #[.string lab, .int .i64 srt, .slice A4 nl c4, .int .i64 cls] 45)).cell? ⟨wr.heap.size, 0, none⟩ = some (.string lab) := by go_simp
           have x1 : (wr.alloc (Obj.cells #[.string lab, .int .i64 srt, .slice A4 nl c4, .int .i64 cls] 45)).cell? ⟨wr.heap.size, 1, none⟩ = some (.int .i64 srt) := by go_simp
           have x2 : (wr.alloc (Obj.cells #[.string lab, .int .i64 srt, .slice A4 nl c4, .int .i64 cls] 45)).cell? ⟨wr.heap.size, 2, none⟩ = some (.slice A4 nl c4) := by go_simp
           generalize wr.alloc (Obj.cells #[.string lab, .int .i64 srt, .slice A4 nl c4, .int .i64 cls] 45) = wz at *
           have HBZ : Aside0 (Below w5.heap.size w5 wz) := ⟨below_step HBR.out HZ.out⟩
           have HBwZ : Aside0 (Below w.heap.size w wz) := ⟨below_step HB5.out HBZ.out⟩
           have HR4Z := Aside0.mk (Kd.C_below HR4.out HZ.out)
           clear hx1 hx2 hx3 hx4 z0 z1 z2 z3 z4
           obtain ⟨z0, z1, z2, z3, z4⟩ := fives HBZ.out hY5.out
           have X2 := Aside0.mk x2
           clear HR4
           generalize wr.heap.size = gy at x0 x1 x2 X2 ⊢
           obtain ⟨wo, rfl⟩ : ∃ wo, wo = wr := ⟨_, rfl⟩
           go_cut [161] from 131 to 161 (fun v161 wc => ∃ b : Bool, v161 = .bool b ∧ Aside0 (Below wz.heap.size wz wc) ∧ Aside0 (b = false → (i = 0 ∨ Op.bytesLess (rd_T45 l3 ((i : Int) - 1)).f0.toList (rd_T45 l3 i).f0.toList = true) ∧ prodB l0.length l2.length p = !p.f2.any (oddB l0.length l2.length)) ∧ Aside0 (b = true → validB l0 l1 l2 l3 st = false))
           case first =>
            have hbad := HBD.out
            by_cases h0 : i = 0
            ·have d0 : decide (0 < i) = false := decide_eq_false (by omega)
             have H0 := Aside0.mk h0
             clear h0
             by_cases g1 : srt < 0
             ·have d1 : decide (srt < 0) = true := decide_eq_true g1
              have e1 : Aside0 (validB l0 l1 l2 l3 st = false) := ⟨hbad (by rw [HPB.out]; unfold inB; rw [decide_eq_false (by omega : ¬ 0 ≤ srt)]; rfl)⟩
              go_quiet (fail)
              go_wp2
              go_meet
              exact ⟨true, by first | rfl | (simp; omega), ⟨pw_below_drewN (Below.refl _ _) _⟩, ⟨fun h => by cases h⟩, ⟨fun _ => e1.out⟩⟩
             ·have d1 : decide (srt < 0) = false := decide_eq_false g1
              by_cases g2 : (l2.length : Int) ≤ srt
              ·have d2 : decide ((l2.length : Int) ≤ srt) = true := decide_eq_true g2
               have e1 : Aside0 (validB l0 l1 l2 l3 st = false) := ⟨hbad (by rw [HPB.out]; unfold inB; rw [decide_eq_false (by omega : ¬ srt < l2.length), Bool.and_false]; rfl)⟩
               go_quiet (fail)
               go_wp2
               go_meet
               exact ⟨true, by first | rfl | (simp; omega), ⟨pw_below_drewN (Below.refl _ _) _⟩, ⟨fun h => by cases h⟩, ⟨fun _ => e1.out⟩⟩
              ·have d2 : decide ((l2.length : Int) ≤ srt) = false := decide_eq_false g2
               by_cases g3 : 12 < nl
               ·have d3 : decide (12 < nl) = true := decide_eq_true g3
                have e1 : Aside0 (validB l0 l1 l2 l3 st = false) := ⟨hbad (by rw [HPB.out, d3]; simp)⟩
                go_quiet (fail)
                go_wp2
                go_meet
                exact ⟨true, by first | rfl | (simp; omega), ⟨pw_below_drewN (Below.refl _ _) _⟩, ⟨fun h => by cases h⟩, ⟨fun _ => e1.out⟩⟩
               ·have d3 : decide (12 < nl) = false := decide_eq_false g3
                have e1 : Aside0 (prodB l0.length l2.length p = !p.f2.any (oddB l0.length l2.length)) := ⟨by rw [HPB.out, d3]; unfold inB; rw [decide_eq_true (by omega : 0 ≤ srt), decide_eq_true (by omega : srt < l2.length)]; simp⟩
                go_quiet (fail)
                go_wp2
                go_meet
                exact ⟨false, by first | rfl | (simp; omega), ⟨pw_below_drewN (Below.refl _ _) _⟩, ⟨fun _ => ⟨.inl H0.out, e1.out⟩⟩, ⟨fun h => by cases h⟩⟩
            ·have d0 : decide (0 < i) = true := decide_eq_true (by omega)
             obtain ⟨j, hj⟩ : ∃ j : Int, (i : Int) - 1 = j := ⟨_, rfl⟩
             obtain ⟨ad', A5, c5, e5, hy1, -⟩ := at_T45 (Kd.C_below HR3.out HBZ.out) j (by omega) (by omega)
             cases e5
             have q2 : (0 ≤ j) = True := eq_true (by omega)
             have q3 : (j < (l3.length : Int)) = True := eq_true (by omega)
             have hw : IntKind.i64.wrap ((i : Int) - 1) = j := by rw [IntWalk.i64_in _ (by omega)]; exact hj
             have HJ := Aside0.mk hj
             clear hj
             cases hb : Op.bytesLess (rd_T45 l3 j).f0.toList lab.toList
             ·have e1 : Aside0 (validB l0 l1 l2 l3 st = false) := ⟨not_labels (rises_not i (by omega) hlt (by rw [HJ.out, HPI.out, HLB.out]; exact hb))⟩
              go_quiet (fail)
              go_wp2
              go_meet
              exact ⟨true, by first | rfl | (simp; omega), ⟨pw_below_drewN (Below.refl _ _) _⟩, ⟨fun h => by cases h⟩, ⟨fun _ => e1.out⟩⟩
             ·have HLT : Aside0 (Op.bytesLess (rd_T45 l3 ((i : Int) - 1)).f0.toList (rd_T45 l3 i).f0.toList = true) := ⟨by rw [HJ.out, HPI.out, HLB.out]; exact hb⟩
              by_cases g1 : srt < 0
              ·have d1 : decide (srt < 0) = true := decide_eq_true g1
               have e1 : Aside0 (validB l0 l1 l2 l3 st = false) := ⟨hbad (by rw [HPB.out]; unfold inB; rw [decide_eq_false (by omega : ¬ 0 ≤ srt)]; rfl)⟩
               go_quiet (fail)
               go_wp2
               go_meet
               exact ⟨true, by first | rfl | (simp; omega), ⟨pw_below_drewN (Below.refl _ _) _⟩, ⟨fun h => by cases h⟩, ⟨fun _ => e1.out⟩⟩
              ·have d1 : decide (srt < 0) = false := decide_eq_false g1
               by_cases g2 : (l2.length : Int) ≤ srt
               ·have d2 : decide ((l2.length : Int) ≤ srt) = true := decide_eq_true g2
                have e1 : Aside0 (validB l0 l1 l2 l3 st = false) := ⟨hbad (by rw [HPB.out]; unfold inB; rw [decide_eq_false (by omega : ¬ srt < l2.length), Bool.and_false]; rfl)⟩
                go_quiet (fail)
                go_wp2
                go_meet
                exact ⟨true, by first | rfl | (simp; omega), ⟨pw_below_drewN (Below.refl _ _) _⟩, ⟨fun h => by cases h⟩, ⟨fun _ => e1.out⟩⟩
               ·have d2 : decide ((l2.length : Int) ≤ srt) = false := decide_eq_false g2
                by_cases g3 : 12 < nl
                ·have d3 : decide (12 < nl) = true := decide_eq_true g3
                 have e1 : Aside0 (validB l0 l1 l2 l3 st = false) := ⟨hbad (by rw [HPB.out, d3]; simp)⟩
                 go_quiet (fail)
                 go_wp2
                 go_meet
                 exact ⟨true, by first | rfl | (simp; omega), ⟨pw_below_drewN (Below.refl _ _) _⟩, ⟨fun h => by cases h⟩, ⟨fun _ => e1.out⟩⟩
                ·have d3 : decide (12 < nl) = false := decide_eq_false g3
                 have e1 : Aside0 (prodB l0.length l2.length p = !p.f2.any (oddB l0.length l2.length)) := ⟨by rw [HPB.out, d3]; unfold inB; rw [decide_eq_true (by omega : 0 ≤ srt), decide_eq_true (by omega : srt < l2.length)]; simp⟩
                 go_quiet (fail)
                 go_wp2
                 go_meet
                 exact ⟨false, by first | rfl | (simp; omega), ⟨pw_below_drewN (Below.refl _ _) _⟩, ⟨fun _ => ⟨.inr HLT.out, e1.out⟩⟩, ⟨fun h => by cases h⟩⟩
           case rest =>
            obtain ⟨b, rfl, HB6, HF, HTR⟩ := hcut
            clear x0 x1 x2 z0 z1 z2 z3 z4
            obtain ⟨w6, rfl⟩ : ∃ x, x = wc := ⟨_, rfl⟩
            have HBw6 : Aside0 (Below w.heap.size w w6) := ⟨below_step HBwZ.out HB6.out⟩
            have x2 := pw_cell_below HB6.out X2.out
            cases b
            ·have HF2 := Aside0.mk (HF.out rfl)
             clear HF HTR
             have hneg : IntKind.i64.wrap (-(l2.length : Int)) = -(l2.length : Int) := IntWalk.i64_in _ (by omega)
             go_wp2
             clear x2 hltb
             go_loopw [10] (fun v wi => ∃ j : Nat, v = .int .i64 j ∧ j ≤ nl ∧ Aside0 ((p.f2.take j).any (oddB l0.length l2.length) = false) ∧ Aside0 (Below w6.heap.size w6 wi)) (fun v _ => nl - (intOf v).toNat)
             case atStart => exact ⟨0, rfl, Nat.zero_le _, ⟨by simp⟩, ⟨Below.refl _ _⟩⟩
             case round =>
              obtain ⟨j, rfl, hj, HO, HBI⟩ := hrel
              have HZI : Aside0 (Below wz.heap.size wz wr) := ⟨below_step HB6.out HBI.out⟩
              have x2 := pw_cell_below HZI.out X2.out
              have hmj : nl ≤ 9223372036854775807 := by have := HR4Z.out.2.1; rw [HNL.out] at this; exact this
              by_cases hjl : j < nl
              ·have hjb : decide (j < nl) = true := decide_eq_true hjl
               have hjl2 : j < p.f2.length := by rw [HNL.out]; exact hjl
               obtain ⟨ad5, e5, hxs⟩ := Kd.at_int (Kd.C_below HR4Z.out HZI.out) (j : Int) (by omega) (by omega)
               rw [Int.toNat_natCast] at hxs
               have hrk : rd p.f2 (j : Int) = p.f2[j] := by unfold rd; simp [List.getD, hjl2]
               have hrs := HRG.out p HM.out p.f2[j] (List.getElem_mem hjl2)
               have hat : Aside0 ((p.f2.take (j + 1)).any (oddB l0.length l2.length) = ((p.f2.take j).any (oddB l0.length l2.length) || oddB l0.length l2.length p.f2[j])) := ⟨by rw [List.take_add_one, List.getElem?_eq_getElem hjl2, List.any_append]; simp⟩
               have han : Aside0 (oddB l0.length l2.length p.f2[j] = true → p.f2.any (oddB l0.length l2.length) = true) := ⟨fun h => List.any_eq_true.2 ⟨_, List.getElem_mem hjl2, h⟩⟩
               obtain ⟨s, hs⟩ : ∃ s, p.f2[j] = s := ⟨_, rfl⟩
               rw [hrk, hs] at hxs
               rw [hs] at hrs hat han
               have HOD := Aside0.mk (odd_is l0.length l2.length s hS hrs)
               clear hrk hs hrs hjl2
               subst e5
               go_upto_region 29 with fail
               go_cut [185] from 169 to 185 (fun v185 wc => ∃ b : Bool, v185 = .bool b ∧ Aside0 (Below w6.heap.size w6 wc) ∧ Aside0 (oddB l0.length l2.length s = b))
               case first =>
                by_cases g1 : (l0.length : Int) ≤ s
                ·have d1 : decide ((l0.length : Int) ≤ s) = true := decide_eq_true g1
                 have e1 : Aside0 (oddB l0.length l2.length s = true) := ⟨by rw [HOD.out, d1]; rfl⟩
                 go_wp2_with fail
                 go_meet
                 exact ⟨true, by first | rfl | (simp; omega), HBI, e1⟩
                ·have d1 : decide ((l0.length : Int) ≤ s) = false := decide_eq_false g1
                 by_cases g2 : s < -(l2.length : Int)
                 ·have d2 : decide (s < -(l2.length : Int)) = true := decide_eq_true g2
                  have e1 : Aside0 (oddB l0.length l2.length s = true) := ⟨by rw [HOD.out, d1, d2]; rfl⟩
                  go_wp2_with fail
                  go_meet
                  exact ⟨true, by first | rfl | (simp; omega), HBI, e1⟩
                 ·have d2 : decide (s < -(l2.length : Int)) = false := decide_eq_false g2
                  have e1 : Aside0 (oddB l0.length l2.length s = false) := ⟨by rw [HOD.out, d1, d2]; rfl⟩
                  go_wp2_with fail
                  go_meet
                  exact ⟨false, by first | rfl | (simp; omega), HBI, e1⟩
               case rest =>
                obtain ⟨b, rfl, HB7, HOS⟩ := hcut
                cases b
                ·go_wp2
                 exact ⟨⟨j + 1, rfl, by omega, ⟨by rw [hat.out, HO.out, HOS.out]; rfl⟩, HB7⟩, by simp [intOf]; omega⟩
                ·go_wp2
                 go_ret
                 exact ⟨by rw [HBD.out (by rw [HF2.out.2, han.out HOS.out]; rfl)]; rfl, below_step HBw6.out HB7.out⟩
              ·have hjb : decide (j < nl) = false := decide_eq_false hjl
               have HPR : Aside0 (prodB l0.length l2.length p = true) := ⟨by have := HO.out; rw [List.take_of_length_le (by have := HNL.out; omega)] at this; rw [HF2.out.2, this]; rfl⟩
               go_wp2
               exact ⟨⟨i + 1, rfl, by omega, ⟨HT.out.step HF2.out.1⟩, ⟨by rw [all_take _ _ i hlt, HA.out, HPK.out, HPR.out]; rfl⟩, ⟨below_step HBZ.out HZI.out⟩⟩, by simp [intOf]; omega⟩
            ·have HTR2 := Aside0.mk (HTR.out rfl)
             clear HF HTR
             go_wp2
             go_ret
             exact ⟨by rw [HTR2.out]; rfl, HBw6.out⟩
          ·have hltb : decide (i < l3.length) = false := decide_eq_false hlt
           have HLE : Aside0 (rises (fun i => (rd_T45 l3 i).f0) l3.length = true) := ⟨rises_all (HT.out.down (by omega))⟩
           have HPE : Aside0 (l3.all (prodB l0.length l2.length) = true) := ⟨by have := HA.out; rwa [List.take_of_length_le (by omega)] at this⟩
           go_wp2
           go_ret
           exact ⟨by rw [all_valid H5.out HOV.out HPE.out HSE.out HTE.out HLE.out]; rfl, below_step HB5.out HBR.out⟩
  ·go_wp2
   go_ret
   exact ⟨by rw [not_five H5.out]; rfl, HBw.out⟩

/-- As a printed function: the answer of symbols within what numbers there are. -/
def syntagmref12_Valid.f (l0 : List S51) (l1 : List S63) (l2 : List ByteArray) (l3 : List S45) (st : Int) : Option Bool :=
 if ∀ p ∈ l3, ∀ s ∈ p.f2, -9223372036854775808 ≤ s ∧ s ≤ 9223372036854775807 then some (validB l0 l1 l2 l3 st) else none
theorem syntagmref12_Valid.calls (A0 : Option Addr) (c0 : Nat) (l0 : List S51) (A1 : Option Addr) (c1 : Nat) (l1 : List S63) (A2 : Option Addr) (c2 : Nat) (l2 : List ByteArray) (A3 : Option Addr) (c3 : Nat) (l3 : List S45) (st : Int) (r : Bool) (w : World)
  (hr0 : Kd.C k51 w A0 l0.length l0) (_ : l0.length ≤ c0) (hr1 : Kd.C k63 w A1 l1.length l1) (_ : l1.length ≤ c1) (hr2 : Kd.C Kd.string w A2 l2.length l2) (_ : l2.length ≤ c2) (hr3 : Kd.C k45 w A3 l3.length l3) (_ : l3.length ≤ c3) (h : syntagmref12_Valid.f l0 l1 l2 l3 st = some r) :
  Calls Try.prog 28 #[.agg #[.slice A0 l0.length c0, .slice A1 l1.length c1, .slice A2 l2.length c2, .slice A3 l3.length c3, .int .i64 st]] w fun e w' => e = .returned (.bool r) ∧ Below w.heap.size w w' := by
 unfold syntagmref12_Valid.f at h
 split at h
 ·rw [← Option.some.inj h]
  exact refv_walk A0 c0 l0 A1 c1 l1 A2 c2 l2 A3 c3 l3 st w hr0 hr1 hr2 hr3 (by assumption)
 ·cases h

end Go.Proofs.Ytggfiopajogiiaa.P
end
