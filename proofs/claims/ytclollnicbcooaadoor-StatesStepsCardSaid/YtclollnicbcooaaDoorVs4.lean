/- Texts of this claim put together: Px22, Open, Types, SRefV, Px9, Px10, Px12, Px13, Px14, Rf, Rf2, SFew, Pw, Pk, Pg, PureStatesSteps, Glob. -/
import Derived.Test.YtclollnicbcooaaDoorVs0
import Derived.Test.YtclollnicbcooaaDoorVs2
import Derived.Test.YtclollnicbcooaaDoorVs3
import Derived.Deep.Slices
import Derived.OpenShut
import Derived.ShutString
import Derived.ProofKit
import Derived.IntWalk
import Derived.Test.YtclollnicbcooaaDoorVs1
import Derived.Test.YtclollnicbcooaaDoorRows
import Derived.Lib.LaidTab
import Derived.Lib.LaidU8
import Derived.LaidLaws
import Derived.Handed
section
namespace Go.Proofs.YtclollnicbcooaaDoor.P
open Go.RowKit Go.Proofs.YtclollnicbcooaaDoorW.PrintWords Go.Proofs.YtclollnicbcooaaDoorW.PrintLast Go.Proofs.YtclollnicbcooaaDoorW.PrintMore
attribute [local go_sem] max2_int min2_int max_two min_two max_three min_three max_four min_four   -- for this text's walks alone
set_option linter.unusedVariables false
set_option linter.unusedSimpArgs false

/-! ### syntagmlaw14_StatesSteps: function 7 -/
def syntagmlaw14_StatesSteps.j0 : Nat → Int → Int → Bool → Bool → List (S82) → List (S101) → List ByteArray → List (S64) → Int → List (List (S37)) → List (List Int) → Option (Bool)
 | 0, _, _, _, _, _, _, _, _, _, _, _ => none
 | k + 1, x1, x2, x7, x40, x457000, x457001, x457002, x457003, x457004, x467000, x467001 => if x40 = true then (some x7) else (if 0 ≤ x1 then (if x1 < (x467000.length : Int) then ((states_Close.f x457000 x457001 x457002 x457003 x457004 (rd_L15 x467000 x1)).bind fun t468 => ((states_Step.f x457000 x457001 x457002 x457003 x457004 (rd_L15 x467000 x1) x2).bind fun t472 => ((states_Step.f x457000 x457001 x457002 x457003 x457004 t468 x2).bind fun t475 => ((states_Go.f x457000 x457001 x457002 x457003 x457004 x467000 x467001 x1 x2).bind fun t478 => ((syntagmlaw14_Row.f k t472).bind fun t479 => ((syntagmlaw14_Row.f k t475).bind fun t482 => ((syntagmref14_Row.f k t479 t482).bind fun t485 => (if t485 = true then (if t478 < 0 then (if x7 = true then (some ((t472.length : Int) == 0)) else (some false)) else (if x7 = true then ((syntagmlaw14_Row.f k t472).bind fun t486 => (if 0 ≤ t478 then (if t478 < (x467000.length : Int) then ((syntagmlaw14_Row.f k (rd_L15 x467000 t478)).bind fun t490 => ((syntagmref14_Row.f k t486 t490).bind fun t493 => (some t493))) else (none)) else (none))) else (some false))) else (some false))))))))) else (none)) else (none))
def syntagmlaw14_StatesSteps.f (k : Nat) (l0_0 : List (S82)) (l0_1 : List (S101)) (l0_2 : List ByteArray) (l0_3 : List (S64)) (a0_4 : Int) (a1 : Int) (a2 : Int) : Option (Bool) := (syntagmlaw14_works.f).bind fun t457 => (if t457 = true then ((syntagmlaw14_Little.f k l0_0 l0_1 l0_2 l0_3 a0_4).bind fun t458 => (if t458 = true then ((states_Build.f l0_0 l0_1 l0_2 l0_3 a0_4).bind fun bt459 => (if bt459.2.2 = 0 then (if a1 < 0 then (syntagmlaw14_StatesSteps.j0 k a1 a2 t457 true l0_0 l0_1 l0_2 l0_3 a0_4 bt459.1 bt459.2.1) else (syntagmlaw14_StatesSteps.j0 k a1 a2 t457 (decide (a1 ≥ (bt459.1.length : Int))) l0_0 l0_1 l0_2 l0_3 a0_4 bt459.1 bt459.2.1)) else (syntagmlaw14_StatesSteps.j0 k a1 a2 t457 true l0_0 l0_1 l0_2 l0_3 a0_4 bt459.1 bt459.2.1))) else (some t457))) else (some false))
def syntagmlaw14_StatesSteps.T10 : Bool × List (List Nat × List Nat) := (true, [([], []), ([], []), ([1], [1]), ([], []), ([2, 3], [2, 3]), ([4], [4]), ([0, 5], [0, 5]), ([6, 6, 0, 1, 2, 3, 4, 5, 6], [6])])
def syntagmlaw14_StatesSteps.B10 : List Nat := [0, 0, 2, 0, 14, 30, 63, 127]
theorem syntagmlaw14_StatesSteps.tab10 : rtab .any (opsOf Tryd.f7 10) = syntagmlaw14_StatesSteps.T10 := by kernel_rfl
theorem syntagmlaw14_StatesSteps.bits10 : waitsOk syntagmlaw14_StatesSteps.T10.2 syntagmlaw14_StatesSteps.B10 = true := by kernel_rfl
def syntagmlaw14_StatesSteps.T11 : Bool × List (List Nat × List Nat) := (true, [([], []), ([], []), ([1], [1]), ([], []), ([2, 3], [2, 3]), ([4], [4]), ([], []), ([0, 5, 6], [0, 5, 6]), ([7, 7, 0, 1, 2, 3, 4, 5, 6, 7], [7])])
def syntagmlaw14_StatesSteps.B11 : List Nat := [0, 0, 2, 0, 14, 30, 0, 127, 255]
theorem syntagmlaw14_StatesSteps.tab11 : rtab .any (opsOf Tryd.f7 11) = syntagmlaw14_StatesSteps.T11 := by kernel_rfl
theorem syntagmlaw14_StatesSteps.bits11 : waitsOk syntagmlaw14_StatesSteps.T11.2 syntagmlaw14_StatesSteps.B11 = true := by kernel_rfl
def syntagmlaw14_StatesSteps.T18 : Bool × List (List Nat × List Nat) := (true, [([], []), ([0], [0]), ([1], [1]), ([2, 1, 1], [1, 2]), ([1], [1]), ([4, 1], [1, 4]), ([1], [1]), ([5, 6, 1], [1, 5, 6]), ([7, 1], [1, 7]), ([8, 3, 1], [1, 8]), ([3, 9, 9, 1], [1, 3, 9]), ([1, 10], [1, 10]), ([11, 10, 0, 1, 2, 3, 4, 5, 6, 7, 8, 9, 10, 11], [11])])
def syntagmlaw14_StatesSteps.B18 : List Nat := [0, 1, 3, 7, 3, 19, 3, 115, 243, 511, 1023, 2047, 4095]
theorem syntagmlaw14_StatesSteps.tab18 : rtab .any (opsOf Tryd.f7 18) = syntagmlaw14_StatesSteps.T18 := by kernel_rfl
theorem syntagmlaw14_StatesSteps.bits18 : waitsOk syntagmlaw14_StatesSteps.T18.2 syntagmlaw14_StatesSteps.B18 = true := by kernel_rfl
set_option maxHeartbeats 8000000 in
set_option maxRecDepth 100000 in
theorem syntagmlaw14_StatesSteps.calls (k : Nat) (A0_0 : Option Addr) (c0_0 : Nat) (l0_0 : List (S82)) (A0_1 : Option Addr) (c0_1 : Nat) (l0_1 : List (S101)) (A0_2 : Option Addr) (c0_2 : Nat) (l0_2 : List ByteArray) (A0_3 : Option Addr) (c0_3 : Nat) (l0_3 : List (S64)) (a0_4 : Int) (a1 : Int) (a2 : Int) (r : Bool) (w : World) (hG : GTab w) (hT : r = true) (hr0_0 : Kd.C k82 w A0_0 l0_0.length l0_0) (hc0_0 : l0_0.length ≤ c0_0) (hr0_1 : Kd.C k101 w A0_1 l0_1.length l0_1) (hc0_1 : l0_1.length ≤ c0_1) (hr0_2 : Kd.C Kd.string w A0_2 l0_2.length l0_2) (hc0_2 : l0_2.length ≤ c0_2) (hr0_3 : Kd.C k64 w A0_3 l0_3.length l0_3) (hc0_3 : l0_3.length ≤ c0_3) (h : syntagmlaw14_StatesSteps.f k l0_0 l0_1 l0_2 l0_3 a0_4 a1 a2 = some r) :
  Calls Tryd.prog 7 #[.agg #[.slice A0_0 l0_0.length c0_0, .slice A0_1 l0_1.length c0_1, .slice A0_2 l0_2.length c0_2, .slice A0_3 l0_3.length c0_3, .int .i64 a0_4], .int .i64 a1, .int .i64 a2] w fun e w' => e = .returned (.bool r) ∧ Below w.heap.size w w' := by
 have hu27 := Tryd.underlying27
 have hu49 := Tryd.underlying49
 have HG := Aside0.mk hG
 clear hG
 have HT := Aside0.mk hT
 clear hT
 have HR0_0 := Aside0.mk hr0_0
 have HC0_0 := Aside0.mk hc0_0
 clear hr0_0 hc0_0
 have HR0_1 := Aside0.mk hr0_1
 have HC0_1 := Aside0.mk hc0_1
 clear hr0_1 hc0_1
 have HR0_2 := Aside0.mk hr0_2
 have HC0_2 := Aside0.mk hc0_2
 clear hr0_2 hc0_2
 have HR0_3 := Aside0.mk hr0_3
 have HC0_3 := Aside0.mk hc0_3
 clear hr0_3 hc0_3
 have HB := Aside0.mk (Below.refl w.heap.size w)
 have H : ((syntagmlaw14_works.f).bind fun t457 => (if t457 = true then ((syntagmlaw14_Little.f k l0_0 l0_1 l0_2 l0_3 a0_4).bind fun t458 => (if t458 = true then ((states_Build.f l0_0 l0_1 l0_2 l0_3 a0_4).bind fun bt459 => (if bt459.2.2 = 0 then (if a1 < 0 then (syntagmlaw14_StatesSteps.j0 k a1 a2 t457 true l0_0 l0_1 l0_2 l0_3 a0_4 bt459.1 bt459.2.1) else (syntagmlaw14_StatesSteps.j0 k a1 a2 t457 (decide (a1 ≥ (bt459.1.length : Int))) l0_0 l0_1 l0_2 l0_3 a0_4 bt459.1 bt459.2.1)) else (syntagmlaw14_StatesSteps.j0 k a1 a2 t457 true l0_0 l0_1 l0_2 l0_3 a0_4 bt459.1 bt459.2.1))) else (some t457))) else (some false))) = some r := h
 clear h
 replace H := Option.bind_eq_some_iff.mp H
 obtain ⟨t457, A40, H⟩ := H
 replace H : (if t457 = true then ((syntagmlaw14_Little.f k l0_0 l0_1 l0_2 l0_3 a0_4).bind fun t458 => (if t458 = true then ((states_Build.f l0_0 l0_1 l0_2 l0_3 a0_4).bind fun bt459 => (if bt459.2.2 = 0 then (if a1 < 0 then (syntagmlaw14_StatesSteps.j0 k a1 a2 t457 true l0_0 l0_1 l0_2 l0_3 a0_4 bt459.1 bt459.2.1) else (syntagmlaw14_StatesSteps.j0 k a1 a2 t457 (decide (a1 ≥ (bt459.1.length : Int))) l0_0 l0_1 l0_2 l0_3 a0_4 bt459.1 bt459.2.1)) else (syntagmlaw14_StatesSteps.j0 k a1 a2 t457 true l0_0 l0_1 l0_2 l0_3 a0_4 bt459.1 bt459.2.1))) else (some t457))) else (some false)) = some r := H
 have A4 := Aside0.mk A40
 clear A40
 by_cases c5 : t457 = true
 ·subst c5
  have H1 : ((syntagmlaw14_Little.f k l0_0 l0_1 l0_2 l0_3 a0_4).bind fun t458 => (if t458 = true then ((states_Build.f l0_0 l0_1 l0_2 l0_3 a0_4).bind fun bt459 => (if bt459.2.2 = 0 then (if a1 < 0 then (syntagmlaw14_StatesSteps.j0 k a1 a2 true true l0_0 l0_1 l0_2 l0_3 a0_4 bt459.1 bt459.2.1) else (syntagmlaw14_StatesSteps.j0 k a1 a2 true (decide (a1 ≥ (bt459.1.length : Int))) l0_0 l0_1 l0_2 l0_3 a0_4 bt459.1 bt459.2.1)) else (syntagmlaw14_StatesSteps.j0 k a1 a2 true true l0_0 l0_1 l0_2 l0_3 a0_4 bt459.1 bt459.2.1))) else (some true))) = some r := by rw [if_pos rfl] at H; exact H
  clear H
  have H := H1
  clear H1
  replace H := Option.bind_eq_some_iff.mp H
  obtain ⟨t458, A60, H⟩ := H
  replace H : (if t458 = true then ((states_Build.f l0_0 l0_1 l0_2 l0_3 a0_4).bind fun bt459 => (if bt459.2.2 = 0 then (if a1 < 0 then (syntagmlaw14_StatesSteps.j0 k a1 a2 true true l0_0 l0_1 l0_2 l0_3 a0_4 bt459.1 bt459.2.1) else (syntagmlaw14_StatesSteps.j0 k a1 a2 true (decide (a1 ≥ (bt459.1.length : Int))) l0_0 l0_1 l0_2 l0_3 a0_4 bt459.1 bt459.2.1)) else (syntagmlaw14_StatesSteps.j0 k a1 a2 true true l0_0 l0_1 l0_2 l0_3 a0_4 bt459.1 bt459.2.1))) else (some true)) = some r := H
  have A6 := Aside0.mk A60
  clear A60
  by_cases c7 : t458 = true
  ·subst c7
   have H1 : ((states_Build.f l0_0 l0_1 l0_2 l0_3 a0_4).bind fun bt459 => (if bt459.2.2 = 0 then (if a1 < 0 then (syntagmlaw14_StatesSteps.j0 k a1 a2 true true l0_0 l0_1 l0_2 l0_3 a0_4 bt459.1 bt459.2.1) else (syntagmlaw14_StatesSteps.j0 k a1 a2 true (decide (a1 ≥ (bt459.1.length : Int))) l0_0 l0_1 l0_2 l0_3 a0_4 bt459.1 bt459.2.1)) else (syntagmlaw14_StatesSteps.j0 k a1 a2 true true l0_0 l0_1 l0_2 l0_3 a0_4 bt459.1 bt459.2.1))) = some r := by rw [if_pos rfl] at H; exact H
   clear H
   have H := H1
   clear H1
   replace H := Option.bind_eq_some_iff.mp H
   obtain ⟨⟨t459, t462, t465⟩, A80, H⟩ := H
   replace H : (if t465 = 0 then (if a1 < 0 then (syntagmlaw14_StatesSteps.j0 k a1 a2 true true l0_0 l0_1 l0_2 l0_3 a0_4 t459 t462) else (syntagmlaw14_StatesSteps.j0 k a1 a2 true (decide (a1 ≥ (t459.length : Int))) l0_0 l0_1 l0_2 l0_3 a0_4 t459 t462)) else (syntagmlaw14_StatesSteps.j0 k a1 a2 true true l0_0 l0_1 l0_2 l0_3 a0_4 t459 t462)) = some r := H
   have A8 := Aside0.mk A80
   clear A80
   have HC9 := Aside0.mk H
   clear H
   go_enter Tryd.func7, Tryd.ntmps7
   go_upto_region 8 with (first | ((with_reducible refine gate_dst (N := 3) rfl ?_); (try (refine gate_guard (by rfl) ?_; dsimp only)); refine box_event ?hg (N := 3) ?hd (cs := #[.slice A0_0 l0_0.length c0_0, .slice A0_1 l0_1.length c0_1, .slice A0_2 l0_2.length c0_2, .slice A0_3 l0_3.length c0_3, .int .i64 a0_4]) (t := 27) ?hr ?_; (case hd => rfl); (case hg => rfl); (case hr => first | (go_simp; done) | (go_simp; rfl)); intro gb456 hg w10 hbox hb; have n0_ := Aside0.mk (below_step (by repeat (first | (with_reducible first | exact HB.out | apply below_alloc | apply pw_below_drewN | apply below_drew1) | exact HB.out)) hb); have n1_ := Aside0.mk (hbox); have n2_ := Aside0.mk ((by rw [hg]; exact (below_size (by repeat (first | (with_reducible first | exact HB.out | apply below_alloc | apply pw_below_drewN | apply below_drew1) | exact HB.out))) : w.heap.size ≤ gb456)); have n3_ := Aside0.mk ((by rw [hg]; exact (below_size (by repeat (first | (with_reducible first | exact HB.out | apply below_alloc | apply pw_below_drewN | apply below_drew1) | exact HB.out))) : w.heap.size ≤ gb456)); clear HB; have HB := n0_; have BK456 := n1_; have GW456 := n2_; have GE456 := n3_; clear n0_ n1_ n2_ n3_; clear hb hbox hg) | ((with_reducible refine gate_callee (f := 12) rfl ?_); refine goesL_ (some 15) rfl rfl Tryd.func12 (by kernel_rfl) rfl #[] rfl (by (try simp only [List.map_toArray, List.map_cons, List.map_nil]); first | done | rfl | (simp only [List.length_drop, List.length_take]; rfl)) ?_; (with_reducible refine (syntagmlaw14_works.calls  true _ ?side1 ?side2 A4.out).mono ?_); (case side1 => exact GTab.below HG.out (by repeat (first | (with_reducible first | exact HB.out | apply below_alloc | apply pw_below_drewN | apply below_drew1 | refine below_set ?_ GE456.out) | exact HB.out))); (case side2 => rfl); rintro e w11 ⟨rfl, hb⟩; refine ⟨_, rfl, ?_⟩; have n0_ := Aside0.mk (blk_below (g := gb456) (o := .cells #[.slice A0_0 l0_0.length c0_0, .slice A0_1 l0_1.length c0_1, .slice A0_2 l0_2.length c0_2, .slice A0_3 l0_3.length c0_3, .int .i64 a0_4] 27 (0, 0)) (by (with_reducible repeat (first | refine blk_drewN ?_ _ | refine blk_drew ?_ | refine blk_alloc ?_ _)); exact BK456.out) hb); have n1_ := Aside0.mk (below_step (by repeat (first | (with_reducible first | exact HB.out | apply below_alloc | apply pw_below_drewN | apply below_drew1 | refine below_set ?_ GE456.out) | exact HB.out)) hb); clear BK456; clear HB; have BK456 := n0_; have HB := n1_; clear n0_ n1_; (try clear hb); (try clear hb2); (try clear hk); (try clear hi); have hcz12_0 : w11.cell? ⟨gb456, 0, none⟩ = some (.slice A0_0 l0_0.length c0_0) := (blk_cell BK456.out 0).trans rfl; have hcz12_1 : w11.cell? ⟨gb456, 1, none⟩ = some (.slice A0_1 l0_1.length c0_1) := (blk_cell BK456.out 1).trans rfl; have hcz12_2 : w11.cell? ⟨gb456, 2, none⟩ = some (.slice A0_2 l0_2.length c0_2) := (blk_cell BK456.out 2).trans rfl; have hcz12_3 : w11.cell? ⟨gb456, 3, none⟩ = some (.slice A0_3 l0_3.length c0_3) := (blk_cell BK456.out 3).trans rfl; have hcz12_4 : w11.cell? ⟨gb456, 4, none⟩ = some (.int .i64 a0_4) := (blk_cell BK456.out 4).trans rfl; have hfz12_0 := blk_frozen BK456.out 0; have hfz12_1 := blk_frozen BK456.out 1; have hfz12_2 := blk_frozen BK456.out 2; have hfz12_3 := blk_frozen BK456.out 3; have hfz12_4 := blk_frozen BK456.out 4) | ((with_reducible refine gate_callee (f := 22) rfl ?_); refine goesL_ (some 19) rfl rfl Tryd.func22 (by kernel_rfl) rfl #[.agg #[.slice A0_0 l0_0.length c0_0, .slice A0_1 l0_1.length c0_1, .slice A0_2 l0_2.length c0_2, .slice A0_3 l0_3.length c0_3, .int .i64 a0_4]] rfl (by (try simp only [List.map_toArray, List.map_cons, List.map_nil]); first | done | rfl | (simp only [List.length_drop, List.length_take]; rfl)) ?_; (with_reducible refine (syntagmlaw14_Little.calls k _ _ l0_0 _ _ l0_1 _ _ l0_2 _ _ l0_3 a0_4 true _ ?side1 ?side2 ?side3 ?side4 ?side5 ?side6 ?side7 ?side8 A6.out).mono ?_); (case side1 => repeat (first | exact (Kd.C_below HR0_0.out HB.out) | (with_reducible refine Kd.C_alloc ?_ _) | (with_reducible refine Kd.C_drewN ?_ _) | (with_reducible refine Kd.C_drew ?_))); (case side2 => exact HC0_0.out); (case side3 => repeat (first | exact (Kd.C_below HR0_1.out HB.out) | (with_reducible refine Kd.C_alloc ?_ _) | (with_reducible refine Kd.C_drewN ?_ _) | (with_reducible refine Kd.C_drew ?_))); (case side4 => exact HC0_1.out); (case side5 => repeat (first | exact (Kd.C_below HR0_2.out HB.out) | (with_reducible refine Kd.C_alloc ?_ _) | (with_reducible refine Kd.C_drewN ?_ _) | (with_reducible refine Kd.C_drew ?_))); (case side6 => exact HC0_2.out); (case side7 => repeat (first | exact (Kd.C_below HR0_3.out HB.out) | (with_reducible refine Kd.C_alloc ?_ _) | (with_reducible refine Kd.C_drewN ?_ _) | (with_reducible refine Kd.C_drew ?_))); (case side8 => exact HC0_3.out); rintro e w13 ⟨rfl, hb⟩; refine ⟨_, rfl, ?_⟩; have n0_ := Aside0.mk (blk_below (g := gb456) (o := .cells #[.slice A0_0 l0_0.length c0_0, .slice A0_1 l0_1.length c0_1, .slice A0_2 l0_2.length c0_2, .slice A0_3 l0_3.length c0_3, .int .i64 a0_4] 27 (0, 0)) (by (with_reducible repeat (first | refine blk_drewN ?_ _ | refine blk_drew ?_ | refine blk_alloc ?_ _)); exact BK456.out) hb); have n1_ := Aside0.mk (below_step (by repeat (first | (with_reducible first | exact HB.out | apply below_alloc | apply pw_below_drewN | apply below_drew1 | refine below_set ?_ GE456.out) | exact HB.out)) hb); clear BK456; clear HB; have BK456 := n0_; have HB := n1_; clear n0_ n1_; (try clear hb); (try clear hb2); (try clear hk); (try clear hi); have hcz14_0 : w13.cell? ⟨gb456, 0, none⟩ = some (.slice A0_0 l0_0.length c0_0) := (blk_cell BK456.out 0).trans rfl; have hcz14_1 : w13.cell? ⟨gb456, 1, none⟩ = some (.slice A0_1 l0_1.length c0_1) := (blk_cell BK456.out 1).trans rfl; have hcz14_2 : w13.cell? ⟨gb456, 2, none⟩ = some (.slice A0_2 l0_2.length c0_2) := (blk_cell BK456.out 2).trans rfl; have hcz14_3 : w13.cell? ⟨gb456, 3, none⟩ = some (.slice A0_3 l0_3.length c0_3) := (blk_cell BK456.out 3).trans rfl; have hcz14_4 : w13.cell? ⟨gb456, 4, none⟩ = some (.int .i64 a0_4) := (blk_cell BK456.out 4).trans rfl; have hfz14_0 := blk_frozen BK456.out 0; have hfz14_1 := blk_frozen BK456.out 1; have hfz14_2 := blk_frozen BK456.out 2; have hfz14_3 := blk_frozen BK456.out 3; have hfz14_4 := blk_frozen BK456.out 4) | ((with_reducible refine gate_callee (f := 23) rfl ?_); refine goesL_ (some 25) rfl rfl Tryd.func23 (by kernel_rfl) rfl #[.agg #[.slice A0_0 l0_0.length c0_0, .slice A0_1 l0_1.length c0_1, .slice A0_2 l0_2.length c0_2, .slice A0_3 l0_3.length c0_3, .int .i64 a0_4]] rfl (by (try simp only [List.map_toArray, List.map_cons, List.map_nil]); first | done | rfl | (simp only [List.length_drop, List.length_take]; rfl)) ?_; (with_reducible refine (states_Build.calls _ _ l0_0 _ _ l0_1 _ _ l0_2 _ _ l0_3 a0_4 t459 t462 t465 _ ?side1 ?side2 ?side3 ?side4 ?side5 ?side6 ?side7 ?side8 ?side9 A8.out).mono ?_); (case side1 => exact GTab.below HG.out (by repeat (first | (with_reducible first | exact HB.out | apply below_alloc | apply pw_below_drewN | apply below_drew1 | refine below_set ?_ GE456.out) | exact HB.out))); (case side2 => repeat (first | exact (Kd.C_below HR0_0.out HB.out) | (with_reducible refine Kd.C_alloc ?_ _) | (with_reducible refine Kd.C_drewN ?_ _) | (with_reducible refine Kd.C_drew ?_))); (case side3 => exact HC0_0.out); (case side4 => repeat (first | exact (Kd.C_below HR0_1.out HB.out) | (with_reducible refine Kd.C_alloc ?_ _) | (with_reducible refine Kd.C_drewN ?_ _) | (with_reducible refine Kd.C_drew ?_))); (case side5 => exact HC0_1.out); (case side6 => repeat (first | exact (Kd.C_below HR0_2.out HB.out) | (with_reducible refine Kd.C_alloc ?_ _) | (with_reducible refine Kd.C_drewN ?_ _) | (with_reducible refine Kd.C_drew ?_))); (case side7 => exact HC0_2.out); (case side8 => repeat (first | exact (Kd.C_below HR0_3.out HB.out) | (with_reducible refine Kd.C_alloc ?_ _) | (with_reducible refine Kd.C_drewN ?_ _) | (with_reducible refine Kd.C_drew ?_))); (case side9 => exact HC0_3.out); rintro e w15 ⟨v460, v463, rfl, ho0, ho1, hb⟩; refine ⟨_, rfl, ?_⟩; have n0_ := Aside0.mk (Kd.S_lower ho0 (below_size (by repeat (first | (with_reducible first | exact HB.out | apply below_alloc | apply pw_below_drewN | apply below_drew1 | refine below_set ?_ GE456.out) | exact HB.out)))); have n1_ := Aside0.mk (Kd.S_lower ho1 (below_size (by repeat (first | (with_reducible first | exact HB.out | apply below_alloc | apply pw_below_drewN | apply below_drew1 | refine below_set ?_ GE456.out) | exact HB.out)))); have n2_ := Aside0.mk (blk_below (g := gb456) (o := .cells #[.slice A0_0 l0_0.length c0_0, .slice A0_1 l0_1.length c0_1, .slice A0_2 l0_2.length c0_2, .slice A0_3 l0_3.length c0_3, .int .i64 a0_4] 27 (0, 0)) (by (with_reducible repeat (first | refine blk_drewN ?_ _ | refine blk_drew ?_ | refine blk_alloc ?_ _)); exact BK456.out) hb); have n3_ := Aside0.mk (below_step (by repeat (first | (with_reducible first | exact HB.out | apply below_alloc | apply pw_below_drewN | apply below_drew1 | refine below_set ?_ GE456.out) | exact HB.out)) hb); clear BK456; clear HB; have HO461 := n0_; have HO464 := n1_; have BK456 := n2_; have HB := n3_; clear n0_ n1_ n2_ n3_; (try clear hb); (try clear hb2); (try clear hk); (try clear hi); (try clear ho0); (try clear ho1)) | ((with_reducible refine gate_dst (N := 9) rfl ?_); (try (refine gate_guard (by rfl) ?_; dsimp only)); refine box_event ?hg (N := 9) ?hd (cs := #[.slice none 0 0, .slice none 0 0]) (t := 49) ?hr ?_; (case hd => rfl); (case hg => rfl); (case hr => first | (go_simp; done) | (go_simp; rfl)); intro gb466 hg w16 hbox hb; have n0_ := Aside0.mk (Kd.S_below (by (with_reducible repeat (first | apply Kd.S_alloc | apply Kd.S_drewN | apply Kd.S_drew)); exact HO461.out) hb); have n1_ := Aside0.mk (Kd.S_below (by (with_reducible repeat (first | apply Kd.S_alloc | apply Kd.S_drewN | apply Kd.S_drew)); exact HO464.out) hb); have n2_ := Aside0.mk (blk_below (g := gb456) (o := .cells #[.slice A0_0 l0_0.length c0_0, .slice A0_1 l0_1.length c0_1, .slice A0_2 l0_2.length c0_2, .slice A0_3 l0_3.length c0_3, .int .i64 a0_4] 27 (0, 0)) (by (with_reducible repeat (first | refine blk_drewN ?_ _ | refine blk_drew ?_ | refine blk_alloc ?_ _)); exact BK456.out) hb); have n3_ := Aside0.mk (below_step (by repeat (first | (with_reducible first | exact HB.out | apply below_alloc | apply pw_below_drewN | apply below_drew1 | refine below_set ?_ GE456.out) | exact HB.out)) hb); have n4_ := Aside0.mk (hbox); have n5_ := Aside0.mk ((by rw [hg]; exact (below_size (by repeat (first | (with_reducible first | exact HB.out | apply below_alloc | apply pw_below_drewN | apply below_drew1 | refine below_set ?_ GE456.out) | exact HB.out))) : w.heap.size ≤ gb466)); have n6_ := Aside0.mk ((by rw [hg]; exact (below_size (by repeat (first | (with_reducible first | exact HB.out | apply below_alloc | apply pw_below_drewN | apply below_drew1 | refine below_set ?_ GE456.out) | exact HB.out))) : w.heap.size ≤ gb466)); have n7_ := Aside0.mk ((by rw [hg]; exact Nat.ne_of_lt (blk_lt (g := gb456) (o := .cells #[.slice A0_0 l0_0.length c0_0, .slice A0_1 l0_1.length c0_1, .slice A0_2 l0_2.length c0_2, .slice A0_3 l0_3.length c0_3, .int .i64 a0_4] 27 (0, 0)) (by (with_reducible repeat (first | refine blk_drewN ?_ _ | refine blk_drew ?_ | refine blk_alloc ?_ _)); exact BK456.out)) : gb456 ≠ gb466)); have n8_ := Aside0.mk ((by rw [hg]; exact Nat.ne_of_gt (blk_lt (g := gb456) (o := .cells #[.slice A0_0 l0_0.length c0_0, .slice A0_1 l0_1.length c0_1, .slice A0_2 l0_2.length c0_2, .slice A0_3 l0_3.length c0_3, .int .i64 a0_4] 27 (0, 0)) (by (with_reducible repeat (first | refine blk_drewN ?_ _ | refine blk_drew ?_ | refine blk_alloc ?_ _)); exact BK456.out)) : gb466 ≠ gb456)); clear HO461; clear HO464; clear BK456; clear HB; have HO461 := n0_; have HO464 := n1_; have BK456 := n2_; have HB := n3_; have BK466 := n4_; have GW466 := n5_; have GE466 := n6_; have NB456_466 := n7_; have NB466_456 := n8_; clear n0_ n1_ n2_ n3_ n4_ n5_ n6_ n7_ n8_; clear hb hbox hg; obtain ⟨Ao17, co17, eo17⟩ := Kd.S_slice HO461.out; subst eo17; have hnb18 := NB466_456.out; have hnc18 := NB456_466.out; have hcz19_0 : w16.cell? ⟨gb466, 0, none⟩ = some (.slice none 0 0) := (blk_cell BK466.out 0).trans rfl; have hcz19_1 : w16.cell? ⟨gb466, 1, none⟩ = some (.slice none 0 0) := (blk_cell BK466.out 1).trans rfl; have hfz19_0 := blk_frozen BK466.out 0; have hfz19_1 := blk_frozen BK466.out 1; obtain ⟨Ao20, co20, eo20⟩ := Kd.S_slice HO464.out; subst eo20))
   (try simp only [Act.put, List.setIfInBounds_toArray, List.set_cons_zero, List.set_cons_succ])
   go_cut [40] (fun v40 wc => ∃ (kq : Nat) (x40_8 : Bool), v40 = .bool x40_8 ∧ Aside0 (syntagmlaw14_StatesSteps.j0 kq a1 a2 true x40_8 l0_0 l0_1 l0_2 l0_3 a0_4 t459 t462 = some r) ∧ Aside0 (kq ≤ k) ∧ Aside0 (Kd.S (Kd.slice 37 k37) 28 wc w.heap.size (fun _ => True) (.slice Ao17 t459.length co17) t459) ∧ Aside0 (Kd.S (Kd.slice 3 (Kd.int .i64)) 58 wc w.heap.size (fun _ => True) (.slice Ao20 t462.length co20) t462) ∧ Aside0 (wc.heap[gb456]? = some (.cells #[(.slice A0_0 l0_0.length c0_0), (.slice A0_1 l0_1.length c0_1), (.slice A0_2 l0_2.length c0_2), (.slice A0_3 l0_3.length c0_3), .int .i64 a0_4] 27 (0, 0))) ∧ Aside0 (wc.heap[gb466]? = some (.cells #[(.slice Ao17 t459.length co17), (.slice Ao20 t462.length co20)] 49 (0, 0))) ∧ Aside0 (Below w.heap.size w wc))
   case first =>
    have H := HC9.out
    clear HC9
    by_cases c21 : t465 = 0
    ·rw [if_pos c21] at H
     have c21b0 : (t465 == 0) = true := beq_iff_eq.mpr c21
     have c21b1 : (t465 != 0) = false := bne_eq_false_iff_eq.mpr c21
     clear c21
     (first | rw [c21b0] | (simp only [i64_w, i32_w]; rw [c21b0]) | skip)
     by_cases c22 : a1 < 0
     ·rw [if_pos c22] at H
      have c22b0 : decide (a1 < 0) = true := decide_eq_true c22
      clear c22
      have H' := Aside0.mk H
      clear H
      go_wp2
      go_meet
      case rel => exact ⟨_, (true), (by first | rfl | (simp; done) | (simp [*]; done)), H', ⟨by first | omega | exact Nat.le_refl _⟩, ⟨by (with_reducible repeat (first | apply Kd.S_alloc | apply Kd.S_drewN | apply Kd.S_drew)); exact Kd.S_mono (Kd.S_far (p := ⟨gb466, 1, none⟩) (Kd.S_far (p := ⟨gb466, 0, none⟩) (Kd.S_types HO461.out BK466.out (by decide)) (fun _ hk => hk.2) (.slice Ao17 t459.length co17)) (fun _ hk => hk.2) (.slice Ao20 t462.length co20)) (fun _ hk => trivial)⟩, ⟨by (with_reducible repeat (first | apply Kd.S_alloc | apply Kd.S_drewN | apply Kd.S_drew)); exact Kd.S_mono (Kd.S_far (p := ⟨gb466, 1, none⟩) (Kd.S_far (p := ⟨gb466, 0, none⟩) (Kd.S_types HO464.out BK466.out (by decide)) (fun _ hk => hk.2) (.slice Ao17 t459.length co17)) (fun _ hk => hk.2) (.slice Ao20 t462.length co20)) (fun _ hk => trivial)⟩, ⟨by (with_reducible repeat (first | refine blk_drewN ?_ _ | refine blk_drew ?_ | refine blk_alloc ?_ _)); refine blk_far ?_ NB456_466.out _; (with_reducible repeat (first | refine blk_drewN ?_ _ | refine blk_drew ?_ | refine blk_alloc ?_ _)); refine blk_far ?_ NB456_466.out _; (with_reducible repeat (first | refine blk_drewN ?_ _ | refine blk_drew ?_ | refine blk_alloc ?_ _)); exact BK456.out⟩, ⟨by (with_reducible repeat (first | refine blk_drewN ?_ _ | refine blk_drew ?_ | refine blk_alloc ?_ _)); refine blk_put (cs := #[.slice Ao17 t459.length co17, .slice none 0 0]) ?_ 1 _ rfl; (with_reducible repeat (first | refine blk_drewN ?_ _ | refine blk_drew ?_ | refine blk_alloc ?_ _)); refine blk_put (cs := #[.slice none 0 0, .slice none 0 0]) ?_ 0 _ rfl; (with_reducible repeat (first | refine blk_drewN ?_ _ | refine blk_drew ?_ | refine blk_alloc ?_ _)); exact BK466.out⟩, ⟨by repeat (first | (with_reducible first | exact HB.out | apply below_alloc | apply pw_below_drewN | apply below_drew1 | refine below_set ?_ GE456.out | refine below_set ?_ GE466.out) | exact HB.out)⟩⟩
     ·rw [if_neg c22] at H
      have c22b0 : decide (a1 < 0) = false := decide_eq_false c22
      clear c22
      have H' := Aside0.mk H
      clear H
      have hnb23 := NB466_456.out
      have hnc23 := NB456_466.out
      have hcz24_0 : w16.cell? ⟨gb466, 0, none⟩ = some (.slice none 0 0) := (blk_cell BK466.out 0).trans rfl
      have hcz24_1 : w16.cell? ⟨gb466, 1, none⟩ = some (.slice none 0 0) := (blk_cell BK466.out 1).trans rfl
      have hfz24_0 := blk_frozen BK466.out 0
      have hfz24_1 := blk_frozen BK466.out 1
      go_wp2
      go_meet
      case rel => exact ⟨_, (decide (a1 ≥ (t459.length : Int))), (by first | rfl | (simp; done) | (simp [*]; done)), H', ⟨by first | omega | exact Nat.le_refl _⟩, ⟨by (with_reducible repeat (first | apply Kd.S_alloc | apply Kd.S_drewN | apply Kd.S_drew)); exact Kd.S_mono (Kd.S_far (p := ⟨gb466, 1, none⟩) (Kd.S_far (p := ⟨gb466, 0, none⟩) (Kd.S_types HO461.out BK466.out (by decide)) (fun _ hk => hk.2) (.slice Ao17 t459.length co17)) (fun _ hk => hk.2) (.slice Ao20 t462.length co20)) (fun _ hk => trivial)⟩, ⟨by (with_reducible repeat (first | apply Kd.S_alloc | apply Kd.S_drewN | apply Kd.S_drew)); exact Kd.S_mono (Kd.S_far (p := ⟨gb466, 1, none⟩) (Kd.S_far (p := ⟨gb466, 0, none⟩) (Kd.S_types HO464.out BK466.out (by decide)) (fun _ hk => hk.2) (.slice Ao17 t459.length co17)) (fun _ hk => hk.2) (.slice Ao20 t462.length co20)) (fun _ hk => trivial)⟩, ⟨by (with_reducible repeat (first | refine blk_drewN ?_ _ | refine blk_drew ?_ | refine blk_alloc ?_ _)); refine blk_far ?_ NB456_466.out _; (with_reducible repeat (first | refine blk_drewN ?_ _ | refine blk_drew ?_ | refine blk_alloc ?_ _)); refine blk_far ?_ NB456_466.out _; (with_reducible repeat (first | refine blk_drewN ?_ _ | refine blk_drew ?_ | refine blk_alloc ?_ _)); exact BK456.out⟩, ⟨by (with_reducible repeat (first | refine blk_drewN ?_ _ | refine blk_drew ?_ | refine blk_alloc ?_ _)); refine blk_put (cs := #[.slice Ao17 t459.length co17, .slice none 0 0]) ?_ 1 _ rfl; (with_reducible repeat (first | refine blk_drewN ?_ _ | refine blk_drew ?_ | refine blk_alloc ?_ _)); refine blk_put (cs := #[.slice none 0 0, .slice none 0 0]) ?_ 0 _ rfl; (with_reducible repeat (first | refine blk_drewN ?_ _ | refine blk_drew ?_ | refine blk_alloc ?_ _)); exact BK466.out⟩, ⟨by repeat (first | (with_reducible first | exact HB.out | apply below_alloc | apply pw_below_drewN | apply below_drew1 | refine below_set ?_ GE456.out | refine below_set ?_ GE466.out) | exact HB.out)⟩⟩
    ·rw [if_neg c21] at H
     have c21b0 : (t465 == 0) = false := beq_eq_false_iff_ne.mpr c21
     have c21b1 : (t465 != 0) = true := bne_iff_ne.mpr c21
     (first | rw [c21b0] | (simp only [i64_w, i32_w]; rw [c21b0]) | skip)
     have H' := Aside0.mk H
     clear H
     go_wp2
     go_meet
     case rel => exact ⟨_, (true), (by first | rfl | (simp; done) | (simp [*]; done)), H', ⟨by first | omega | exact Nat.le_refl _⟩, ⟨by (with_reducible repeat (first | apply Kd.S_alloc | apply Kd.S_drewN | apply Kd.S_drew)); exact Kd.S_mono (Kd.S_far (p := ⟨gb466, 1, none⟩) (Kd.S_far (p := ⟨gb466, 0, none⟩) (Kd.S_types HO461.out BK466.out (by decide)) (fun _ hk => hk.2) (.slice Ao17 t459.length co17)) (fun _ hk => hk.2) (.slice Ao20 t462.length co20)) (fun _ hk => trivial)⟩, ⟨by (with_reducible repeat (first | apply Kd.S_alloc | apply Kd.S_drewN | apply Kd.S_drew)); exact Kd.S_mono (Kd.S_far (p := ⟨gb466, 1, none⟩) (Kd.S_far (p := ⟨gb466, 0, none⟩) (Kd.S_types HO464.out BK466.out (by decide)) (fun _ hk => hk.2) (.slice Ao17 t459.length co17)) (fun _ hk => hk.2) (.slice Ao20 t462.length co20)) (fun _ hk => trivial)⟩, ⟨by (with_reducible repeat (first | refine blk_drewN ?_ _ | refine blk_drew ?_ | refine blk_alloc ?_ _)); refine blk_far ?_ NB456_466.out _; (with_reducible repeat (first | refine blk_drewN ?_ _ | refine blk_drew ?_ | refine blk_alloc ?_ _)); refine blk_far ?_ NB456_466.out _; (with_reducible repeat (first | refine blk_drewN ?_ _ | refine blk_drew ?_ | refine blk_alloc ?_ _)); exact BK456.out⟩, ⟨by (with_reducible repeat (first | refine blk_drewN ?_ _ | refine blk_drew ?_ | refine blk_alloc ?_ _)); refine blk_put (cs := #[.slice Ao17 t459.length co17, .slice none 0 0]) ?_ 1 _ rfl; (with_reducible repeat (first | refine blk_drewN ?_ _ | refine blk_drew ?_ | refine blk_alloc ?_ _)); refine blk_put (cs := #[.slice none 0 0, .slice none 0 0]) ?_ 0 _ rfl; (with_reducible repeat (first | refine blk_drewN ?_ _ | refine blk_drew ?_ | refine blk_alloc ?_ _)); exact BK466.out⟩, ⟨by repeat (first | (with_reducible first | exact HB.out | apply below_alloc | apply pw_below_drewN | apply below_drew1 | refine below_set ?_ GE456.out | refine below_set ?_ GE466.out) | exact HB.out)⟩⟩
   case rest =>
    clear HC9
    try clear c1
    try clear c2
    try clear p2
    try clear c5
    try clear c7
    try clear c12
    try clear c18
    try clear c21
    try clear c21b0
    try clear c21b1
    try clear c22
    try clear c22b0
    try clear c23
    try clear hcz12_0
    try clear hcz12_1
    try clear hcz12_2
    try clear hcz12_3
    try clear hcz12_4
    try clear hcz14_0
    try clear hcz14_1
    try clear hcz14_2
    try clear hcz14_3
    try clear hcz14_4
    try clear hcz19_0
    try clear hcz19_1
    try clear hcz24_0
    try clear hcz24_1
    try clear hfz12_0
    try clear hfz12_1
    try clear hfz12_2
    try clear hfz12_3
    try clear hfz12_4
    try clear hfz14_0
    try clear hfz14_1
    try clear hfz14_2
    try clear hfz14_3
    try clear hfz14_4
    try clear hfz19_0
    try clear hfz19_1
    try clear hfz24_0
    try clear hfz24_1
    obtain ⟨kq, x40_8, rfl, HA, HJ8, HO_467000, HO_467001, BK456, BK466, HB⟩ := hcut
    cases kq with
    | zero => exact absurd HA.out (by simp [syntagmlaw14_StatesSteps.j0])
    | succ kj8 =>
     have H := HA.out
     clear HA
     simp only [syntagmlaw14_StatesSteps.j0] at H
     by_cases c25 : x40_8 = true
     ·subst c25
      have H1 : (some true) = some r := by rw [if_pos rfl] at H; exact H
      clear H
      have H := H1
      clear H1
      obtain rfl := Option.some.inj H
      go_wp2
      go_ret
      exact ⟨by first | rfl | (simp [errW_none, errW_some] <;> rfl) | (simp [*, errW_none, errW_some] <;> rfl), by repeat (first | (with_reducible first | exact HB.out | apply below_alloc | apply pw_below_drewN | apply below_drew1 | refine below_set ?_ GE456.out | refine below_set ?_ GE466.out) | exact HB.out)⟩
     ·replace c25 := Bool.eq_false_iff.mpr c25
      subst c25
      have H1 : (if 0 ≤ a1 then (if a1 < (t459.length : Int) then ((states_Close.f l0_0 l0_1 l0_2 l0_3 a0_4 (rd_L15 t459 a1)).bind fun t468 => ((states_Step.f l0_0 l0_1 l0_2 l0_3 a0_4 (rd_L15 t459 a1) a2).bind fun t472 => ((states_Step.f l0_0 l0_1 l0_2 l0_3 a0_4 t468 a2).bind fun t475 => ((states_Go.f l0_0 l0_1 l0_2 l0_3 a0_4 t459 t462 a1 a2).bind fun t478 => ((syntagmlaw14_Row.f kj8 t472).bind fun t479 => ((syntagmlaw14_Row.f kj8 t475).bind fun t482 => ((syntagmref14_Row.f kj8 t479 t482).bind fun t485 => (if t485 = true then (if t478 < 0 then (if true = true then (some ((t472.length : Int) == 0)) else (some false)) else (if true = true then ((syntagmlaw14_Row.f kj8 t472).bind fun t486 => (if 0 ≤ t478 then (if t478 < (t459.length : Int) then ((syntagmlaw14_Row.f kj8 (rd_L15 t459 t478)).bind fun t490 => ((syntagmref14_Row.f kj8 t486 t490).bind fun t493 => (some t493))) else (none)) else (none))) else (some false))) else (some false))))))))) else (none)) else (none)) = some r := by rw [if_neg (show ¬ (false = true) by decide)] at H; exact H
      clear H
      have H := H1
      clear H1
      by_cases c26 : 0 ≤ a1
      ·rw [if_pos c26] at H
       have c26b0 : decide (0 ≤ a1) = true := decide_eq_true c26
       clear c26
       by_cases c27 : a1 < (t459.length : Int)
       ·rw [if_pos c27] at H
        have c27b0 : decide (a1 < (t459.length : Int)) = true := decide_eq_true c27
        clear c27
        replace H := Option.bind_eq_some_iff.mp H
        obtain ⟨t468, A280, H⟩ := H
        replace H : ((states_Step.f l0_0 l0_1 l0_2 l0_3 a0_4 (rd_L15 t459 a1) a2).bind fun t472 => ((states_Step.f l0_0 l0_1 l0_2 l0_3 a0_4 t468 a2).bind fun t475 => ((states_Go.f l0_0 l0_1 l0_2 l0_3 a0_4 t459 t462 a1 a2).bind fun t478 => ((syntagmlaw14_Row.f kj8 t472).bind fun t479 => ((syntagmlaw14_Row.f kj8 t475).bind fun t482 => ((syntagmref14_Row.f kj8 t479 t482).bind fun t485 => (if t485 = true then (if t478 < 0 then (if true = true then (some ((t472.length : Int) == 0)) else (some false)) else (if true = true then ((syntagmlaw14_Row.f kj8 t472).bind fun t486 => (if 0 ≤ t478 then (if t478 < (t459.length : Int) then ((syntagmlaw14_Row.f kj8 (rd_L15 t459 t478)).bind fun t490 => ((syntagmref14_Row.f kj8 t486 t490).bind fun t493 => (some t493))) else (none)) else (none))) else (some false))) else (some false)))))))) = some r := H
        have A28 := Aside0.mk A280
        clear A280
        replace H := Option.bind_eq_some_iff.mp H
        obtain ⟨t472, A290, H⟩ := H
        replace H : ((states_Step.f l0_0 l0_1 l0_2 l0_3 a0_4 t468 a2).bind fun t475 => ((states_Go.f l0_0 l0_1 l0_2 l0_3 a0_4 t459 t462 a1 a2).bind fun t478 => ((syntagmlaw14_Row.f kj8 t472).bind fun t479 => ((syntagmlaw14_Row.f kj8 t475).bind fun t482 => ((syntagmref14_Row.f kj8 t479 t482).bind fun t485 => (if t485 = true then (if t478 < 0 then (if true = true then (some ((t472.length : Int) == 0)) else (some false)) else (if true = true then ((syntagmlaw14_Row.f kj8 t472).bind fun t486 => (if 0 ≤ t478 then (if t478 < (t459.length : Int) then ((syntagmlaw14_Row.f kj8 (rd_L15 t459 t478)).bind fun t490 => ((syntagmref14_Row.f kj8 t486 t490).bind fun t493 => (some t493))) else (none)) else (none))) else (some false))) else (some false))))))) = some r := H
        have A29 := Aside0.mk A290
        clear A290
        replace H := Option.bind_eq_some_iff.mp H
        obtain ⟨t475, A300, H⟩ := H
        replace H : ((states_Go.f l0_0 l0_1 l0_2 l0_3 a0_4 t459 t462 a1 a2).bind fun t478 => ((syntagmlaw14_Row.f kj8 t472).bind fun t479 => ((syntagmlaw14_Row.f kj8 t475).bind fun t482 => ((syntagmref14_Row.f kj8 t479 t482).bind fun t485 => (if t485 = true then (if t478 < 0 then (if true = true then (some ((t472.length : Int) == 0)) else (some false)) else (if true = true then ((syntagmlaw14_Row.f kj8 t472).bind fun t486 => (if 0 ≤ t478 then (if t478 < (t459.length : Int) then ((syntagmlaw14_Row.f kj8 (rd_L15 t459 t478)).bind fun t490 => ((syntagmref14_Row.f kj8 t486 t490).bind fun t493 => (some t493))) else (none)) else (none))) else (some false))) else (some false)))))) = some r := H
        have A30 := Aside0.mk A300
        clear A300
        replace H := Option.bind_eq_some_iff.mp H
        obtain ⟨t478, A310, H⟩ := H
        replace H : ((syntagmlaw14_Row.f kj8 t472).bind fun t479 => ((syntagmlaw14_Row.f kj8 t475).bind fun t482 => ((syntagmref14_Row.f kj8 t479 t482).bind fun t485 => (if t485 = true then (if t478 < 0 then (if true = true then (some ((t472.length : Int) == 0)) else (some false)) else (if true = true then ((syntagmlaw14_Row.f kj8 t472).bind fun t486 => (if 0 ≤ t478 then (if t478 < (t459.length : Int) then ((syntagmlaw14_Row.f kj8 (rd_L15 t459 t478)).bind fun t490 => ((syntagmref14_Row.f kj8 t486 t490).bind fun t493 => (some t493))) else (none)) else (none))) else (some false))) else (some false))))) = some r := H
        have A31 := Aside0.mk A310
        clear A310
        replace H := Option.bind_eq_some_iff.mp H
        obtain ⟨t479, A320, H⟩ := H
        replace H : ((syntagmlaw14_Row.f kj8 t475).bind fun t482 => ((syntagmref14_Row.f kj8 t479 t482).bind fun t485 => (if t485 = true then (if t478 < 0 then (if true = true then (some ((t472.length : Int) == 0)) else (some false)) else (if true = true then ((syntagmlaw14_Row.f kj8 t472).bind fun t486 => (if 0 ≤ t478 then (if t478 < (t459.length : Int) then ((syntagmlaw14_Row.f kj8 (rd_L15 t459 t478)).bind fun t490 => ((syntagmref14_Row.f kj8 t486 t490).bind fun t493 => (some t493))) else (none)) else (none))) else (some false))) else (some false)))) = some r := H
        have A32 := Aside0.mk A320
        clear A320
        replace H := Option.bind_eq_some_iff.mp H
        obtain ⟨t482, A330, H⟩ := H
        replace H : ((syntagmref14_Row.f kj8 t479 t482).bind fun t485 => (if t485 = true then (if t478 < 0 then (if true = true then (some ((t472.length : Int) == 0)) else (some false)) else (if true = true then ((syntagmlaw14_Row.f kj8 t472).bind fun t486 => (if 0 ≤ t478 then (if t478 < (t459.length : Int) then ((syntagmlaw14_Row.f kj8 (rd_L15 t459 t478)).bind fun t490 => ((syntagmref14_Row.f kj8 t486 t490).bind fun t493 => (some t493))) else (none)) else (none))) else (some false))) else (some false))) = some r := H
        have A33 := Aside0.mk A330
        clear A330
        replace H := Option.bind_eq_some_iff.mp H
        obtain ⟨t485, A340, H⟩ := H
        replace H : (if t485 = true then (if t478 < 0 then (if true = true then (some ((t472.length : Int) == 0)) else (some false)) else (if true = true then ((syntagmlaw14_Row.f kj8 t472).bind fun t486 => (if 0 ≤ t478 then (if t478 < (t459.length : Int) then ((syntagmlaw14_Row.f kj8 (rd_L15 t459 t478)).bind fun t490 => ((syntagmref14_Row.f kj8 t486 t490).bind fun t493 => (some t493))) else (none)) else (none))) else (some false))) else (some false)) = some r := H
        have A34 := Aside0.mk A340
        clear A340
        by_cases c35 : t485 = true
        ·subst c35
         have H1 : (if t478 < 0 then (if true = true then (some ((t472.length : Int) == 0)) else (some false)) else (if true = true then ((syntagmlaw14_Row.f kj8 t472).bind fun t486 => (if 0 ≤ t478 then (if t478 < (t459.length : Int) then ((syntagmlaw14_Row.f kj8 (rd_L15 t459 t478)).bind fun t490 => ((syntagmref14_Row.f kj8 t486 t490).bind fun t493 => (some t493))) else (none)) else (none))) else (some false))) = some r := by rw [if_pos rfl] at H; exact H
         clear H
         have H := H1
         clear H1
         by_cases c36 : t478 < 0
         ·rw [if_pos c36] at H
          have c36b0 : decide (t478 < 0) = true := decide_eq_true c36
          clear c36
          replace H : (some ((t472.length : Int) == 0)) = some r := by first | (rw [if_pos rfl] at H; exact H) | (rw [if_pos trivial] at H; exact H)
          obtain rfl := Option.some.inj H
          try go_wp2
          have n0_ := Aside0.mk (Kd.S_drew HO_467000.out)
          have n1_ := Aside0.mk (Kd.S_drew HO_467001.out)
          have n2_ := Aside0.mk (blk_drew BK456.out)
          have n3_ := Aside0.mk (blk_drew BK466.out)
          have n4_ := Aside0.mk (below_drew1 HB.out)
          clear HO_467000
          clear HO_467001
          clear BK456
          clear BK466
          clear HB
          have HO_467000 := n0_
          have HO_467001 := n1_
          have BK456 := n2_
          have BK466 := n3_
          have HB := n4_
          clear n0_ n1_ n2_ n3_ n4_
          have p467 : 0 ≤ (a1 : Int) := of_decide_eq_true (by first | (with_reducible assumption) | assumption)
          have q467 : a1 < (t459.length : Int) := of_decide_eq_true (by first | (with_reducible assumption) | assumption)
          obtain ⟨ad467, A467_0, c467_0, e467, hx467_0, hl467_0, hi467_0⟩ := at_L15 (Kd.S_reads' HO_467000.out).2.2 a1 p467 q467
          cases e467
          obtain ⟨ce467, hce467, hMe467, hcc467⟩ := Kd.S_get HO_467000.out [] a1 p467 (by first | exact q467 | exact of_decide_eq_true (by first | (with_reducible assumption) | assumption) | (have e_ := (Kd.S_reads' HO_467000.out).1; omega))
          obtain ⟨ve467_0, rfl, ge467_0⟩ := hMe467
          have hv467_0 := hcc467 0 _ rfl
          rw [Nat.add_zero, show ((Kd.slice 37 k37)).sz = 1 from rfl, Nat.mul_one] at hv467_0
          replace hv467_0 := Option.some.inj (hv467_0.symm.trans hx467_0)
          rw [hv467_0] at ge467_0
          have HL467_0 := Aside0.mk (show Kd.R k37 37 _ _ _ _ (rd_L15 t459 a1) from ge467_0)
          clear hv467_0 ge467_0
          clear hcc467 hce467
          have HR467_0 := Aside0.mk hi467_0
          have HC467_0 := Aside0.mk hl467_0
          clear hi467_0 hl467_0
          replace p467 := eq_true p467
          replace q467 := eq_true q467
          refine start_ (n := 8) (S := fun w' => w'.cell? ⟨gb456, 0, none⟩ = some (.slice A0_0 l0_0.length c0_0) ∧ w'.cell? ⟨gb456, 1, none⟩ = some (.slice A0_1 l0_1.length c0_1) ∧ w'.cell? ⟨gb456, 2, none⟩ = some (.slice A0_2 l0_2.length c0_2) ∧ w'.cell? ⟨gb456, 3, none⟩ = some (.slice A0_3 l0_3.length c0_3) ∧ w'.cell? ⟨gb456, 4, none⟩ = some (.int .i64 a0_4) ∧ w'.cell? ⟨gb466, 0, none⟩ = some (.slice (some ad467) t459.length co17) ∧ w'.cell? ⟨gb466, 1, none⟩ = some (.slice Ao20 t462.length co20) ∧ w'.cell? (ad467.add (a1).toNat) = some (.slice A467_0 (rd_L15 t459 a1).length c467_0)) (ds := []) #[false, false, false, false, false, false, false, false] (by kernel_rfl) rfl rfl ⟨(blk_cell BK456.out 0).trans rfl, (blk_cell BK456.out 1).trans rfl, (blk_cell BK456.out 2).trans rfl, (blk_cell BK456.out 3).trans rfl, (blk_cell BK456.out 4).trans rfl, (blk_cell BK466.out 0).trans rfl, (blk_cell BK466.out 1).trans rfl, hx467_0⟩ (fun hHeld => ?_); refine with_tabW syntagmlaw14_StatesSteps.tab10 syntagmlaw14_StatesSteps.bits10 (fun HT_ HW_ => ?_)
          generalize wc.drew = w37 at HO_467000 HO_467001 BK456 BK466 HB HL467_0 HR467_0 hx467_0 hHeld ⊢
          refine pure_ (i := 1) (N := some 43) (v := ?_) (a' := ?_) #[false, true, false, false, false, false, false, false] rfl rfl (any_of HT_.out (by kernel_rfl)) (fun _ _ _ h => h) (Or.inl ⟨by rfl, ?_⟩) ?_ ?_
          rotate_left
          ·intro w'
           go_simp
           with_reducible rfl
          rotate_left
          ·simp only [Act.put, List.setIfInBounds_toArray, List.set_cons_zero, List.set_cons_succ, i64_w, i32_w]
           rfl
          refine pure_ (i := 3) (N := some 45) (v := ?_) (a' := ?_) #[false, true, false, true, false, false, false, false] rfl rfl (any_of HT_.out (by kernel_rfl)) (fun _ _ _ h => h) (Or.inl ⟨by rfl, ?_⟩) ?_ ?_
          rotate_left
          ·intro w'
           go_simp
           with_reducible rfl
          rotate_left
          ·simp only [Act.put, List.setIfInBounds_toArray, List.set_cons_zero, List.set_cons_succ, i64_w, i32_w]
           rfl
          refine take_ (i := 0) (N := some 42) (v := ?_) (a' := ?_) #[true, true, false, true, false, false, false, false] rfl rfl (take_ofW HT_.out HW_.out (by kernel_rfl)) (fun _ _ _ h => h) (Or.inl ⟨by rfl, ?_⟩) hHeld ?_ ?_
          rotate_left
          ·rintro w' ⟨s0, s1, s2, s3, s4, s5, s6, s7⟩
           go_simp
           with_reducible rfl
          rotate_left
          ·simp only [Act.put, List.setIfInBounds_toArray, List.set_cons_zero, List.set_cons_succ, i64_w, i32_w]
           rfl
          refine take_ (i := 2) (N := some 44) (v := ?_) (a' := ?_) #[true, true, true, true, false, false, false, false] rfl rfl (take_ofW HT_.out HW_.out (by kernel_rfl)) (fun _ _ _ h => h) (Or.inl ⟨by rfl, ?_⟩) hHeld ?_ ?_
          rotate_left
          ·rintro w' ⟨s0, s1, s2, s3, s4, s5, s6, s7⟩
           go_simp
           with_reducible rfl
          rotate_left
          ·simp only [Act.put, List.setIfInBounds_toArray, List.set_cons_zero, List.set_cons_succ, i64_w, i32_w]
           rfl
          refine pure_ (i := 4) (N := some 46) (v := ?_) (a' := ?_) #[true, true, true, true, true, false, false, false] rfl rfl (any_of HT_.out (by kernel_rfl)) (fun _ _ _ h => h) (Or.inl ⟨by rfl, ?_⟩) ?_ ?_
          rotate_left
          ·intro w'
           go_simp
           with_reducible rfl
          rotate_left
          ·simp only [Act.put, List.setIfInBounds_toArray, List.set_cons_zero, List.set_cons_succ, i64_w, i32_w]
           rfl
          refine take_ (i := 5) (N := some 47) (v := ?_) (a' := ?_) #[true, true, true, true, true, true, false, false] rfl rfl (take_ofW HT_.out HW_.out (by kernel_rfl)) (fun _ _ _ h => h) (Or.inl ⟨by rfl, ?_⟩) hHeld ?_ ?_
          rotate_left
          ·rintro w' ⟨s0, s1, s2, s3, s4, s5, s6, s7⟩
           go_simp
           with_reducible rfl
          rotate_left
          ·simp only [Act.put, List.setIfInBounds_toArray, List.set_cons_zero, List.set_cons_succ, i64_w, i32_w]
           rfl
          refine one_ (i := 6) (N := some 48) #[true, true, true, true, true, true, true, false] rfl rfl (one_of HT_.out (by kernel_rfl)) (by decide) (fun K hK => ?_)
          refine goes_ Tryd.func18 (by kernel_rfl) rfl #[.agg #[.slice A0_0 l0_0.length c0_0, .slice A0_1 l0_1.length c0_1, .slice A0_2 l0_2.length c0_2, .slice A0_3 l0_3.length c0_3, .int .i64 a0_4], .slice A467_0 (rd_L15 t459 a1).length c467_0] (by rfl) rfl rfl (by (try simp only [List.map_toArray, List.map_cons, List.map_nil]); first | done | rfl | (simp only [List.length_drop, List.length_take]; rfl)) ?_
          with_reducible refine (states_Close.calls _ _ l0_0 _ _ l0_1 _ _ l0_2 _ _ l0_3 a0_4 _ _ (rd_L15 t459 a1) t468 _ ?side1 ?side2 ?side3 ?side4 ?side5 ?side6 ?side7 ?side8 ?side9 ?side10 A28.out).mono ?_
          (case side1 => repeat (first | exact (Kd.C_below HR0_0.out HB.out) | (with_reducible refine Kd.C_alloc ?_ _) | (with_reducible refine Kd.C_drewN ?_ _) | (with_reducible refine Kd.C_drew ?_)))
          (case side2 => exact HC0_0.out)
          (case side3 => repeat (first | exact (Kd.C_below HR0_1.out HB.out) | (with_reducible refine Kd.C_alloc ?_ _) | (with_reducible refine Kd.C_drewN ?_ _) | (with_reducible refine Kd.C_drew ?_)))
          (case side4 => exact HC0_1.out)
          (case side5 => repeat (first | exact (Kd.C_below HR0_2.out HB.out) | (with_reducible refine Kd.C_alloc ?_ _) | (with_reducible refine Kd.C_drewN ?_ _) | (with_reducible refine Kd.C_drew ?_)))
          (case side6 => exact HC0_2.out)
          (case side7 => repeat (first | exact (Kd.C_below HR0_3.out HB.out) | (with_reducible refine Kd.C_alloc ?_ _) | (with_reducible refine Kd.C_drewN ?_ _) | (with_reducible refine Kd.C_drew ?_)))
          (case side8 => exact HC0_3.out)
          (case side9 => repeat (first | exact (by repeat (first | (with_reducible exact HR467_0.out) | (with_reducible refine Kd.C_alloc ?_ _) | (with_reducible refine Kd.C_drewN ?_ _) | (with_reducible refine Kd.C_drew ?_) | exact HR467_0.out)) | (with_reducible refine Kd.C_alloc ?_ _) | (with_reducible refine Kd.C_drewN ?_ _) | (with_reducible refine Kd.C_drew ?_)))
          (case side10 => exact HC467_0.out)
          rintro e w38 ⟨v469, rfl, ho0, hb⟩
          have HS7_ := (hb.cell (World.block_lt_of_cell? _ _ (hHeld.2.2.2.2.2.2.2))).trans (hHeld.2.2.2.2.2.2.2)
          refine ⟨_, rfl, ?_⟩
          have n0_ := Aside0.mk (Kd.S_elder' (by (with_reducible repeat (first | apply Kd.S_alloc | apply Kd.S_drewN | apply Kd.S_drew)); exact HO_467000.out) (Kd.R_base ho0) hb)
          have n1_ := Aside0.mk (Kd.S_below (by (with_reducible repeat (first | apply Kd.S_alloc | apply Kd.S_drewN | apply Kd.S_drew)); exact HO_467001.out) hb)
          have n2_ := Aside0.mk (Kd.R_elder' (by (with_reducible repeat (first | apply Kd.R_alloc | apply Kd.R_drewN | apply Kd.R_drew)); exact HL467_0.out) (Kd.R_base ho0) hb)
          have n3_ := Aside0.mk (Kd.R_lower (Kd.R_new' ho0 (Kd.R_lt (by (with_reducible repeat (first | apply Kd.R_alloc | apply Kd.R_drewN | apply Kd.R_drew)); exact HL467_0.out))) (below_size (by repeat (first | (with_reducible first | exact HB.out | apply below_alloc | apply pw_below_drewN | apply below_drew1 | refine below_set ?_ GE456.out | refine below_set ?_ GE466.out) | exact HB.out))))
          have n4_ := Aside0.mk (blk_below (g := gb456) (o := .cells #[.slice A0_0 l0_0.length c0_0, .slice A0_1 l0_1.length c0_1, .slice A0_2 l0_2.length c0_2, .slice A0_3 l0_3.length c0_3, .int .i64 a0_4] 27 (0, 0)) (by (with_reducible repeat (first | refine blk_drewN ?_ _ | refine blk_drew ?_ | refine blk_alloc ?_ _)); exact BK456.out) hb)
          have n5_ := Aside0.mk (blk_below (g := gb466) (o := .cells #[.slice (some ad467) t459.length co17, .slice Ao20 t462.length co20] 49 (0, 0)) (by (with_reducible repeat (first | refine blk_drewN ?_ _ | refine blk_drew ?_ | refine blk_alloc ?_ _)); exact BK466.out) hb)
          have n6_ := Aside0.mk (Kd.C_below (by repeat (first | (with_reducible exact HR467_0.out) | (with_reducible refine Kd.C_alloc ?_ _) | (with_reducible refine Kd.C_drewN ?_ _) | (with_reducible refine Kd.C_drew ?_) | exact HR467_0.out)) hb)
          have n7_ := Aside0.mk (below_step (by repeat (first | (with_reducible first | exact HB.out | apply below_alloc | apply pw_below_drewN | apply below_drew1 | refine below_set ?_ GE456.out | refine below_set ?_ GE466.out) | exact HB.out)) hb)
          clear HO_467000
          clear HO_467001
          clear HL467_0
          clear BK456
          clear BK466
          clear HR467_0
          clear HB
          have HO_467000 := n0_
          have HO_467001 := n1_
          have HL467_0 := n2_
          have HO470 := n3_
          have BK456 := n4_
          have BK466 := n5_
          have HR467_0 := n6_
          have HB := n7_
          clear n0_ n1_ n2_ n3_ n4_ n5_ n6_ n7_
          (try clear hb)
          (try clear hb2)
          (try clear hk)
          (try clear hi)
          (try clear ho0)
          refine hK.out _ _ ⟨(blk_cell BK456.out 0).trans rfl, (blk_cell BK456.out 1).trans rfl, (blk_cell BK456.out 2).trans rfl, (blk_cell BK456.out 3).trans rfl, (blk_cell BK456.out 4).trans rfl, (blk_cell BK466.out 0).trans rfl, (blk_cell BK466.out 1).trans rfl, HS7_⟩ (fun hHeld => ?_)
          clear hK K
          refine norm_ (a' := ?_) ?_ ?_
          rotate_left
          ·show Act.put _ (some 48) _ = _
           simp only [Act.put, List.setIfInBounds_toArray, List.set_cons_zero, List.set_cons_succ, i64_w, i32_w]
           rfl
          refine pure_ (i := 7) (N := some 11) (v := ?_) (a' := ?_) #[true, true, true, true, true, true, true, true] rfl rfl (any_of HT_.out (by kernel_rfl)) (fun _ _ _ h => h) (Or.inl ⟨by rfl, ?_⟩) ?_ ?_
          rotate_left
          ·intro w'
           go_simp
           with_reducible rfl
          rotate_left
          ·simp only [Act.put, List.setIfInBounds_toArray, List.set_cons_zero, List.set_cons_succ, i64_w, i32_w]
           rfl
          refine done_ (done_of HT_.out (by kernel_rfl)) ?_
          try go_wp2
          have n0_ := Aside0.mk (Kd.S_drew HO_467000.out)
          have n1_ := Aside0.mk (Kd.S_drew HO_467001.out)
          have n2_ := Aside0.mk (Kd.R_drew HL467_0.out)
          have n3_ := Aside0.mk (Kd.R_drew HO470.out)
          have n4_ := Aside0.mk (blk_drew BK456.out)
          have n5_ := Aside0.mk (blk_drew BK466.out)
          have n6_ := Aside0.mk (Kd.C_drew HR467_0.out)
          have n7_ := Aside0.mk (below_drew1 HB.out)
          clear HO_467000
          clear HO_467001
          clear HL467_0
          clear HO470
          clear BK456
          clear BK466
          clear HR467_0
          clear HB
          have HO_467000 := n0_
          have HO_467001 := n1_
          have HL467_0 := n2_
          have HO470 := n3_
          have BK456 := n4_
          have BK466 := n5_
          have HR467_0 := n6_
          have HB := n7_
          clear n0_ n1_ n2_ n3_ n4_ n5_ n6_ n7_
          have p471 : 0 ≤ (a1 : Int) := of_decide_eq_true (by first | (with_reducible assumption) | assumption)
          have q471 : a1 < (t459.length : Int) := of_decide_eq_true (by first | (with_reducible assumption) | assumption)
          obtain ⟨ad471, A471_0, c471_0, e471, hx471_0, hl471_0, hi471_0⟩ := at_L15 (Kd.S_reads' HO_467000.out).2.2 a1 p471 q471
          obtain rfl : ad467 = ad471 := (by injection e471)
          obtain ⟨ce471, hce471, hMe471, hcc471⟩ := Kd.S_get HO_467000.out [] a1 p471 (by first | exact q471 | exact of_decide_eq_true (by first | (with_reducible assumption) | assumption) | (have e_ := (Kd.S_reads' HO_467000.out).1; omega))
          obtain ⟨ve471_0, rfl, ge471_0⟩ := hMe471
          have hv471_0 := hcc471 0 _ rfl
          rw [Nat.add_zero, show ((Kd.slice 37 k37)).sz = 1 from rfl, Nat.mul_one] at hv471_0
          replace hv471_0 := Option.some.inj (hv471_0.symm.trans hx471_0)
          rw [hv471_0] at ge471_0
          have HL471_0 := Aside0.mk (show Kd.R k37 37 _ _ _ _ (rd_L15 t459 a1) from ge471_0)
          clear hv471_0 ge471_0
          clear hcc471 hce471
          have HR471_0 := Aside0.mk hi471_0
          have HC471_0 := Aside0.mk hl471_0
          clear hi471_0 hl471_0
          replace p471 := eq_true p471
          replace q471 := eq_true q471
          refine start_ (n := 9) (S := fun w' => w'.cell? ⟨gb456, 0, none⟩ = some (.slice A0_0 l0_0.length c0_0) ∧ w'.cell? ⟨gb456, 1, none⟩ = some (.slice A0_1 l0_1.length c0_1) ∧ w'.cell? ⟨gb456, 2, none⟩ = some (.slice A0_2 l0_2.length c0_2) ∧ w'.cell? ⟨gb456, 3, none⟩ = some (.slice A0_3 l0_3.length c0_3) ∧ w'.cell? ⟨gb456, 4, none⟩ = some (.int .i64 a0_4) ∧ w'.cell? ⟨gb466, 0, none⟩ = some (.slice (some ad467) t459.length co17) ∧ w'.cell? ⟨gb466, 1, none⟩ = some (.slice Ao20 t462.length co20) ∧ w'.cell? (ad467.add (a1).toNat) = some (.slice A471_0 (rd_L15 t459 a1).length c471_0)) (ds := []) #[false, false, false, false, false, false, false, false, false] (by kernel_rfl) rfl rfl ⟨(blk_cell BK456.out 0).trans rfl, (blk_cell BK456.out 1).trans rfl, (blk_cell BK456.out 2).trans rfl, (blk_cell BK456.out 3).trans rfl, (blk_cell BK456.out 4).trans rfl, (blk_cell BK466.out 0).trans rfl, (blk_cell BK466.out 1).trans rfl, hx471_0⟩ (fun hHeld => ?_); refine with_tabW syntagmlaw14_StatesSteps.tab11 syntagmlaw14_StatesSteps.bits11 (fun HT_ HW_ => ?_)
          generalize w38.drew = w39 at HO_467000 HO_467001 HL467_0 HO470 BK456 BK466 HR467_0 HB HL471_0 HR471_0 hx471_0 hHeld ⊢
          refine pure_ (i := 1) (N := some 50) (v := ?_) (a' := ?_) #[false, true, false, false, false, false, false, false, false] rfl rfl (any_of HT_.out (by kernel_rfl)) (fun _ _ _ h => h) (Or.inl ⟨by rfl, ?_⟩) ?_ ?_
          rotate_left
          ·intro w'
           go_simp
           with_reducible rfl
          rotate_left
          ·simp only [Act.put, List.setIfInBounds_toArray, List.set_cons_zero, List.set_cons_succ, i64_w, i32_w]
           rfl
          refine pure_ (i := 3) (N := some 52) (v := ?_) (a' := ?_) #[false, true, false, true, false, false, false, false, false] rfl rfl (any_of HT_.out (by kernel_rfl)) (fun _ _ _ h => h) (Or.inl ⟨by rfl, ?_⟩) ?_ ?_
          rotate_left
          ·intro w'
           go_simp
           with_reducible rfl
          rotate_left
          ·simp only [Act.put, List.setIfInBounds_toArray, List.set_cons_zero, List.set_cons_succ, i64_w, i32_w]
           rfl
          refine pure_ (i := 6) (N := some 55) (v := ?_) (a' := ?_) #[false, true, false, true, false, false, true, false, false] rfl rfl (any_of HT_.out (by kernel_rfl)) (fun _ _ _ h => h) (Or.inl ⟨by rfl, ?_⟩) ?_ ?_
          rotate_left
          ·intro w'
           go_simp
           with_reducible rfl
          rotate_left
          ·simp only [Act.put, List.setIfInBounds_toArray, List.set_cons_zero, List.set_cons_succ, i64_w, i32_w]
           rfl
          refine take_ (i := 0) (N := some 49) (v := ?_) (a' := ?_) #[true, true, false, true, false, false, true, false, false] rfl rfl (take_ofW HT_.out HW_.out (by kernel_rfl)) (fun _ _ _ h => h) (Or.inl ⟨by rfl, ?_⟩) hHeld ?_ ?_
          rotate_left
          ·rintro w' ⟨s0, s1, s2, s3, s4, s5, s6, s7⟩
           go_simp
           with_reducible rfl
          rotate_left
          ·simp only [Act.put, List.setIfInBounds_toArray, List.set_cons_zero, List.set_cons_succ, i64_w, i32_w]
           rfl
          refine take_ (i := 2) (N := some 51) (v := ?_) (a' := ?_) #[true, true, true, true, false, false, true, false, false] rfl rfl (take_ofW HT_.out HW_.out (by kernel_rfl)) (fun _ _ _ h => h) (Or.inl ⟨by rfl, ?_⟩) hHeld ?_ ?_
          rotate_left
          ·rintro w' ⟨s0, s1, s2, s3, s4, s5, s6, s7⟩
           go_simp
           with_reducible rfl
          rotate_left
          ·simp only [Act.put, List.setIfInBounds_toArray, List.set_cons_zero, List.set_cons_succ, i64_w, i32_w]
           rfl
          refine pure_ (i := 4) (N := some 53) (v := ?_) (a' := ?_) #[true, true, true, true, true, false, true, false, false] rfl rfl (any_of HT_.out (by kernel_rfl)) (fun _ _ _ h => h) (Or.inl ⟨by rfl, ?_⟩) ?_ ?_
          rotate_left
          ·intro w'
           go_simp
           with_reducible rfl
          rotate_left
          ·simp only [Act.put, List.setIfInBounds_toArray, List.set_cons_zero, List.set_cons_succ, i64_w, i32_w]
           rfl
          refine take_ (i := 5) (N := some 54) (v := ?_) (a' := ?_) #[true, true, true, true, true, true, true, false, false] rfl rfl (take_ofW HT_.out HW_.out (by kernel_rfl)) (fun _ _ _ h => h) (Or.inl ⟨by rfl, ?_⟩) hHeld ?_ ?_
          rotate_left
          ·rintro w' ⟨s0, s1, s2, s3, s4, s5, s6, s7⟩
           go_simp
           with_reducible rfl
          rotate_left
          ·simp only [Act.put, List.setIfInBounds_toArray, List.set_cons_zero, List.set_cons_succ, i64_w, i32_w]
           rfl
          refine one_ (i := 7) (N := some 56) #[true, true, true, true, true, true, true, true, false] rfl rfl (one_of HT_.out (by kernel_rfl)) (by decide) (fun K hK => ?_)
          refine goes_ Tryd.func20 (by kernel_rfl) rfl #[.agg #[.slice A0_0 l0_0.length c0_0, .slice A0_1 l0_1.length c0_1, .slice A0_2 l0_2.length c0_2, .slice A0_3 l0_3.length c0_3, .int .i64 a0_4], .slice A471_0 (rd_L15 t459 a1).length c471_0, .int .i64 a2] (by rfl) rfl rfl (by (try simp only [List.map_toArray, List.map_cons, List.map_nil]); first | done | rfl | (simp only [List.length_drop, List.length_take]; rfl)) ?_
          with_reducible refine (states_Step.calls _ _ l0_0 _ _ l0_1 _ _ l0_2 _ _ l0_3 a0_4 _ _ (rd_L15 t459 a1) a2 t472 _ ?side1 ?side2 ?side3 ?side4 ?side5 ?side6 ?side7 ?side8 ?side9 ?side10 A29.out).mono ?_
          (case side1 => repeat (first | exact (Kd.C_below HR0_0.out HB.out) | (with_reducible refine Kd.C_alloc ?_ _) | (with_reducible refine Kd.C_drewN ?_ _) | (with_reducible refine Kd.C_drew ?_)))
          (case side2 => exact HC0_0.out)
          (case side3 => repeat (first | exact (Kd.C_below HR0_1.out HB.out) | (with_reducible refine Kd.C_alloc ?_ _) | (with_reducible refine Kd.C_drewN ?_ _) | (with_reducible refine Kd.C_drew ?_)))
          (case side4 => exact HC0_1.out)
          (case side5 => repeat (first | exact (Kd.C_below HR0_2.out HB.out) | (with_reducible refine Kd.C_alloc ?_ _) | (with_reducible refine Kd.C_drewN ?_ _) | (with_reducible refine Kd.C_drew ?_)))
          (case side6 => exact HC0_2.out)
          (case side7 => repeat (first | exact (Kd.C_below HR0_3.out HB.out) | (with_reducible refine Kd.C_alloc ?_ _) | (with_reducible refine Kd.C_drewN ?_ _) | (with_reducible refine Kd.C_drew ?_)))
          (case side8 => exact HC0_3.out)
          (case side9 => repeat (first | exact (by repeat (first | (with_reducible exact HR471_0.out) | (with_reducible refine Kd.C_alloc ?_ _) | (with_reducible refine Kd.C_drewN ?_ _) | (with_reducible refine Kd.C_drew ?_) | exact HR471_0.out)) | (with_reducible refine Kd.C_alloc ?_ _) | (with_reducible refine Kd.C_drewN ?_ _) | (with_reducible refine Kd.C_drew ?_)))
          (case side10 => exact HC471_0.out)
          rintro e w40 ⟨v473, rfl, ho0, hb⟩
          have HS7_ := (hb.cell (World.block_lt_of_cell? _ _ (hHeld.2.2.2.2.2.2.2))).trans (hHeld.2.2.2.2.2.2.2)
          refine ⟨_, rfl, ?_⟩
          have n0_ := Aside0.mk (Kd.S_elder' (by (with_reducible repeat (first | apply Kd.S_alloc | apply Kd.S_drewN | apply Kd.S_drew)); exact HO_467000.out) (Kd.R_base ho0) hb)
          have n1_ := Aside0.mk (Kd.S_below (by (with_reducible repeat (first | apply Kd.S_alloc | apply Kd.S_drewN | apply Kd.S_drew)); exact HO_467001.out) hb)
          have n2_ := Aside0.mk (Kd.R_elder' (by (with_reducible repeat (first | apply Kd.R_alloc | apply Kd.R_drewN | apply Kd.R_drew)); exact HL467_0.out) (Kd.R_base ho0) hb)
          have n3_ := Aside0.mk (Kd.R_elder' (by (with_reducible repeat (first | apply Kd.R_alloc | apply Kd.R_drewN | apply Kd.R_drew)); exact HO470.out) (Kd.R_base ho0) hb)
          have n4_ := Aside0.mk (Kd.R_elder' (by (with_reducible repeat (first | apply Kd.R_alloc | apply Kd.R_drewN | apply Kd.R_drew)); exact HL471_0.out) (Kd.R_base ho0) hb)
          have n5_ := Aside0.mk (Kd.R_lower (Kd.R_new' (Kd.R_new' (Kd.R_new' ho0 (Kd.R_lt (by (with_reducible repeat (first | apply Kd.R_alloc | apply Kd.R_drewN | apply Kd.R_drew)); exact HL467_0.out))) (Kd.R_lt (by (with_reducible repeat (first | apply Kd.R_alloc | apply Kd.R_drewN | apply Kd.R_drew)); exact HO470.out))) (Kd.R_lt (by (with_reducible repeat (first | apply Kd.R_alloc | apply Kd.R_drewN | apply Kd.R_drew)); exact HL471_0.out))) (below_size (by repeat (first | (with_reducible first | exact HB.out | apply below_alloc | apply pw_below_drewN | apply below_drew1 | refine below_set ?_ GE456.out | refine below_set ?_ GE466.out) | exact HB.out))))
          have n6_ := Aside0.mk (blk_below (g := gb456) (o := .cells #[.slice A0_0 l0_0.length c0_0, .slice A0_1 l0_1.length c0_1, .slice A0_2 l0_2.length c0_2, .slice A0_3 l0_3.length c0_3, .int .i64 a0_4] 27 (0, 0)) (by (with_reducible repeat (first | refine blk_drewN ?_ _ | refine blk_drew ?_ | refine blk_alloc ?_ _)); exact BK456.out) hb)
          have n7_ := Aside0.mk (blk_below (g := gb466) (o := .cells #[.slice (some ad467) t459.length co17, .slice Ao20 t462.length co20] 49 (0, 0)) (by (with_reducible repeat (first | refine blk_drewN ?_ _ | refine blk_drew ?_ | refine blk_alloc ?_ _)); exact BK466.out) hb)
          have n8_ := Aside0.mk (Kd.C_below (by repeat (first | (with_reducible exact HR467_0.out) | (with_reducible refine Kd.C_alloc ?_ _) | (with_reducible refine Kd.C_drewN ?_ _) | (with_reducible refine Kd.C_drew ?_) | exact HR467_0.out)) hb)
          have n9_ := Aside0.mk (Kd.C_below (by repeat (first | (with_reducible exact HR471_0.out) | (with_reducible refine Kd.C_alloc ?_ _) | (with_reducible refine Kd.C_drewN ?_ _) | (with_reducible refine Kd.C_drew ?_) | exact HR471_0.out)) hb)
          have n10_ := Aside0.mk (below_step (by repeat (first | (with_reducible first | exact HB.out | apply below_alloc | apply pw_below_drewN | apply below_drew1 | refine below_set ?_ GE456.out | refine below_set ?_ GE466.out) | exact HB.out)) hb)
          clear HO_467000
          clear HO_467001
          clear HL467_0
          clear HO470
          clear HL471_0
          clear BK456
          clear BK466
          clear HR467_0
          clear HR471_0
          clear HB
          have HO_467000 := n0_
          have HO_467001 := n1_
          have HL467_0 := n2_
          have HO470 := n3_
          have HL471_0 := n4_
          have HO474 := n5_
          have BK456 := n6_
          have BK466 := n7_
          have HR467_0 := n8_
          have HR471_0 := n9_
          have HB := n10_
          clear n0_ n1_ n2_ n3_ n4_ n5_ n6_ n7_ n8_ n9_ n10_
          (try clear hb)
          (try clear hb2)
          (try clear hk)
          (try clear hi)
          (try clear ho0)
          refine hK.out _ _ ⟨(blk_cell BK456.out 0).trans rfl, (blk_cell BK456.out 1).trans rfl, (blk_cell BK456.out 2).trans rfl, (blk_cell BK456.out 3).trans rfl, (blk_cell BK456.out 4).trans rfl, (blk_cell BK466.out 0).trans rfl, (blk_cell BK466.out 1).trans rfl, HS7_⟩ (fun hHeld => ?_)
          clear hK K
          refine norm_ (a' := ?_) ?_ ?_
          rotate_left
          ·show Act.put _ (some 56) _ = _
           simp only [Act.put, List.setIfInBounds_toArray, List.set_cons_zero, List.set_cons_succ, i64_w, i32_w]
           rfl
          refine pure_ (i := 8) (N := some 12) (v := ?_) (a' := ?_) #[true, true, true, true, true, true, true, true, true] rfl rfl (any_of HT_.out (by kernel_rfl)) (fun _ _ _ h => h) (Or.inl ⟨by rfl, ?_⟩) ?_ ?_
          rotate_left
          ·intro w'
           go_simp
           with_reducible rfl
          rotate_left
          ·simp only [Act.put, List.setIfInBounds_toArray, List.set_cons_zero, List.set_cons_succ, i64_w, i32_w]
           rfl
          refine done_ (done_of HT_.out (by kernel_rfl)) ?_
          have hnb41 := NB456_466.out
          have hnc41 := NB466_456.out
          have hcz42_0 : w40.cell? ⟨gb456, 0, none⟩ = some (.slice A0_0 l0_0.length c0_0) := (blk_cell BK456.out 0).trans rfl
          have hcz42_1 : w40.cell? ⟨gb456, 1, none⟩ = some (.slice A0_1 l0_1.length c0_1) := (blk_cell BK456.out 1).trans rfl
          have hcz42_2 : w40.cell? ⟨gb456, 2, none⟩ = some (.slice A0_2 l0_2.length c0_2) := (blk_cell BK456.out 2).trans rfl
          have hcz42_3 : w40.cell? ⟨gb456, 3, none⟩ = some (.slice A0_3 l0_3.length c0_3) := (blk_cell BK456.out 3).trans rfl
          have hcz42_4 : w40.cell? ⟨gb456, 4, none⟩ = some (.int .i64 a0_4) := (blk_cell BK456.out 4).trans rfl
          have hfz42_0 := blk_frozen BK456.out 0
          have hfz42_1 := blk_frozen BK456.out 1
          have hfz42_2 := blk_frozen BK456.out 2
          have hfz42_3 := blk_frozen BK456.out 3
          have hfz42_4 := blk_frozen BK456.out 4
          obtain ⟨Ao43, co43, eo43⟩ := Kd.R_slice HO470.out
          subst eo43
          try go_wp2_with (first | ((with_reducible refine gate_callee (f := 20) rfl ?_); refine goesL_ (some 60) rfl rfl Tryd.func20 (by kernel_rfl) rfl #[.agg #[.slice A0_0 l0_0.length c0_0, .slice A0_1 l0_1.length c0_1, .slice A0_2 l0_2.length c0_2, .slice A0_3 l0_3.length c0_3, .int .i64 a0_4], .slice Ao43 t468.length co43, .int .i64 a2] rfl (by (try simp only [List.map_toArray, List.map_cons, List.map_nil]); first | done | rfl | (simp only [List.length_drop, List.length_take]; rfl)) ?_; (with_reducible refine (states_Step.calls _ _ l0_0 _ _ l0_1 _ _ l0_2 _ _ l0_3 a0_4 _ _ t468 a2 t475 _ ?side1 ?side2 ?side3 ?side4 ?side5 ?side6 ?side7 ?side8 ?side9 ?side10 A30.out).mono ?_); (case side1 => repeat (first | exact (Kd.C_below HR0_0.out HB.out) | (with_reducible refine Kd.C_alloc ?_ _) | (with_reducible refine Kd.C_drewN ?_ _) | (with_reducible refine Kd.C_drew ?_))); (case side2 => exact HC0_0.out); (case side3 => repeat (first | exact (Kd.C_below HR0_1.out HB.out) | (with_reducible refine Kd.C_alloc ?_ _) | (with_reducible refine Kd.C_drewN ?_ _) | (with_reducible refine Kd.C_drew ?_))); (case side4 => exact HC0_1.out); (case side5 => repeat (first | exact (Kd.C_below HR0_2.out HB.out) | (with_reducible refine Kd.C_alloc ?_ _) | (with_reducible refine Kd.C_drewN ?_ _) | (with_reducible refine Kd.C_drew ?_))); (case side6 => exact HC0_2.out); (case side7 => repeat (first | exact (Kd.C_below HR0_3.out HB.out) | (with_reducible refine Kd.C_alloc ?_ _) | (with_reducible refine Kd.C_drewN ?_ _) | (with_reducible refine Kd.C_drew ?_))); (case side8 => exact HC0_3.out); (case side9 => repeat (first | exact (Kd.R_reads' HO470.out).2.2 | (with_reducible refine Kd.C_alloc ?_ _) | (with_reducible refine Kd.C_drewN ?_ _) | (with_reducible refine Kd.C_drew ?_))); (case side10 => exact (Kd.R_reads' HO470.out).2.1); rintro e w44 ⟨v476, rfl, ho0, hb⟩; refine ⟨_, rfl, ?_⟩; have n0_ := Aside0.mk (Kd.S_elder' (by (with_reducible repeat (first | apply Kd.S_alloc | apply Kd.S_drewN | apply Kd.S_drew)); exact HO_467000.out) (Kd.R_base ho0) hb); have n1_ := Aside0.mk (Kd.S_below (by (with_reducible repeat (first | apply Kd.S_alloc | apply Kd.S_drewN | apply Kd.S_drew)); exact HO_467001.out) hb); have n2_ := Aside0.mk (Kd.R_elder' (by (with_reducible repeat (first | apply Kd.R_alloc | apply Kd.R_drewN | apply Kd.R_drew)); exact HL467_0.out) (Kd.R_base ho0) hb); have n3_ := Aside0.mk (Kd.R_elder' (by (with_reducible repeat (first | apply Kd.R_alloc | apply Kd.R_drewN | apply Kd.R_drew)); exact HO470.out) (Kd.R_base ho0) hb); have n4_ := Aside0.mk (Kd.R_elder' (by (with_reducible repeat (first | apply Kd.R_alloc | apply Kd.R_drewN | apply Kd.R_drew)); exact HL471_0.out) (Kd.R_base ho0) hb); have n5_ := Aside0.mk (Kd.R_elder' (by (with_reducible repeat (first | apply Kd.R_alloc | apply Kd.R_drewN | apply Kd.R_drew)); exact HO474.out) (Kd.R_base ho0) hb); have n6_ := Aside0.mk (Kd.R_lower (Kd.R_new' (Kd.R_new' (Kd.R_new' (Kd.R_new' ho0 (Kd.R_lt (by (with_reducible repeat (first | apply Kd.R_alloc | apply Kd.R_drewN | apply Kd.R_drew)); exact HL467_0.out))) (Kd.R_lt (by (with_reducible repeat (first | apply Kd.R_alloc | apply Kd.R_drewN | apply Kd.R_drew)); exact HO470.out))) (Kd.R_lt (by (with_reducible repeat (first | apply Kd.R_alloc | apply Kd.R_drewN | apply Kd.R_drew)); exact HL471_0.out))) (Kd.R_lt (by (with_reducible repeat (first | apply Kd.R_alloc | apply Kd.R_drewN | apply Kd.R_drew)); exact HO474.out))) (below_size (by repeat (first | (with_reducible first | exact HB.out | apply below_alloc | apply pw_below_drewN | apply below_drew1 | refine below_set ?_ GE456.out | refine below_set ?_ GE466.out) | exact HB.out)))); have n7_ := Aside0.mk (blk_below (g := gb456) (o := .cells #[.slice A0_0 l0_0.length c0_0, .slice A0_1 l0_1.length c0_1, .slice A0_2 l0_2.length c0_2, .slice A0_3 l0_3.length c0_3, .int .i64 a0_4] 27 (0, 0)) (by (with_reducible repeat (first | refine blk_drewN ?_ _ | refine blk_drew ?_ | refine blk_alloc ?_ _)); exact BK456.out) hb); have n8_ := Aside0.mk (blk_below (g := gb466) (o := .cells #[.slice (some ad467) t459.length co17, .slice Ao20 t462.length co20] 49 (0, 0)) (by (with_reducible repeat (first | refine blk_drewN ?_ _ | refine blk_drew ?_ | refine blk_alloc ?_ _)); exact BK466.out) hb); have n9_ := Aside0.mk (Kd.C_below (by repeat (first | (with_reducible exact HR467_0.out) | (with_reducible refine Kd.C_alloc ?_ _) | (with_reducible refine Kd.C_drewN ?_ _) | (with_reducible refine Kd.C_drew ?_) | exact HR467_0.out)) hb); have n10_ := Aside0.mk (Kd.C_below (by repeat (first | (with_reducible exact HR471_0.out) | (with_reducible refine Kd.C_alloc ?_ _) | (with_reducible refine Kd.C_drewN ?_ _) | (with_reducible refine Kd.C_drew ?_) | exact HR471_0.out)) hb); have n11_ := Aside0.mk (below_step (by repeat (first | (with_reducible first | exact HB.out | apply below_alloc | apply pw_below_drewN | apply below_drew1 | refine below_set ?_ GE456.out | refine below_set ?_ GE466.out) | exact HB.out)) hb); clear HO_467000; clear HO_467001; clear HL467_0; clear HO470; clear HL471_0; clear HO474; clear BK456; clear BK466; clear HR467_0; clear HR471_0; clear HB; have HO_467000 := n0_; have HO_467001 := n1_; have HL467_0 := n2_; have HO470 := n3_; have HL471_0 := n4_; have HO474 := n5_; have HO477 := n6_; have BK456 := n7_; have BK466 := n8_; have HR467_0 := n9_; have HR471_0 := n10_; have HB := n11_; clear n0_ n1_ n2_ n3_ n4_ n5_ n6_ n7_ n8_ n9_ n10_ n11_; (try clear hb); (try clear hb2); (try clear hk); (try clear hi); (try clear ho0); have hcz45_0 : w44.cell? ⟨gb456, 0, none⟩ = some (.slice A0_0 l0_0.length c0_0) := (blk_cell BK456.out 0).trans rfl; have hcz45_1 : w44.cell? ⟨gb456, 1, none⟩ = some (.slice A0_1 l0_1.length c0_1) := (blk_cell BK456.out 1).trans rfl; have hcz45_2 : w44.cell? ⟨gb456, 2, none⟩ = some (.slice A0_2 l0_2.length c0_2) := (blk_cell BK456.out 2).trans rfl; have hcz45_3 : w44.cell? ⟨gb456, 3, none⟩ = some (.slice A0_3 l0_3.length c0_3) := (blk_cell BK456.out 3).trans rfl; have hcz45_4 : w44.cell? ⟨gb456, 4, none⟩ = some (.int .i64 a0_4) := (blk_cell BK456.out 4).trans rfl; have hfz45_0 := blk_frozen BK456.out 0; have hfz45_1 := blk_frozen BK456.out 1; have hfz45_2 := blk_frozen BK456.out 2; have hfz45_3 := blk_frozen BK456.out 3; have hfz45_4 := blk_frozen BK456.out 4; have hcz46_0 : w44.cell? ⟨gb466, 0, none⟩ = some (.slice (some ad467) t459.length co17) := (blk_cell BK466.out 0).trans rfl; have hcz46_1 : w44.cell? ⟨gb466, 1, none⟩ = some (.slice Ao20 t462.length co20) := (blk_cell BK466.out 1).trans rfl; have hfz46_0 := blk_frozen BK466.out 0; have hfz46_1 := blk_frozen BK466.out 1) | ((with_reducible refine gate_callee (f := 25) rfl ?_); refine goesL_ (some 65) rfl rfl Tryd.func25 (by kernel_rfl) rfl #[.agg #[.slice A0_0 l0_0.length c0_0, .slice A0_1 l0_1.length c0_1, .slice A0_2 l0_2.length c0_2, .slice A0_3 l0_3.length c0_3, .int .i64 a0_4], .agg #[.slice (some ad467) t459.length co17, .slice Ao20 t462.length co20], .int .i64 a1, .int .i64 a2] rfl (by (try simp only [List.map_toArray, List.map_cons, List.map_nil]); first | done | rfl | (simp only [List.length_drop, List.length_take]; rfl)) ?_; (with_reducible refine (states_Go.calls _ _ l0_0 _ _ l0_1 _ _ l0_2 _ _ l0_3 a0_4 _ _ t459 _ _ t462 a1 a2 t478 _ ?side1 ?side2 ?side3 ?side4 ?side5 ?side6 ?side7 ?side8 ?side9 ?side10 ?side11 ?side12 A31.out).mono ?_); (case side1 => repeat (first | exact (Kd.C_below HR0_0.out HB.out) | (with_reducible refine Kd.C_alloc ?_ _) | (with_reducible refine Kd.C_drewN ?_ _) | (with_reducible refine Kd.C_drew ?_))); (case side2 => exact HC0_0.out); (case side3 => repeat (first | exact (Kd.C_below HR0_1.out HB.out) | (with_reducible refine Kd.C_alloc ?_ _) | (with_reducible refine Kd.C_drewN ?_ _) | (with_reducible refine Kd.C_drew ?_))); (case side4 => exact HC0_1.out); (case side5 => repeat (first | exact (Kd.C_below HR0_2.out HB.out) | (with_reducible refine Kd.C_alloc ?_ _) | (with_reducible refine Kd.C_drewN ?_ _) | (with_reducible refine Kd.C_drew ?_))); (case side6 => exact HC0_2.out); (case side7 => repeat (first | exact (Kd.C_below HR0_3.out HB.out) | (with_reducible refine Kd.C_alloc ?_ _) | (with_reducible refine Kd.C_drewN ?_ _) | (with_reducible refine Kd.C_drew ?_))); (case side8 => exact HC0_3.out); (case side9 => repeat (first | exact (Kd.S_reads' HO_467000.out).2.2 | (with_reducible refine Kd.C_alloc ?_ _) | (with_reducible refine Kd.C_drewN ?_ _) | (with_reducible refine Kd.C_drew ?_))); (case side10 => exact (Kd.S_reads' HO_467000.out).2.1); (case side11 => repeat (first | exact (Kd.S_reads' HO_467001.out).2.2 | (with_reducible refine Kd.C_alloc ?_ _) | (with_reducible refine Kd.C_drewN ?_ _) | (with_reducible refine Kd.C_drew ?_))); (case side12 => exact (Kd.S_reads' HO_467001.out).2.1); rintro e w47 ⟨rfl, hb⟩; refine ⟨_, rfl, ?_⟩; have n0_ := Aside0.mk (Kd.S_below (by (with_reducible repeat (first | apply Kd.S_alloc | apply Kd.S_drewN | apply Kd.S_drew)); exact HO_467000.out) hb); have n1_ := Aside0.mk (Kd.S_below (by (with_reducible repeat (first | apply Kd.S_alloc | apply Kd.S_drewN | apply Kd.S_drew)); exact HO_467001.out) hb); have n2_ := Aside0.mk (Kd.R_below (by (with_reducible repeat (first | apply Kd.R_alloc | apply Kd.R_drewN | apply Kd.R_drew)); exact HL467_0.out) hb); have n3_ := Aside0.mk (Kd.R_below (by (with_reducible repeat (first | apply Kd.R_alloc | apply Kd.R_drewN | apply Kd.R_drew)); exact HO470.out) hb); have n4_ := Aside0.mk (Kd.R_below (by (with_reducible repeat (first | apply Kd.R_alloc | apply Kd.R_drewN | apply Kd.R_drew)); exact HL471_0.out) hb); have n5_ := Aside0.mk (Kd.R_below (by (with_reducible repeat (first | apply Kd.R_alloc | apply Kd.R_drewN | apply Kd.R_drew)); exact HO474.out) hb); have n6_ := Aside0.mk (Kd.R_below (by (with_reducible repeat (first | apply Kd.R_alloc | apply Kd.R_drewN | apply Kd.R_drew)); exact HO477.out) hb); have n7_ := Aside0.mk (blk_below (g := gb456) (o := .cells #[.slice A0_0 l0_0.length c0_0, .slice A0_1 l0_1.length c0_1, .slice A0_2 l0_2.length c0_2, .slice A0_3 l0_3.length c0_3, .int .i64 a0_4] 27 (0, 0)) (by (with_reducible repeat (first | refine blk_drewN ?_ _ | refine blk_drew ?_ | refine blk_alloc ?_ _)); exact BK456.out) hb); have n8_ := Aside0.mk (blk_below (g := gb466) (o := .cells #[.slice (some ad467) t459.length co17, .slice Ao20 t462.length co20] 49 (0, 0)) (by (with_reducible repeat (first | refine blk_drewN ?_ _ | refine blk_drew ?_ | refine blk_alloc ?_ _)); exact BK466.out) hb); have n9_ := Aside0.mk (Kd.C_below (by repeat (first | (with_reducible exact HR467_0.out) | (with_reducible refine Kd.C_alloc ?_ _) | (with_reducible refine Kd.C_drewN ?_ _) | (with_reducible refine Kd.C_drew ?_) | exact HR467_0.out)) hb); have n10_ := Aside0.mk (Kd.C_below (by repeat (first | (with_reducible exact HR471_0.out) | (with_reducible refine Kd.C_alloc ?_ _) | (with_reducible refine Kd.C_drewN ?_ _) | (with_reducible refine Kd.C_drew ?_) | exact HR471_0.out)) hb); have n11_ := Aside0.mk (below_step (by repeat (first | (with_reducible first | exact HB.out | apply below_alloc | apply pw_below_drewN | apply below_drew1 | refine below_set ?_ GE456.out | refine below_set ?_ GE466.out) | exact HB.out)) hb); clear HO_467000; clear HO_467001; clear HL467_0; clear HO470; clear HL471_0; clear HO474; clear HO477; clear BK456; clear BK466; clear HR467_0; clear HR471_0; clear HB; have HO_467000 := n0_; have HO_467001 := n1_; have HL467_0 := n2_; have HO470 := n3_; have HL471_0 := n4_; have HO474 := n5_; have HO477 := n6_; have BK456 := n7_; have BK466 := n8_; have HR467_0 := n9_; have HR471_0 := n10_; have HB := n11_; clear n0_ n1_ n2_ n3_ n4_ n5_ n6_ n7_ n8_ n9_ n10_ n11_; (try clear hb); (try clear hb2); (try clear hk); (try clear hi); obtain ⟨Ao48, co48, eo48⟩ := Kd.R_slice HO474.out; subst eo48) | ((with_reducible refine gate_callee (f := 14) rfl ?_); refine goesL_ (some 67) rfl rfl Tryd.func14 (by kernel_rfl) rfl #[.slice Ao48 t472.length co48] rfl (by (try simp only [List.map_toArray, List.map_cons, List.map_nil]); first | done | rfl | (simp only [List.length_drop, List.length_take]; rfl)) ?_; (with_reducible refine (syntagmlaw14_Row.calls kj8 _ _ t472 t479 _ ?side1 ?side2 A32.out).mono ?_); (case side1 => repeat (first | exact (Kd.R_reads' HO474.out).2.2 | (with_reducible refine Kd.C_alloc ?_ _) | (with_reducible refine Kd.C_drewN ?_ _) | (with_reducible refine Kd.C_drew ?_))); (case side2 => exact (Kd.R_reads' HO474.out).2.1); rintro e w49 ⟨v480, rfl, ho0, hb⟩; refine ⟨_, rfl, ?_⟩; have n0_ := Aside0.mk (Kd.S_below (by (with_reducible repeat (first | apply Kd.S_alloc | apply Kd.S_drewN | apply Kd.S_drew)); exact HO_467000.out) hb); have n1_ := Aside0.mk (Kd.S_below (by (with_reducible repeat (first | apply Kd.S_alloc | apply Kd.S_drewN | apply Kd.S_drew)); exact HO_467001.out) hb); have n2_ := Aside0.mk (Kd.R_below (by (with_reducible repeat (first | apply Kd.R_alloc | apply Kd.R_drewN | apply Kd.R_drew)); exact HL467_0.out) hb); have n3_ := Aside0.mk (Kd.R_below (by (with_reducible repeat (first | apply Kd.R_alloc | apply Kd.R_drewN | apply Kd.R_drew)); exact HO470.out) hb); have n4_ := Aside0.mk (Kd.R_below (by (with_reducible repeat (first | apply Kd.R_alloc | apply Kd.R_drewN | apply Kd.R_drew)); exact HL471_0.out) hb); have n5_ := Aside0.mk (Kd.R_below (by (with_reducible repeat (first | apply Kd.R_alloc | apply Kd.R_drewN | apply Kd.R_drew)); exact HO474.out) hb); have n6_ := Aside0.mk (Kd.R_below (by (with_reducible repeat (first | apply Kd.R_alloc | apply Kd.R_drewN | apply Kd.R_drew)); exact HO477.out) hb); have n7_ := Aside0.mk (Kd.R_lower ho0 (below_size (by repeat (first | (with_reducible first | exact HB.out | apply below_alloc | apply pw_below_drewN | apply below_drew1 | refine below_set ?_ GE456.out | refine below_set ?_ GE466.out) | exact HB.out)))); have n8_ := Aside0.mk (blk_below (g := gb456) (o := .cells #[.slice A0_0 l0_0.length c0_0, .slice A0_1 l0_1.length c0_1, .slice A0_2 l0_2.length c0_2, .slice A0_3 l0_3.length c0_3, .int .i64 a0_4] 27 (0, 0)) (by (with_reducible repeat (first | refine blk_drewN ?_ _ | refine blk_drew ?_ | refine blk_alloc ?_ _)); exact BK456.out) hb); have n9_ := Aside0.mk (blk_below (g := gb466) (o := .cells #[.slice (some ad467) t459.length co17, .slice Ao20 t462.length co20] 49 (0, 0)) (by (with_reducible repeat (first | refine blk_drewN ?_ _ | refine blk_drew ?_ | refine blk_alloc ?_ _)); exact BK466.out) hb); have n10_ := Aside0.mk (Kd.C_below (by repeat (first | (with_reducible exact HR467_0.out) | (with_reducible refine Kd.C_alloc ?_ _) | (with_reducible refine Kd.C_drewN ?_ _) | (with_reducible refine Kd.C_drew ?_) | exact HR467_0.out)) hb); have n11_ := Aside0.mk (Kd.C_below (by repeat (first | (with_reducible exact HR471_0.out) | (with_reducible refine Kd.C_alloc ?_ _) | (with_reducible refine Kd.C_drewN ?_ _) | (with_reducible refine Kd.C_drew ?_) | exact HR471_0.out)) hb); have n12_ := Aside0.mk (below_step (by repeat (first | (with_reducible first | exact HB.out | apply below_alloc | apply pw_below_drewN | apply below_drew1 | refine below_set ?_ GE456.out | refine below_set ?_ GE466.out) | exact HB.out)) hb); clear HO_467000; clear HO_467001; clear HL467_0; clear HO470; clear HL471_0; clear HO474; clear HO477; clear BK456; clear BK466; clear HR467_0; clear HR471_0; clear HB; have HO_467000 := n0_; have HO_467001 := n1_; have HL467_0 := n2_; have HO470 := n3_; have HL471_0 := n4_; have HO474 := n5_; have HO477 := n6_; have HO481 := n7_; have BK456 := n8_; have BK466 := n9_; have HR467_0 := n10_; have HR471_0 := n11_; have HB := n12_; clear n0_ n1_ n2_ n3_ n4_ n5_ n6_ n7_ n8_ n9_ n10_ n11_ n12_; (try clear hb); (try clear hb2); (try clear hk); (try clear hi); (try clear ho0); obtain ⟨Ao50, co50, eo50⟩ := Kd.R_slice HO477.out; subst eo50) | ((with_reducible refine gate_callee (f := 14) rfl ?_); refine goesL_ (some 69) rfl rfl Tryd.func14 (by kernel_rfl) rfl #[.slice Ao50 t475.length co50] rfl (by (try simp only [List.map_toArray, List.map_cons, List.map_nil]); first | done | rfl | (simp only [List.length_drop, List.length_take]; rfl)) ?_; (with_reducible refine (syntagmlaw14_Row.calls kj8 _ _ t475 t482 _ ?side1 ?side2 A33.out).mono ?_); (case side1 => repeat (first | exact (Kd.R_reads' HO477.out).2.2 | (with_reducible refine Kd.C_alloc ?_ _) | (with_reducible refine Kd.C_drewN ?_ _) | (with_reducible refine Kd.C_drew ?_))); (case side2 => exact (Kd.R_reads' HO477.out).2.1); rintro e w51 ⟨v483, rfl, ho0, hb⟩; refine ⟨_, rfl, ?_⟩; have n0_ := Aside0.mk (Kd.S_below (by (with_reducible repeat (first | apply Kd.S_alloc | apply Kd.S_drewN | apply Kd.S_drew)); exact HO_467000.out) hb); have n1_ := Aside0.mk (Kd.S_below (by (with_reducible repeat (first | apply Kd.S_alloc | apply Kd.S_drewN | apply Kd.S_drew)); exact HO_467001.out) hb); have n2_ := Aside0.mk (Kd.R_below (by (with_reducible repeat (first | apply Kd.R_alloc | apply Kd.R_drewN | apply Kd.R_drew)); exact HL467_0.out) hb); have n3_ := Aside0.mk (Kd.R_below (by (with_reducible repeat (first | apply Kd.R_alloc | apply Kd.R_drewN | apply Kd.R_drew)); exact HO470.out) hb); have n4_ := Aside0.mk (Kd.R_below (by (with_reducible repeat (first | apply Kd.R_alloc | apply Kd.R_drewN | apply Kd.R_drew)); exact HL471_0.out) hb); have n5_ := Aside0.mk (Kd.R_below (by (with_reducible repeat (first | apply Kd.R_alloc | apply Kd.R_drewN | apply Kd.R_drew)); exact HO474.out) hb); have n6_ := Aside0.mk (Kd.R_below (by (with_reducible repeat (first | apply Kd.R_alloc | apply Kd.R_drewN | apply Kd.R_drew)); exact HO477.out) hb); have n7_ := Aside0.mk (Kd.R_elder' (by (with_reducible repeat (first | apply Kd.R_alloc | apply Kd.R_drewN | apply Kd.R_drew)); exact HO481.out) (Kd.R_base ho0) hb); have n8_ := Aside0.mk (Kd.R_lower (Kd.R_new' ho0 (Kd.R_lt (by (with_reducible repeat (first | apply Kd.R_alloc | apply Kd.R_drewN | apply Kd.R_drew)); exact HO481.out))) (below_size (by repeat (first | (with_reducible first | exact HB.out | apply below_alloc | apply pw_below_drewN | apply below_drew1 | refine below_set ?_ GE456.out | refine below_set ?_ GE466.out) | exact HB.out)))); have n9_ := Aside0.mk (blk_below (g := gb456) (o := .cells #[.slice A0_0 l0_0.length c0_0, .slice A0_1 l0_1.length c0_1, .slice A0_2 l0_2.length c0_2, .slice A0_3 l0_3.length c0_3, .int .i64 a0_4] 27 (0, 0)) (by (with_reducible repeat (first | refine blk_drewN ?_ _ | refine blk_drew ?_ | refine blk_alloc ?_ _)); exact BK456.out) hb); have n10_ := Aside0.mk (blk_below (g := gb466) (o := .cells #[.slice (some ad467) t459.length co17, .slice Ao20 t462.length co20] 49 (0, 0)) (by (with_reducible repeat (first | refine blk_drewN ?_ _ | refine blk_drew ?_ | refine blk_alloc ?_ _)); exact BK466.out) hb); have n11_ := Aside0.mk (Kd.C_below (by repeat (first | (with_reducible exact HR467_0.out) | (with_reducible refine Kd.C_alloc ?_ _) | (with_reducible refine Kd.C_drewN ?_ _) | (with_reducible refine Kd.C_drew ?_) | exact HR467_0.out)) hb); have n12_ := Aside0.mk (Kd.C_below (by repeat (first | (with_reducible exact HR471_0.out) | (with_reducible refine Kd.C_alloc ?_ _) | (with_reducible refine Kd.C_drewN ?_ _) | (with_reducible refine Kd.C_drew ?_) | exact HR471_0.out)) hb); have n13_ := Aside0.mk (below_step (by repeat (first | (with_reducible first | exact HB.out | apply below_alloc | apply pw_below_drewN | apply below_drew1 | refine below_set ?_ GE456.out | refine below_set ?_ GE466.out) | exact HB.out)) hb); clear HO_467000; clear HO_467001; clear HL467_0; clear HO470; clear HL471_0; clear HO474; clear HO477; clear HO481; clear BK456; clear BK466; clear HR467_0; clear HR471_0; clear HB; have HO_467000 := n0_; have HO_467001 := n1_; have HL467_0 := n2_; have HO470 := n3_; have HL471_0 := n4_; have HO474 := n5_; have HO477 := n6_; have HO481 := n7_; have HO484 := n8_; have BK456 := n9_; have BK466 := n10_; have HR467_0 := n11_; have HR471_0 := n12_; have HB := n13_; clear n0_ n1_ n2_ n3_ n4_ n5_ n6_ n7_ n8_ n9_ n10_ n11_ n12_ n13_; (try clear hb); (try clear hb2); (try clear hk); (try clear hi); (try clear ho0); obtain ⟨Ao52, co52, eo52⟩ := Kd.R_slice HO481.out; subst eo52; obtain ⟨Ao53, co53, eo53⟩ := Kd.R_slice HO484.out; subst eo53) | ((with_reducible refine gate_callee (f := 17) rfl ?_); refine goesL_ (some 70) rfl rfl Tryd.func17 (by kernel_rfl) rfl #[.slice Ao52 t479.length co52, .slice Ao53 t482.length co53] rfl (by (try simp only [List.map_toArray, List.map_cons, List.map_nil]); first | done | rfl | (simp only [List.length_drop, List.length_take]; rfl)) ?_; (with_reducible refine (syntagmref14_Row.calls kj8 _ _ t479 _ _ t482 true _ ?side1 ?side2 ?side3 ?side4 A34.out).mono ?_); (case side1 => repeat (first | exact (Kd.R_reads' HO481.out).2.2 | (with_reducible refine Kd.C_alloc ?_ _) | (with_reducible refine Kd.C_drewN ?_ _) | (with_reducible refine Kd.C_drew ?_))); (case side2 => exact (Kd.R_reads' HO481.out).2.1); (case side3 => repeat (first | exact (Kd.R_reads' HO484.out).2.2 | (with_reducible refine Kd.C_alloc ?_ _) | (with_reducible refine Kd.C_drewN ?_ _) | (with_reducible refine Kd.C_drew ?_))); (case side4 => exact (Kd.R_reads' HO484.out).2.1); rintro e w' ⟨rfl, ⟨nd, rfl⟩⟩; refine ⟨_, rfl, ?_⟩))
          go_ret
          exact ⟨by first | rfl | (simp [errW_none, errW_some] <;> rfl) | (simp [*, errW_none, errW_some] <;> rfl), by repeat (first | (with_reducible first | exact HB.out | apply below_alloc | apply pw_below_drewN | apply below_drew1 | refine below_set ?_ GE456.out | refine below_set ?_ GE466.out) | exact HB.out)⟩
         ·rw [if_neg c36] at H
          have c36b0 : decide (t478 < 0) = false := decide_eq_false c36
          clear c36
          replace H : ((syntagmlaw14_Row.f kj8 t472).bind fun t486 => (if 0 ≤ t478 then (if t478 < (t459.length : Int) then ((syntagmlaw14_Row.f kj8 (rd_L15 t459 t478)).bind fun t490 => ((syntagmref14_Row.f kj8 t486 t490).bind fun t493 => (some t493))) else (none)) else (none))) = some r := by first | (rw [if_pos rfl] at H; exact H) | (rw [if_pos trivial] at H; exact H)
          replace H := Option.bind_eq_some_iff.mp H
          obtain ⟨t486, A540, H⟩ := H
          replace H : (if 0 ≤ t478 then (if t478 < (t459.length : Int) then ((syntagmlaw14_Row.f kj8 (rd_L15 t459 t478)).bind fun t490 => ((syntagmref14_Row.f kj8 t486 t490).bind fun t493 => (some t493))) else (none)) else (none)) = some r := H
          have A54 := Aside0.mk A540
          clear A540
          by_cases c55 : 0 ≤ t478
          ·rw [if_pos c55] at H
           have c55b0 : decide (0 ≤ t478) = true := decide_eq_true c55
           clear c55
           by_cases c56 : t478 < (t459.length : Int)
           ·rw [if_pos c56] at H
            have c56b0 : decide (t478 < (t459.length : Int)) = true := decide_eq_true c56
            clear c56
            replace H := Option.bind_eq_some_iff.mp H
            obtain ⟨t490, A570, H⟩ := H
            replace H : ((syntagmref14_Row.f kj8 t486 t490).bind fun t493 => (some t493)) = some r := H
            have A57 := Aside0.mk A570
            clear A570
            replace H := Option.bind_eq_some_iff.mp H
            obtain ⟨t493, A580, H⟩ := H
            replace H : (some t493) = some r := H
            have A58 := Aside0.mk A580
            clear A580
            obtain rfl := Option.some.inj H
            try go_wp2
            have n0_ := Aside0.mk (Kd.S_drew HO_467000.out)
            have n1_ := Aside0.mk (Kd.S_drew HO_467001.out)
            have n2_ := Aside0.mk (blk_drew BK456.out)
            have n3_ := Aside0.mk (blk_drew BK466.out)
            have n4_ := Aside0.mk (below_drew1 HB.out)
            clear HO_467000
            clear HO_467001
            clear BK456
            clear BK466
            clear HB
            have HO_467000 := n0_
            have HO_467001 := n1_
            have BK456 := n2_
            have BK466 := n3_
            have HB := n4_
            clear n0_ n1_ n2_ n3_ n4_
            have p467 : 0 ≤ (a1 : Int) := of_decide_eq_true (by first | (with_reducible assumption) | assumption)
            have q467 : a1 < (t459.length : Int) := of_decide_eq_true (by first | (with_reducible assumption) | assumption)
            obtain ⟨ad467, A467_0, c467_0, e467, hx467_0, hl467_0, hi467_0⟩ := at_L15 (Kd.S_reads' HO_467000.out).2.2 a1 p467 q467
            cases e467
            obtain ⟨ce467, hce467, hMe467, hcc467⟩ := Kd.S_get HO_467000.out [] a1 p467 (by first | exact q467 | exact of_decide_eq_true (by first | (with_reducible assumption) | assumption) | (have e_ := (Kd.S_reads' HO_467000.out).1; omega))
            obtain ⟨ve467_0, rfl, ge467_0⟩ := hMe467
            have hv467_0 := hcc467 0 _ rfl
            rw [Nat.add_zero, show ((Kd.slice 37 k37)).sz = 1 from rfl, Nat.mul_one] at hv467_0
            replace hv467_0 := Option.some.inj (hv467_0.symm.trans hx467_0)
            rw [hv467_0] at ge467_0
            have HL467_0 := Aside0.mk (show Kd.R k37 37 _ _ _ _ (rd_L15 t459 a1) from ge467_0)
            clear hv467_0 ge467_0
            clear hcc467 hce467
            have HR467_0 := Aside0.mk hi467_0
            have HC467_0 := Aside0.mk hl467_0
            clear hi467_0 hl467_0
            replace p467 := eq_true p467
            replace q467 := eq_true q467
            refine start_ (n := 8) (S := fun w' => w'.cell? ⟨gb456, 0, none⟩ = some (.slice A0_0 l0_0.length c0_0) ∧ w'.cell? ⟨gb456, 1, none⟩ = some (.slice A0_1 l0_1.length c0_1) ∧ w'.cell? ⟨gb456, 2, none⟩ = some (.slice A0_2 l0_2.length c0_2) ∧ w'.cell? ⟨gb456, 3, none⟩ = some (.slice A0_3 l0_3.length c0_3) ∧ w'.cell? ⟨gb456, 4, none⟩ = some (.int .i64 a0_4) ∧ w'.cell? ⟨gb466, 0, none⟩ = some (.slice (some ad467) t459.length co17) ∧ w'.cell? ⟨gb466, 1, none⟩ = some (.slice Ao20 t462.length co20) ∧ w'.cell? (ad467.add (a1).toNat) = some (.slice A467_0 (rd_L15 t459 a1).length c467_0)) (ds := []) #[false, false, false, false, false, false, false, false] (by kernel_rfl) rfl rfl ⟨(blk_cell BK456.out 0).trans rfl, (blk_cell BK456.out 1).trans rfl, (blk_cell BK456.out 2).trans rfl, (blk_cell BK456.out 3).trans rfl, (blk_cell BK456.out 4).trans rfl, (blk_cell BK466.out 0).trans rfl, (blk_cell BK466.out 1).trans rfl, hx467_0⟩ (fun hHeld => ?_); refine with_tabW syntagmlaw14_StatesSteps.tab10 syntagmlaw14_StatesSteps.bits10 (fun HT_ HW_ => ?_)
            generalize wc.drew = w59 at HO_467000 HO_467001 BK456 BK466 HB HL467_0 HR467_0 hx467_0 hHeld ⊢
            refine pure_ (i := 1) (N := some 43) (v := ?_) (a' := ?_) #[false, true, false, false, false, false, false, false] rfl rfl (any_of HT_.out (by kernel_rfl)) (fun _ _ _ h => h) (Or.inl ⟨by rfl, ?_⟩) ?_ ?_
            rotate_left
            ·intro w'
             go_simp
             with_reducible rfl
            rotate_left
            ·simp only [Act.put, List.setIfInBounds_toArray, List.set_cons_zero, List.set_cons_succ, i64_w, i32_w]
             rfl
            refine pure_ (i := 3) (N := some 45) (v := ?_) (a' := ?_) #[false, true, false, true, false, false, false, false] rfl rfl (any_of HT_.out (by kernel_rfl)) (fun _ _ _ h => h) (Or.inl ⟨by rfl, ?_⟩) ?_ ?_
            rotate_left
            ·intro w'
             go_simp
             with_reducible rfl
            rotate_left
            ·simp only [Act.put, List.setIfInBounds_toArray, List.set_cons_zero, List.set_cons_succ, i64_w, i32_w]
             rfl
            refine take_ (i := 0) (N := some 42) (v := ?_) (a' := ?_) #[true, true, false, true, false, false, false, false] rfl rfl (take_ofW HT_.out HW_.out (by kernel_rfl)) (fun _ _ _ h => h) (Or.inl ⟨by rfl, ?_⟩) hHeld ?_ ?_
            rotate_left
            ·rintro w' ⟨s0, s1, s2, s3, s4, s5, s6, s7⟩
             go_simp
             with_reducible rfl
            rotate_left
            ·simp only [Act.put, List.setIfInBounds_toArray, List.set_cons_zero, List.set_cons_succ, i64_w, i32_w]
             rfl
            refine take_ (i := 2) (N := some 44) (v := ?_) (a' := ?_) #[true, true, true, true, false, false, false, false] rfl rfl (take_ofW HT_.out HW_.out (by kernel_rfl)) (fun _ _ _ h => h) (Or.inl ⟨by rfl, ?_⟩) hHeld ?_ ?_
            rotate_left
            ·rintro w' ⟨s0, s1, s2, s3, s4, s5, s6, s7⟩
             go_simp
             with_reducible rfl
            rotate_left
            ·simp only [Act.put, List.setIfInBounds_toArray, List.set_cons_zero, List.set_cons_succ, i64_w, i32_w]
             rfl
            refine pure_ (i := 4) (N := some 46) (v := ?_) (a' := ?_) #[true, true, true, true, true, false, false, false] rfl rfl (any_of HT_.out (by kernel_rfl)) (fun _ _ _ h => h) (Or.inl ⟨by rfl, ?_⟩) ?_ ?_
            rotate_left
            ·intro w'
             go_simp
             with_reducible rfl
            rotate_left
            ·simp only [Act.put, List.setIfInBounds_toArray, List.set_cons_zero, List.set_cons_succ, i64_w, i32_w]
             rfl
            refine take_ (i := 5) (N := some 47) (v := ?_) (a' := ?_) #[true, true, true, true, true, true, false, false] rfl rfl (take_ofW HT_.out HW_.out (by kernel_rfl)) (fun _ _ _ h => h) (Or.inl ⟨by rfl, ?_⟩) hHeld ?_ ?_
            rotate_left
            ·rintro w' ⟨s0, s1, s2, s3, s4, s5, s6, s7⟩
             go_simp
             with_reducible rfl
            rotate_left
            ·simp only [Act.put, List.setIfInBounds_toArray, List.set_cons_zero, List.set_cons_succ, i64_w, i32_w]
             rfl
            refine one_ (i := 6) (N := some 48) #[true, true, true, true, true, true, true, false] rfl rfl (one_of HT_.out (by kernel_rfl)) (by decide) (fun K hK => ?_)
            refine goes_ Tryd.func18 (by kernel_rfl) rfl #[.agg #[.slice A0_0 l0_0.length c0_0, .slice A0_1 l0_1.length c0_1, .slice A0_2 l0_2.length c0_2, .slice A0_3 l0_3.length c0_3, .int .i64 a0_4], .slice A467_0 (rd_L15 t459 a1).length c467_0] (by rfl) rfl rfl (by (try simp only [List.map_toArray, List.map_cons, List.map_nil]); first | done | rfl | (simp only [List.length_drop, List.length_take]; rfl)) ?_
            with_reducible refine (states_Close.calls _ _ l0_0 _ _ l0_1 _ _ l0_2 _ _ l0_3 a0_4 _ _ (rd_L15 t459 a1) t468 _ ?side1 ?side2 ?side3 ?side4 ?side5 ?side6 ?side7 ?side8 ?side9 ?side10 A28.out).mono ?_
            (case side1 => repeat (first | exact (Kd.C_below HR0_0.out HB.out) | (with_reducible refine Kd.C_alloc ?_ _) | (with_reducible refine Kd.C_drewN ?_ _) | (with_reducible refine Kd.C_drew ?_)))
            (case side2 => exact HC0_0.out)
            (case side3 => repeat (first | exact (Kd.C_below HR0_1.out HB.out) | (with_reducible refine Kd.C_alloc ?_ _) | (with_reducible refine Kd.C_drewN ?_ _) | (with_reducible refine Kd.C_drew ?_)))
            (case side4 => exact HC0_1.out)
            (case side5 => repeat (first | exact (Kd.C_below HR0_2.out HB.out) | (with_reducible refine Kd.C_alloc ?_ _) | (with_reducible refine Kd.C_drewN ?_ _) | (with_reducible refine Kd.C_drew ?_)))
            (case side6 => exact HC0_2.out)
            (case side7 => repeat (first | exact (Kd.C_below HR0_3.out HB.out) | (with_reducible refine Kd.C_alloc ?_ _) | (with_reducible refine Kd.C_drewN ?_ _) | (with_reducible refine Kd.C_drew ?_)))
            (case side8 => exact HC0_3.out)
            (case side9 => repeat (first | exact (by repeat (first | (with_reducible exact HR467_0.out) | (with_reducible refine Kd.C_alloc ?_ _) | (with_reducible refine Kd.C_drewN ?_ _) | (with_reducible refine Kd.C_drew ?_) | exact HR467_0.out)) | (with_reducible refine Kd.C_alloc ?_ _) | (with_reducible refine Kd.C_drewN ?_ _) | (with_reducible refine Kd.C_drew ?_)))
            (case side10 => exact HC467_0.out)
            rintro e w60 ⟨v469, rfl, ho0, hb⟩
            have HS7_ := (hb.cell (World.block_lt_of_cell? _ _ (hHeld.2.2.2.2.2.2.2))).trans (hHeld.2.2.2.2.2.2.2)
            refine ⟨_, rfl, ?_⟩
            have n0_ := Aside0.mk (Kd.S_elder' (by (with_reducible repeat (first | apply Kd.S_alloc | apply Kd.S_drewN | apply Kd.S_drew)); exact HO_467000.out) (Kd.R_base ho0) hb)
            have n1_ := Aside0.mk (Kd.S_below (by (with_reducible repeat (first | apply Kd.S_alloc | apply Kd.S_drewN | apply Kd.S_drew)); exact HO_467001.out) hb)
            have n2_ := Aside0.mk (Kd.R_elder' (by (with_reducible repeat (first | apply Kd.R_alloc | apply Kd.R_drewN | apply Kd.R_drew)); exact HL467_0.out) (Kd.R_base ho0) hb)
            have n3_ := Aside0.mk (Kd.R_lower (Kd.R_new' ho0 (Kd.R_lt (by (with_reducible repeat (first | apply Kd.R_alloc | apply Kd.R_drewN | apply Kd.R_drew)); exact HL467_0.out))) (below_size (by repeat (first | (with_reducible first | exact HB.out | apply below_alloc | apply pw_below_drewN | apply below_drew1 | refine below_set ?_ GE456.out | refine below_set ?_ GE466.out) | exact HB.out))))
            have n4_ := Aside0.mk (blk_below (g := gb456) (o := .cells #[.slice A0_0 l0_0.length c0_0, .slice A0_1 l0_1.length c0_1, .slice A0_2 l0_2.length c0_2, .slice A0_3 l0_3.length c0_3, .int .i64 a0_4] 27 (0, 0)) (by (with_reducible repeat (first | refine blk_drewN ?_ _ | refine blk_drew ?_ | refine blk_alloc ?_ _)); exact BK456.out) hb)
            have n5_ := Aside0.mk (blk_below (g := gb466) (o := .cells #[.slice (some ad467) t459.length co17, .slice Ao20 t462.length co20] 49 (0, 0)) (by (with_reducible repeat (first | refine blk_drewN ?_ _ | refine blk_drew ?_ | refine blk_alloc ?_ _)); exact BK466.out) hb)
            have n6_ := Aside0.mk (Kd.C_below (by repeat (first | (with_reducible exact HR467_0.out) | (with_reducible refine Kd.C_alloc ?_ _) | (with_reducible refine Kd.C_drewN ?_ _) | (with_reducible refine Kd.C_drew ?_) | exact HR467_0.out)) hb)
            have n7_ := Aside0.mk (below_step (by repeat (first | (with_reducible first | exact HB.out | apply below_alloc | apply pw_below_drewN | apply below_drew1 | refine below_set ?_ GE456.out | refine below_set ?_ GE466.out) | exact HB.out)) hb)
            clear HO_467000
            clear HO_467001
            clear HL467_0
            clear BK456
            clear BK466
            clear HR467_0
            clear HB
            have HO_467000 := n0_
            have HO_467001 := n1_
            have HL467_0 := n2_
            have HO470 := n3_
            have BK456 := n4_
            have BK466 := n5_
            have HR467_0 := n6_
            have HB := n7_
            clear n0_ n1_ n2_ n3_ n4_ n5_ n6_ n7_
            (try clear hb)
            (try clear hb2)
            (try clear hk)
            (try clear hi)
            (try clear ho0)
            refine hK.out _ _ ⟨(blk_cell BK456.out 0).trans rfl, (blk_cell BK456.out 1).trans rfl, (blk_cell BK456.out 2).trans rfl, (blk_cell BK456.out 3).trans rfl, (blk_cell BK456.out 4).trans rfl, (blk_cell BK466.out 0).trans rfl, (blk_cell BK466.out 1).trans rfl, HS7_⟩ (fun hHeld => ?_)
            clear hK K
            refine norm_ (a' := ?_) ?_ ?_
            rotate_left
            ·show Act.put _ (some 48) _ = _
             simp only [Act.put, List.setIfInBounds_toArray, List.set_cons_zero, List.set_cons_succ, i64_w, i32_w]
             rfl
            refine pure_ (i := 7) (N := some 11) (v := ?_) (a' := ?_) #[true, true, true, true, true, true, true, true] rfl rfl (any_of HT_.out (by kernel_rfl)) (fun _ _ _ h => h) (Or.inl ⟨by rfl, ?_⟩) ?_ ?_
            rotate_left
            ·intro w'
             go_simp
             with_reducible rfl
            rotate_left
            ·simp only [Act.put, List.setIfInBounds_toArray, List.set_cons_zero, List.set_cons_succ, i64_w, i32_w]
             rfl
            refine done_ (done_of HT_.out (by kernel_rfl)) ?_
            try go_wp2
            have n0_ := Aside0.mk (Kd.S_drew HO_467000.out)
            have n1_ := Aside0.mk (Kd.S_drew HO_467001.out)
            have n2_ := Aside0.mk (Kd.R_drew HL467_0.out)
            have n3_ := Aside0.mk (Kd.R_drew HO470.out)
            have n4_ := Aside0.mk (blk_drew BK456.out)
            have n5_ := Aside0.mk (blk_drew BK466.out)
            have n6_ := Aside0.mk (Kd.C_drew HR467_0.out)
            have n7_ := Aside0.mk (below_drew1 HB.out)
            clear HO_467000
            clear HO_467001
            clear HL467_0
            clear HO470
            clear BK456
            clear BK466
            clear HR467_0
            clear HB
            have HO_467000 := n0_
            have HO_467001 := n1_
            have HL467_0 := n2_
            have HO470 := n3_
            have BK456 := n4_
            have BK466 := n5_
            have HR467_0 := n6_
            have HB := n7_
            clear n0_ n1_ n2_ n3_ n4_ n5_ n6_ n7_
            have p471 : 0 ≤ (a1 : Int) := of_decide_eq_true (by first | (with_reducible assumption) | assumption)
            have q471 : a1 < (t459.length : Int) := of_decide_eq_true (by first | (with_reducible assumption) | assumption)
            obtain ⟨ad471, A471_0, c471_0, e471, hx471_0, hl471_0, hi471_0⟩ := at_L15 (Kd.S_reads' HO_467000.out).2.2 a1 p471 q471
            obtain rfl : ad467 = ad471 := (by injection e471)
            obtain ⟨ce471, hce471, hMe471, hcc471⟩ := Kd.S_get HO_467000.out [] a1 p471 (by first | exact q471 | exact of_decide_eq_true (by first | (with_reducible assumption) | assumption) | (have e_ := (Kd.S_reads' HO_467000.out).1; omega))
            obtain ⟨ve471_0, rfl, ge471_0⟩ := hMe471
            have hv471_0 := hcc471 0 _ rfl
            rw [Nat.add_zero, show ((Kd.slice 37 k37)).sz = 1 from rfl, Nat.mul_one] at hv471_0
            replace hv471_0 := Option.some.inj (hv471_0.symm.trans hx471_0)
            rw [hv471_0] at ge471_0
            have HL471_0 := Aside0.mk (show Kd.R k37 37 _ _ _ _ (rd_L15 t459 a1) from ge471_0)
            clear hv471_0 ge471_0
            clear hcc471 hce471
            have HR471_0 := Aside0.mk hi471_0
            have HC471_0 := Aside0.mk hl471_0
            clear hi471_0 hl471_0
            replace p471 := eq_true p471
            replace q471 := eq_true q471
            refine start_ (n := 9) (S := fun w' => w'.cell? ⟨gb456, 0, none⟩ = some (.slice A0_0 l0_0.length c0_0) ∧ w'.cell? ⟨gb456, 1, none⟩ = some (.slice A0_1 l0_1.length c0_1) ∧ w'.cell? ⟨gb456, 2, none⟩ = some (.slice A0_2 l0_2.length c0_2) ∧ w'.cell? ⟨gb456, 3, none⟩ = some (.slice A0_3 l0_3.length c0_3) ∧ w'.cell? ⟨gb456, 4, none⟩ = some (.int .i64 a0_4) ∧ w'.cell? ⟨gb466, 0, none⟩ = some (.slice (some ad467) t459.length co17) ∧ w'.cell? ⟨gb466, 1, none⟩ = some (.slice Ao20 t462.length co20) ∧ w'.cell? (ad467.add (a1).toNat) = some (.slice A471_0 (rd_L15 t459 a1).length c471_0)) (ds := []) #[false, false, false, false, false, false, false, false, false] (by kernel_rfl) rfl rfl ⟨(blk_cell BK456.out 0).trans rfl, (blk_cell BK456.out 1).trans rfl, (blk_cell BK456.out 2).trans rfl, (blk_cell BK456.out 3).trans rfl, (blk_cell BK456.out 4).trans rfl, (blk_cell BK466.out 0).trans rfl, (blk_cell BK466.out 1).trans rfl, hx471_0⟩ (fun hHeld => ?_); refine with_tabW syntagmlaw14_StatesSteps.tab11 syntagmlaw14_StatesSteps.bits11 (fun HT_ HW_ => ?_)
            generalize w60.drew = w61 at HO_467000 HO_467001 HL467_0 HO470 BK456 BK466 HR467_0 HB HL471_0 HR471_0 hx471_0 hHeld ⊢
            refine pure_ (i := 1) (N := some 50) (v := ?_) (a' := ?_) #[false, true, false, false, false, false, false, false, false] rfl rfl (any_of HT_.out (by kernel_rfl)) (fun _ _ _ h => h) (Or.inl ⟨by rfl, ?_⟩) ?_ ?_
            rotate_left
            ·intro w'
             go_simp
             with_reducible rfl
            rotate_left
            ·simp only [Act.put, List.setIfInBounds_toArray, List.set_cons_zero, List.set_cons_succ, i64_w, i32_w]
             rfl
            refine pure_ (i := 3) (N := some 52) (v := ?_) (a' := ?_) #[false, true, false, true, false, false, false, false, false] rfl rfl (any_of HT_.out (by kernel_rfl)) (fun _ _ _ h => h) (Or.inl ⟨by rfl, ?_⟩) ?_ ?_
            rotate_left
            ·intro w'
             go_simp
             with_reducible rfl
            rotate_left
            ·simp only [Act.put, List.setIfInBounds_toArray, List.set_cons_zero, List.set_cons_succ, i64_w, i32_w]
             rfl
            refine pure_ (i := 6) (N := some 55) (v := ?_) (a' := ?_) #[false, true, false, true, false, false, true, false, false] rfl rfl (any_of HT_.out (by kernel_rfl)) (fun _ _ _ h => h) (Or.inl ⟨by rfl, ?_⟩) ?_ ?_
            rotate_left
            ·intro w'
             go_simp
             with_reducible rfl
            rotate_left
            ·simp only [Act.put, List.setIfInBounds_toArray, List.set_cons_zero, List.set_cons_succ, i64_w, i32_w]
             rfl
            refine take_ (i := 0) (N := some 49) (v := ?_) (a' := ?_) #[true, true, false, true, false, false, true, false, false] rfl rfl (take_ofW HT_.out HW_.out (by kernel_rfl)) (fun _ _ _ h => h) (Or.inl ⟨by rfl, ?_⟩) hHeld ?_ ?_
            rotate_left
            ·rintro w' ⟨s0, s1, s2, s3, s4, s5, s6, s7⟩
             go_simp
             with_reducible rfl
            rotate_left
            ·simp only [Act.put, List.setIfInBounds_toArray, List.set_cons_zero, List.set_cons_succ, i64_w, i32_w]
             rfl
            refine take_ (i := 2) (N := some 51) (v := ?_) (a' := ?_) #[true, true, true, true, false, false, true, false, false] rfl rfl (take_ofW HT_.out HW_.out (by kernel_rfl)) (fun _ _ _ h => h) (Or.inl ⟨by rfl, ?_⟩) hHeld ?_ ?_
            rotate_left
            ·rintro w' ⟨s0, s1, s2, s3, s4, s5, s6, s7⟩
             go_simp
             with_reducible rfl
            rotate_left
            ·simp only [Act.put, List.setIfInBounds_toArray, List.set_cons_zero, List.set_cons_succ, i64_w, i32_w]
             rfl
            refine pure_ (i := 4) (N := some 53) (v := ?_) (a' := ?_) #[true, true, true, true, true, false, true, false, false] rfl rfl (any_of HT_.out (by kernel_rfl)) (fun _ _ _ h => h) (Or.inl ⟨by rfl, ?_⟩) ?_ ?_
            rotate_left
            ·intro w'
             go_simp
             with_reducible rfl
            rotate_left
            ·simp only [Act.put, List.setIfInBounds_toArray, List.set_cons_zero, List.set_cons_succ, i64_w, i32_w]
             rfl
            refine take_ (i := 5) (N := some 54) (v := ?_) (a' := ?_) #[true, true, true, true, true, true, true, false, false] rfl rfl (take_ofW HT_.out HW_.out (by kernel_rfl)) (fun _ _ _ h => h) (Or.inl ⟨by rfl, ?_⟩) hHeld ?_ ?_
            rotate_left
            ·rintro w' ⟨s0, s1, s2, s3, s4, s5, s6, s7⟩
             go_simp
             with_reducible rfl
            rotate_left
            ·simp only [Act.put, List.setIfInBounds_toArray, List.set_cons_zero, List.set_cons_succ, i64_w, i32_w]
             rfl
            refine one_ (i := 7) (N := some 56) #[true, true, true, true, true, true, true, true, false] rfl rfl (one_of HT_.out (by kernel_rfl)) (by decide) (fun K hK => ?_)
            refine goes_ Tryd.func20 (by kernel_rfl) rfl #[.agg #[.slice A0_0 l0_0.length c0_0, .slice A0_1 l0_1.length c0_1, .slice A0_2 l0_2.length c0_2, .slice A0_3 l0_3.length c0_3, .int .i64 a0_4], .slice A471_0 (rd_L15 t459 a1).length c471_0, .int .i64 a2] (by rfl) rfl rfl (by (try simp only [List.map_toArray, List.map_cons, List.map_nil]); first | done | rfl | (simp only [List.length_drop, List.length_take]; rfl)) ?_
            with_reducible refine (states_Step.calls _ _ l0_0 _ _ l0_1 _ _ l0_2 _ _ l0_3 a0_4 _ _ (rd_L15 t459 a1) a2 t472 _ ?side1 ?side2 ?side3 ?side4 ?side5 ?side6 ?side7 ?side8 ?side9 ?side10 A29.out).mono ?_
            (case side1 => repeat (first | exact (Kd.C_below HR0_0.out HB.out) | (with_reducible refine Kd.C_alloc ?_ _) | (with_reducible refine Kd.C_drewN ?_ _) | (with_reducible refine Kd.C_drew ?_)))
            (case side2 => exact HC0_0.out)
            (case side3 => repeat (first | exact (Kd.C_below HR0_1.out HB.out) | (with_reducible refine Kd.C_alloc ?_ _) | (with_reducible refine Kd.C_drewN ?_ _) | (with_reducible refine Kd.C_drew ?_)))
            (case side4 => exact HC0_1.out)
            (case side5 => repeat (first | exact (Kd.C_below HR0_2.out HB.out) | (with_reducible refine Kd.C_alloc ?_ _) | (with_reducible refine Kd.C_drewN ?_ _) | (with_reducible refine Kd.C_drew ?_)))
            (case side6 => exact HC0_2.out)
            (case side7 => repeat (first | exact (Kd.C_below HR0_3.out HB.out) | (with_reducible refine Kd.C_alloc ?_ _) | (with_reducible refine Kd.C_drewN ?_ _) | (with_reducible refine Kd.C_drew ?_)))
            (case side8 => exact HC0_3.out)
            (case side9 => repeat (first | exact (by repeat (first | (with_reducible exact HR471_0.out) | (with_reducible refine Kd.C_alloc ?_ _) | (with_reducible refine Kd.C_drewN ?_ _) | (with_reducible refine Kd.C_drew ?_) | exact HR471_0.out)) | (with_reducible refine Kd.C_alloc ?_ _) | (with_reducible refine Kd.C_drewN ?_ _) | (with_reducible refine Kd.C_drew ?_)))
            (case side10 => exact HC471_0.out)
            rintro e w62 ⟨v473, rfl, ho0, hb⟩
            have HS7_ := (hb.cell (World.block_lt_of_cell? _ _ (hHeld.2.2.2.2.2.2.2))).trans (hHeld.2.2.2.2.2.2.2)
            refine ⟨_, rfl, ?_⟩
            have n0_ := Aside0.mk (Kd.S_elder' (by (with_reducible repeat (first | apply Kd.S_alloc | apply Kd.S_drewN | apply Kd.S_drew)); exact HO_467000.out) (Kd.R_base ho0) hb)
            have n1_ := Aside0.mk (Kd.S_below (by (with_reducible repeat (first | apply Kd.S_alloc | apply Kd.S_drewN | apply Kd.S_drew)); exact HO_467001.out) hb)
            have n2_ := Aside0.mk (Kd.R_elder' (by (with_reducible repeat (first | apply Kd.R_alloc | apply Kd.R_drewN | apply Kd.R_drew)); exact HL467_0.out) (Kd.R_base ho0) hb)
            have n3_ := Aside0.mk (Kd.R_elder' (by (with_reducible repeat (first | apply Kd.R_alloc | apply Kd.R_drewN | apply Kd.R_drew)); exact HO470.out) (Kd.R_base ho0) hb)
            have n4_ := Aside0.mk (Kd.R_elder' (by (with_reducible repeat (first | apply Kd.R_alloc | apply Kd.R_drewN | apply Kd.R_drew)); exact HL471_0.out) (Kd.R_base ho0) hb)
            have n5_ := Aside0.mk (Kd.R_lower (Kd.R_new' (Kd.R_new' (Kd.R_new' ho0 (Kd.R_lt (by (with_reducible repeat (first | apply Kd.R_alloc | apply Kd.R_drewN | apply Kd.R_drew)); exact HL467_0.out))) (Kd.R_lt (by (with_reducible repeat (first | apply Kd.R_alloc | apply Kd.R_drewN | apply Kd.R_drew)); exact HO470.out))) (Kd.R_lt (by (with_reducible repeat (first | apply Kd.R_alloc | apply Kd.R_drewN | apply Kd.R_drew)); exact HL471_0.out))) (below_size (by repeat (first | (with_reducible first | exact HB.out | apply below_alloc | apply pw_below_drewN | apply below_drew1 | refine below_set ?_ GE456.out | refine below_set ?_ GE466.out) | exact HB.out))))
            have n6_ := Aside0.mk (blk_below (g := gb456) (o := .cells #[.slice A0_0 l0_0.length c0_0, .slice A0_1 l0_1.length c0_1, .slice A0_2 l0_2.length c0_2, .slice A0_3 l0_3.length c0_3, .int .i64 a0_4] 27 (0, 0)) (by (with_reducible repeat (first | refine blk_drewN ?_ _ | refine blk_drew ?_ | refine blk_alloc ?_ _)); exact BK456.out) hb)
            have n7_ := Aside0.mk (blk_below (g := gb466) (o := .cells #[.slice (some ad467) t459.length co17, .slice Ao20 t462.length co20] 49 (0, 0)) (by (with_reducible repeat (first | refine blk_drewN ?_ _ | refine blk_drew ?_ | refine blk_alloc ?_ _)); exact BK466.out) hb)
            have n8_ := Aside0.mk (Kd.C_below (by repeat (first | (with_reducible exact HR467_0.out) | (with_reducible refine Kd.C_alloc ?_ _) | (with_reducible refine Kd.C_drewN ?_ _) | (with_reducible refine Kd.C_drew ?_) | exact HR467_0.out)) hb)
            have n9_ := Aside0.mk (Kd.C_below (by repeat (first | (with_reducible exact HR471_0.out) | (with_reducible refine Kd.C_alloc ?_ _) | (with_reducible refine Kd.C_drewN ?_ _) | (with_reducible refine Kd.C_drew ?_) | exact HR471_0.out)) hb)
            have n10_ := Aside0.mk (below_step (by repeat (first | (with_reducible first | exact HB.out | apply below_alloc | apply pw_below_drewN | apply below_drew1 | refine below_set ?_ GE456.out | refine below_set ?_ GE466.out) | exact HB.out)) hb)
            clear HO_467000
            clear HO_467001
            clear HL467_0
            clear HO470
            clear HL471_0
            clear BK456
            clear BK466
            clear HR467_0
            clear HR471_0
            clear HB
            have HO_467000 := n0_
            have HO_467001 := n1_
            have HL467_0 := n2_
            have HO470 := n3_
            have HL471_0 := n4_
            have HO474 := n5_
            have BK456 := n6_
            have BK466 := n7_
            have HR467_0 := n8_
            have HR471_0 := n9_
            have HB := n10_
            clear n0_ n1_ n2_ n3_ n4_ n5_ n6_ n7_ n8_ n9_ n10_
            (try clear hb)
            (try clear hb2)
            (try clear hk)
            (try clear hi)
            (try clear ho0)
            refine hK.out _ _ ⟨(blk_cell BK456.out 0).trans rfl, (blk_cell BK456.out 1).trans rfl, (blk_cell BK456.out 2).trans rfl, (blk_cell BK456.out 3).trans rfl, (blk_cell BK456.out 4).trans rfl, (blk_cell BK466.out 0).trans rfl, (blk_cell BK466.out 1).trans rfl, HS7_⟩ (fun hHeld => ?_)
            clear hK K
            refine norm_ (a' := ?_) ?_ ?_
            rotate_left
            ·show Act.put _ (some 56) _ = _
             simp only [Act.put, List.setIfInBounds_toArray, List.set_cons_zero, List.set_cons_succ, i64_w, i32_w]
             rfl
            refine pure_ (i := 8) (N := some 12) (v := ?_) (a' := ?_) #[true, true, true, true, true, true, true, true, true] rfl rfl (any_of HT_.out (by kernel_rfl)) (fun _ _ _ h => h) (Or.inl ⟨by rfl, ?_⟩) ?_ ?_
            rotate_left
            ·intro w'
             go_simp
             with_reducible rfl
            rotate_left
            ·simp only [Act.put, List.setIfInBounds_toArray, List.set_cons_zero, List.set_cons_succ, i64_w, i32_w]
             rfl
            refine done_ (done_of HT_.out (by kernel_rfl)) ?_
            have hnb63 := NB456_466.out
            have hnc63 := NB466_456.out
            have hcz64_0 : w62.cell? ⟨gb456, 0, none⟩ = some (.slice A0_0 l0_0.length c0_0) := (blk_cell BK456.out 0).trans rfl
            have hcz64_1 : w62.cell? ⟨gb456, 1, none⟩ = some (.slice A0_1 l0_1.length c0_1) := (blk_cell BK456.out 1).trans rfl
            have hcz64_2 : w62.cell? ⟨gb456, 2, none⟩ = some (.slice A0_2 l0_2.length c0_2) := (blk_cell BK456.out 2).trans rfl
            have hcz64_3 : w62.cell? ⟨gb456, 3, none⟩ = some (.slice A0_3 l0_3.length c0_3) := (blk_cell BK456.out 3).trans rfl
            have hcz64_4 : w62.cell? ⟨gb456, 4, none⟩ = some (.int .i64 a0_4) := (blk_cell BK456.out 4).trans rfl
            have hfz64_0 := blk_frozen BK456.out 0
            have hfz64_1 := blk_frozen BK456.out 1
            have hfz64_2 := blk_frozen BK456.out 2
            have hfz64_3 := blk_frozen BK456.out 3
            have hfz64_4 := blk_frozen BK456.out 4
            obtain ⟨Ao65, co65, eo65⟩ := Kd.R_slice HO470.out
            subst eo65
            try go_wp2_with (first | ((with_reducible refine gate_callee (f := 20) rfl ?_); refine goesL_ (some 60) rfl rfl Tryd.func20 (by kernel_rfl) rfl #[.agg #[.slice A0_0 l0_0.length c0_0, .slice A0_1 l0_1.length c0_1, .slice A0_2 l0_2.length c0_2, .slice A0_3 l0_3.length c0_3, .int .i64 a0_4], .slice Ao65 t468.length co65, .int .i64 a2] rfl (by (try simp only [List.map_toArray, List.map_cons, List.map_nil]); first | done | rfl | (simp only [List.length_drop, List.length_take]; rfl)) ?_; (with_reducible refine (states_Step.calls _ _ l0_0 _ _ l0_1 _ _ l0_2 _ _ l0_3 a0_4 _ _ t468 a2 t475 _ ?side1 ?side2 ?side3 ?side4 ?side5 ?side6 ?side7 ?side8 ?side9 ?side10 A30.out).mono ?_); (case side1 => repeat (first | exact (Kd.C_below HR0_0.out HB.out) | (with_reducible refine Kd.C_alloc ?_ _) | (with_reducible refine Kd.C_drewN ?_ _) | (with_reducible refine Kd.C_drew ?_))); (case side2 => exact HC0_0.out); (case side3 => repeat (first | exact (Kd.C_below HR0_1.out HB.out) | (with_reducible refine Kd.C_alloc ?_ _) | (with_reducible refine Kd.C_drewN ?_ _) | (with_reducible refine Kd.C_drew ?_))); (case side4 => exact HC0_1.out); (case side5 => repeat (first | exact (Kd.C_below HR0_2.out HB.out) | (with_reducible refine Kd.C_alloc ?_ _) | (with_reducible refine Kd.C_drewN ?_ _) | (with_reducible refine Kd.C_drew ?_))); (case side6 => exact HC0_2.out); (case side7 => repeat (first | exact (Kd.C_below HR0_3.out HB.out) | (with_reducible refine Kd.C_alloc ?_ _) | (with_reducible refine Kd.C_drewN ?_ _) | (with_reducible refine Kd.C_drew ?_))); (case side8 => exact HC0_3.out); (case side9 => repeat (first | exact (Kd.R_reads' HO470.out).2.2 | (with_reducible refine Kd.C_alloc ?_ _) | (with_reducible refine Kd.C_drewN ?_ _) | (with_reducible refine Kd.C_drew ?_))); (case side10 => exact (Kd.R_reads' HO470.out).2.1); rintro e w66 ⟨v476, rfl, ho0, hb⟩; refine ⟨_, rfl, ?_⟩; have n0_ := Aside0.mk (Kd.S_elder' (by (with_reducible repeat (first | apply Kd.S_alloc | apply Kd.S_drewN | apply Kd.S_drew)); exact HO_467000.out) (Kd.R_base ho0) hb); have n1_ := Aside0.mk (Kd.S_below (by (with_reducible repeat (first | apply Kd.S_alloc | apply Kd.S_drewN | apply Kd.S_drew)); exact HO_467001.out) hb); have n2_ := Aside0.mk (Kd.R_elder' (by (with_reducible repeat (first | apply Kd.R_alloc | apply Kd.R_drewN | apply Kd.R_drew)); exact HL467_0.out) (Kd.R_base ho0) hb); have n3_ := Aside0.mk (Kd.R_elder' (by (with_reducible repeat (first | apply Kd.R_alloc | apply Kd.R_drewN | apply Kd.R_drew)); exact HO470.out) (Kd.R_base ho0) hb); have n4_ := Aside0.mk (Kd.R_elder' (by (with_reducible repeat (first | apply Kd.R_alloc | apply Kd.R_drewN | apply Kd.R_drew)); exact HL471_0.out) (Kd.R_base ho0) hb); have n5_ := Aside0.mk (Kd.R_elder' (by (with_reducible repeat (first | apply Kd.R_alloc | apply Kd.R_drewN | apply Kd.R_drew)); exact HO474.out) (Kd.R_base ho0) hb); have n6_ := Aside0.mk (Kd.R_lower (Kd.R_new' (Kd.R_new' (Kd.R_new' (Kd.R_new' ho0 (Kd.R_lt (by (with_reducible repeat (first | apply Kd.R_alloc | apply Kd.R_drewN | apply Kd.R_drew)); exact HL467_0.out))) (Kd.R_lt (by (with_reducible repeat (first | apply Kd.R_alloc | apply Kd.R_drewN | apply Kd.R_drew)); exact HO470.out))) (Kd.R_lt (by (with_reducible repeat (first | apply Kd.R_alloc | apply Kd.R_drewN | apply Kd.R_drew)); exact HL471_0.out))) (Kd.R_lt (by (with_reducible repeat (first | apply Kd.R_alloc | apply Kd.R_drewN | apply Kd.R_drew)); exact HO474.out))) (below_size (by repeat (first | (with_reducible first | exact HB.out | apply below_alloc | apply pw_below_drewN | apply below_drew1 | refine below_set ?_ GE456.out | refine below_set ?_ GE466.out) | exact HB.out)))); have n7_ := Aside0.mk (blk_below (g := gb456) (o := .cells #[.slice A0_0 l0_0.length c0_0, .slice A0_1 l0_1.length c0_1, .slice A0_2 l0_2.length c0_2, .slice A0_3 l0_3.length c0_3, .int .i64 a0_4] 27 (0, 0)) (by (with_reducible repeat (first | refine blk_drewN ?_ _ | refine blk_drew ?_ | refine blk_alloc ?_ _)); exact BK456.out) hb); have n8_ := Aside0.mk (blk_below (g := gb466) (o := .cells #[.slice (some ad467) t459.length co17, .slice Ao20 t462.length co20] 49 (0, 0)) (by (with_reducible repeat (first | refine blk_drewN ?_ _ | refine blk_drew ?_ | refine blk_alloc ?_ _)); exact BK466.out) hb); have n9_ := Aside0.mk (Kd.C_below (by repeat (first | (with_reducible exact HR467_0.out) | (with_reducible refine Kd.C_alloc ?_ _) | (with_reducible refine Kd.C_drewN ?_ _) | (with_reducible refine Kd.C_drew ?_) | exact HR467_0.out)) hb); have n10_ := Aside0.mk (Kd.C_below (by repeat (first | (with_reducible exact HR471_0.out) | (with_reducible refine Kd.C_alloc ?_ _) | (with_reducible refine Kd.C_drewN ?_ _) | (with_reducible refine Kd.C_drew ?_) | exact HR471_0.out)) hb); have n11_ := Aside0.mk (below_step (by repeat (first | (with_reducible first | exact HB.out | apply below_alloc | apply pw_below_drewN | apply below_drew1 | refine below_set ?_ GE456.out | refine below_set ?_ GE466.out) | exact HB.out)) hb); clear HO_467000; clear HO_467001; clear HL467_0; clear HO470; clear HL471_0; clear HO474; clear BK456; clear BK466; clear HR467_0; clear HR471_0; clear HB; have HO_467000 := n0_; have HO_467001 := n1_; have HL467_0 := n2_; have HO470 := n3_; have HL471_0 := n4_; have HO474 := n5_; have HO477 := n6_; have BK456 := n7_; have BK466 := n8_; have HR467_0 := n9_; have HR471_0 := n10_; have HB := n11_; clear n0_ n1_ n2_ n3_ n4_ n5_ n6_ n7_ n8_ n9_ n10_ n11_; (try clear hb); (try clear hb2); (try clear hk); (try clear hi); (try clear ho0); have hcz67_0 : w66.cell? ⟨gb456, 0, none⟩ = some (.slice A0_0 l0_0.length c0_0) := (blk_cell BK456.out 0).trans rfl; have hcz67_1 : w66.cell? ⟨gb456, 1, none⟩ = some (.slice A0_1 l0_1.length c0_1) := (blk_cell BK456.out 1).trans rfl; have hcz67_2 : w66.cell? ⟨gb456, 2, none⟩ = some (.slice A0_2 l0_2.length c0_2) := (blk_cell BK456.out 2).trans rfl; have hcz67_3 : w66.cell? ⟨gb456, 3, none⟩ = some (.slice A0_3 l0_3.length c0_3) := (blk_cell BK456.out 3).trans rfl; have hcz67_4 : w66.cell? ⟨gb456, 4, none⟩ = some (.int .i64 a0_4) := (blk_cell BK456.out 4).trans rfl; have hfz67_0 := blk_frozen BK456.out 0; have hfz67_1 := blk_frozen BK456.out 1; have hfz67_2 := blk_frozen BK456.out 2; have hfz67_3 := blk_frozen BK456.out 3; have hfz67_4 := blk_frozen BK456.out 4; have hcz68_0 : w66.cell? ⟨gb466, 0, none⟩ = some (.slice (some ad467) t459.length co17) := (blk_cell BK466.out 0).trans rfl; have hcz68_1 : w66.cell? ⟨gb466, 1, none⟩ = some (.slice Ao20 t462.length co20) := (blk_cell BK466.out 1).trans rfl; have hfz68_0 := blk_frozen BK466.out 0; have hfz68_1 := blk_frozen BK466.out 1) | ((with_reducible refine gate_callee (f := 25) rfl ?_); refine goesL_ (some 65) rfl rfl Tryd.func25 (by kernel_rfl) rfl #[.agg #[.slice A0_0 l0_0.length c0_0, .slice A0_1 l0_1.length c0_1, .slice A0_2 l0_2.length c0_2, .slice A0_3 l0_3.length c0_3, .int .i64 a0_4], .agg #[.slice (some ad467) t459.length co17, .slice Ao20 t462.length co20], .int .i64 a1, .int .i64 a2] rfl (by (try simp only [List.map_toArray, List.map_cons, List.map_nil]); first | done | rfl | (simp only [List.length_drop, List.length_take]; rfl)) ?_; (with_reducible refine (states_Go.calls _ _ l0_0 _ _ l0_1 _ _ l0_2 _ _ l0_3 a0_4 _ _ t459 _ _ t462 a1 a2 t478 _ ?side1 ?side2 ?side3 ?side4 ?side5 ?side6 ?side7 ?side8 ?side9 ?side10 ?side11 ?side12 A31.out).mono ?_); (case side1 => repeat (first | exact (Kd.C_below HR0_0.out HB.out) | (with_reducible refine Kd.C_alloc ?_ _) | (with_reducible refine Kd.C_drewN ?_ _) | (with_reducible refine Kd.C_drew ?_))); (case side2 => exact HC0_0.out); (case side3 => repeat (first | exact (Kd.C_below HR0_1.out HB.out) | (with_reducible refine Kd.C_alloc ?_ _) | (with_reducible refine Kd.C_drewN ?_ _) | (with_reducible refine Kd.C_drew ?_))); (case side4 => exact HC0_1.out); (case side5 => repeat (first | exact (Kd.C_below HR0_2.out HB.out) | (with_reducible refine Kd.C_alloc ?_ _) | (with_reducible refine Kd.C_drewN ?_ _) | (with_reducible refine Kd.C_drew ?_))); (case side6 => exact HC0_2.out); (case side7 => repeat (first | exact (Kd.C_below HR0_3.out HB.out) | (with_reducible refine Kd.C_alloc ?_ _) | (with_reducible refine Kd.C_drewN ?_ _) | (with_reducible refine Kd.C_drew ?_))); (case side8 => exact HC0_3.out); (case side9 => repeat (first | exact (Kd.S_reads' HO_467000.out).2.2 | (with_reducible refine Kd.C_alloc ?_ _) | (with_reducible refine Kd.C_drewN ?_ _) | (with_reducible refine Kd.C_drew ?_))); (case side10 => exact (Kd.S_reads' HO_467000.out).2.1); (case side11 => repeat (first | exact (Kd.S_reads' HO_467001.out).2.2 | (with_reducible refine Kd.C_alloc ?_ _) | (with_reducible refine Kd.C_drewN ?_ _) | (with_reducible refine Kd.C_drew ?_))); (case side12 => exact (Kd.S_reads' HO_467001.out).2.1); rintro e w69 ⟨rfl, hb⟩; refine ⟨_, rfl, ?_⟩; have n0_ := Aside0.mk (Kd.S_below (by (with_reducible repeat (first | apply Kd.S_alloc | apply Kd.S_drewN | apply Kd.S_drew)); exact HO_467000.out) hb); have n1_ := Aside0.mk (Kd.S_below (by (with_reducible repeat (first | apply Kd.S_alloc | apply Kd.S_drewN | apply Kd.S_drew)); exact HO_467001.out) hb); have n2_ := Aside0.mk (Kd.R_below (by (with_reducible repeat (first | apply Kd.R_alloc | apply Kd.R_drewN | apply Kd.R_drew)); exact HL467_0.out) hb); have n3_ := Aside0.mk (Kd.R_below (by (with_reducible repeat (first | apply Kd.R_alloc | apply Kd.R_drewN | apply Kd.R_drew)); exact HO470.out) hb); have n4_ := Aside0.mk (Kd.R_below (by (with_reducible repeat (first | apply Kd.R_alloc | apply Kd.R_drewN | apply Kd.R_drew)); exact HL471_0.out) hb); have n5_ := Aside0.mk (Kd.R_below (by (with_reducible repeat (first | apply Kd.R_alloc | apply Kd.R_drewN | apply Kd.R_drew)); exact HO474.out) hb); have n6_ := Aside0.mk (Kd.R_below (by (with_reducible repeat (first | apply Kd.R_alloc | apply Kd.R_drewN | apply Kd.R_drew)); exact HO477.out) hb); have n7_ := Aside0.mk (blk_below (g := gb456) (o := .cells #[.slice A0_0 l0_0.length c0_0, .slice A0_1 l0_1.length c0_1, .slice A0_2 l0_2.length c0_2, .slice A0_3 l0_3.length c0_3, .int .i64 a0_4] 27 (0, 0)) (by (with_reducible repeat (first | refine blk_drewN ?_ _ | refine blk_drew ?_ | refine blk_alloc ?_ _)); exact BK456.out) hb); have n8_ := Aside0.mk (blk_below (g := gb466) (o := .cells #[.slice (some ad467) t459.length co17, .slice Ao20 t462.length co20] 49 (0, 0)) (by (with_reducible repeat (first | refine blk_drewN ?_ _ | refine blk_drew ?_ | refine blk_alloc ?_ _)); exact BK466.out) hb); have n9_ := Aside0.mk (Kd.C_below (by repeat (first | (with_reducible exact HR467_0.out) | (with_reducible refine Kd.C_alloc ?_ _) | (with_reducible refine Kd.C_drewN ?_ _) | (with_reducible refine Kd.C_drew ?_) | exact HR467_0.out)) hb); have n10_ := Aside0.mk (Kd.C_below (by repeat (first | (with_reducible exact HR471_0.out) | (with_reducible refine Kd.C_alloc ?_ _) | (with_reducible refine Kd.C_drewN ?_ _) | (with_reducible refine Kd.C_drew ?_) | exact HR471_0.out)) hb); have n11_ := Aside0.mk (below_step (by repeat (first | (with_reducible first | exact HB.out | apply below_alloc | apply pw_below_drewN | apply below_drew1 | refine below_set ?_ GE456.out | refine below_set ?_ GE466.out) | exact HB.out)) hb); clear HO_467000; clear HO_467001; clear HL467_0; clear HO470; clear HL471_0; clear HO474; clear HO477; clear BK456; clear BK466; clear HR467_0; clear HR471_0; clear HB; have HO_467000 := n0_; have HO_467001 := n1_; have HL467_0 := n2_; have HO470 := n3_; have HL471_0 := n4_; have HO474 := n5_; have HO477 := n6_; have BK456 := n7_; have BK466 := n8_; have HR467_0 := n9_; have HR471_0 := n10_; have HB := n11_; clear n0_ n1_ n2_ n3_ n4_ n5_ n6_ n7_ n8_ n9_ n10_ n11_; (try clear hb); (try clear hb2); (try clear hk); (try clear hi); obtain ⟨Ao70, co70, eo70⟩ := Kd.R_slice HO474.out; subst eo70) | ((with_reducible refine gate_callee (f := 14) rfl ?_); refine goesL_ (some 67) rfl rfl Tryd.func14 (by kernel_rfl) rfl #[.slice Ao70 t472.length co70] rfl (by (try simp only [List.map_toArray, List.map_cons, List.map_nil]); first | done | rfl | (simp only [List.length_drop, List.length_take]; rfl)) ?_; (with_reducible refine (syntagmlaw14_Row.calls kj8 _ _ t472 t479 _ ?side1 ?side2 A32.out).mono ?_); (case side1 => repeat (first | exact (Kd.R_reads' HO474.out).2.2 | (with_reducible refine Kd.C_alloc ?_ _) | (with_reducible refine Kd.C_drewN ?_ _) | (with_reducible refine Kd.C_drew ?_))); (case side2 => exact (Kd.R_reads' HO474.out).2.1); rintro e w71 ⟨v480, rfl, ho0, hb⟩; refine ⟨_, rfl, ?_⟩; have n0_ := Aside0.mk (Kd.S_below (by (with_reducible repeat (first | apply Kd.S_alloc | apply Kd.S_drewN | apply Kd.S_drew)); exact HO_467000.out) hb); have n1_ := Aside0.mk (Kd.S_below (by (with_reducible repeat (first | apply Kd.S_alloc | apply Kd.S_drewN | apply Kd.S_drew)); exact HO_467001.out) hb); have n2_ := Aside0.mk (Kd.R_below (by (with_reducible repeat (first | apply Kd.R_alloc | apply Kd.R_drewN | apply Kd.R_drew)); exact HL467_0.out) hb); have n3_ := Aside0.mk (Kd.R_below (by (with_reducible repeat (first | apply Kd.R_alloc | apply Kd.R_drewN | apply Kd.R_drew)); exact HO470.out) hb); have n4_ := Aside0.mk (Kd.R_below (by (with_reducible repeat (first | apply Kd.R_alloc | apply Kd.R_drewN | apply Kd.R_drew)); exact HL471_0.out) hb); have n5_ := Aside0.mk (Kd.R_below (by (with_reducible repeat (first | apply Kd.R_alloc | apply Kd.R_drewN | apply Kd.R_drew)); exact HO474.out) hb); have n6_ := Aside0.mk (Kd.R_below (by (with_reducible repeat (first | apply Kd.R_alloc | apply Kd.R_drewN | apply Kd.R_drew)); exact HO477.out) hb); have n7_ := Aside0.mk (Kd.R_lower ho0 (below_size (by repeat (first | (with_reducible first | exact HB.out | apply below_alloc | apply pw_below_drewN | apply below_drew1 | refine below_set ?_ GE456.out | refine below_set ?_ GE466.out) | exact HB.out)))); have n8_ := Aside0.mk (blk_below (g := gb456) (o := .cells #[.slice A0_0 l0_0.length c0_0, .slice A0_1 l0_1.length c0_1, .slice A0_2 l0_2.length c0_2, .slice A0_3 l0_3.length c0_3, .int .i64 a0_4] 27 (0, 0)) (by (with_reducible repeat (first | refine blk_drewN ?_ _ | refine blk_drew ?_ | refine blk_alloc ?_ _)); exact BK456.out) hb); have n9_ := Aside0.mk (blk_below (g := gb466) (o := .cells #[.slice (some ad467) t459.length co17, .slice Ao20 t462.length co20] 49 (0, 0)) (by (with_reducible repeat (first | refine blk_drewN ?_ _ | refine blk_drew ?_ | refine blk_alloc ?_ _)); exact BK466.out) hb); have n10_ := Aside0.mk (Kd.C_below (by repeat (first | (with_reducible exact HR467_0.out) | (with_reducible refine Kd.C_alloc ?_ _) | (with_reducible refine Kd.C_drewN ?_ _) | (with_reducible refine Kd.C_drew ?_) | exact HR467_0.out)) hb); have n11_ := Aside0.mk (Kd.C_below (by repeat (first | (with_reducible exact HR471_0.out) | (with_reducible refine Kd.C_alloc ?_ _) | (with_reducible refine Kd.C_drewN ?_ _) | (with_reducible refine Kd.C_drew ?_) | exact HR471_0.out)) hb); have n12_ := Aside0.mk (below_step (by repeat (first | (with_reducible first | exact HB.out | apply below_alloc | apply pw_below_drewN | apply below_drew1 | refine below_set ?_ GE456.out | refine below_set ?_ GE466.out) | exact HB.out)) hb); clear HO_467000; clear HO_467001; clear HL467_0; clear HO470; clear HL471_0; clear HO474; clear HO477; clear BK456; clear BK466; clear HR467_0; clear HR471_0; clear HB; have HO_467000 := n0_; have HO_467001 := n1_; have HL467_0 := n2_; have HO470 := n3_; have HL471_0 := n4_; have HO474 := n5_; have HO477 := n6_; have HO481 := n7_; have BK456 := n8_; have BK466 := n9_; have HR467_0 := n10_; have HR471_0 := n11_; have HB := n12_; clear n0_ n1_ n2_ n3_ n4_ n5_ n6_ n7_ n8_ n9_ n10_ n11_ n12_; (try clear hb); (try clear hb2); (try clear hk); (try clear hi); (try clear ho0); obtain ⟨Ao72, co72, eo72⟩ := Kd.R_slice HO477.out; subst eo72) | ((with_reducible refine gate_callee (f := 14) rfl ?_); refine goesL_ (some 69) rfl rfl Tryd.func14 (by kernel_rfl) rfl #[.slice Ao72 t475.length co72] rfl (by (try simp only [List.map_toArray, List.map_cons, List.map_nil]); first | done | rfl | (simp only [List.length_drop, List.length_take]; rfl)) ?_; (with_reducible refine (syntagmlaw14_Row.calls kj8 _ _ t475 t482 _ ?side1 ?side2 A33.out).mono ?_); (case side1 => repeat (first | exact (Kd.R_reads' HO477.out).2.2 | (with_reducible refine Kd.C_alloc ?_ _) | (with_reducible refine Kd.C_drewN ?_ _) | (with_reducible refine Kd.C_drew ?_))); (case side2 => exact (Kd.R_reads' HO477.out).2.1); rintro e w73 ⟨v483, rfl, ho0, hb⟩; refine ⟨_, rfl, ?_⟩; have n0_ := Aside0.mk (Kd.S_below (by (with_reducible repeat (first | apply Kd.S_alloc | apply Kd.S_drewN | apply Kd.S_drew)); exact HO_467000.out) hb); have n1_ := Aside0.mk (Kd.S_below (by (with_reducible repeat (first | apply Kd.S_alloc | apply Kd.S_drewN | apply Kd.S_drew)); exact HO_467001.out) hb); have n2_ := Aside0.mk (Kd.R_below (by (with_reducible repeat (first | apply Kd.R_alloc | apply Kd.R_drewN | apply Kd.R_drew)); exact HL467_0.out) hb); have n3_ := Aside0.mk (Kd.R_below (by (with_reducible repeat (first | apply Kd.R_alloc | apply Kd.R_drewN | apply Kd.R_drew)); exact HO470.out) hb); have n4_ := Aside0.mk (Kd.R_below (by (with_reducible repeat (first | apply Kd.R_alloc | apply Kd.R_drewN | apply Kd.R_drew)); exact HL471_0.out) hb); have n5_ := Aside0.mk (Kd.R_below (by (with_reducible repeat (first | apply Kd.R_alloc | apply Kd.R_drewN | apply Kd.R_drew)); exact HO474.out) hb); have n6_ := Aside0.mk (Kd.R_below (by (with_reducible repeat (first | apply Kd.R_alloc | apply Kd.R_drewN | apply Kd.R_drew)); exact HO477.out) hb); have n7_ := Aside0.mk (Kd.R_elder' (by (with_reducible repeat (first | apply Kd.R_alloc | apply Kd.R_drewN | apply Kd.R_drew)); exact HO481.out) (Kd.R_base ho0) hb); have n8_ := Aside0.mk (Kd.R_lower (Kd.R_new' ho0 (Kd.R_lt (by (with_reducible repeat (first | apply Kd.R_alloc | apply Kd.R_drewN | apply Kd.R_drew)); exact HO481.out))) (below_size (by repeat (first | (with_reducible first | exact HB.out | apply below_alloc | apply pw_below_drewN | apply below_drew1 | refine below_set ?_ GE456.out | refine below_set ?_ GE466.out) | exact HB.out)))); have n9_ := Aside0.mk (blk_below (g := gb456) (o := .cells #[.slice A0_0 l0_0.length c0_0, .slice A0_1 l0_1.length c0_1, .slice A0_2 l0_2.length c0_2, .slice A0_3 l0_3.length c0_3, .int .i64 a0_4] 27 (0, 0)) (by (with_reducible repeat (first | refine blk_drewN ?_ _ | refine blk_drew ?_ | refine blk_alloc ?_ _)); exact BK456.out) hb); have n10_ := Aside0.mk (blk_below (g := gb466) (o := .cells #[.slice (some ad467) t459.length co17, .slice Ao20 t462.length co20] 49 (0, 0)) (by (with_reducible repeat (first | refine blk_drewN ?_ _ | refine blk_drew ?_ | refine blk_alloc ?_ _)); exact BK466.out) hb); have n11_ := Aside0.mk (Kd.C_below (by repeat (first | (with_reducible exact HR467_0.out) | (with_reducible refine Kd.C_alloc ?_ _) | (with_reducible refine Kd.C_drewN ?_ _) | (with_reducible refine Kd.C_drew ?_) | exact HR467_0.out)) hb); have n12_ := Aside0.mk (Kd.C_below (by repeat (first | (with_reducible exact HR471_0.out) | (with_reducible refine Kd.C_alloc ?_ _) | (with_reducible refine Kd.C_drewN ?_ _) | (with_reducible refine Kd.C_drew ?_) | exact HR471_0.out)) hb); have n13_ := Aside0.mk (below_step (by repeat (first | (with_reducible first | exact HB.out | apply below_alloc | apply pw_below_drewN | apply below_drew1 | refine below_set ?_ GE456.out | refine below_set ?_ GE466.out) | exact HB.out)) hb); clear HO_467000; clear HO_467001; clear HL467_0; clear HO470; clear HL471_0; clear HO474; clear HO477; clear HO481; clear BK456; clear BK466; clear HR467_0; clear HR471_0; clear HB; have HO_467000 := n0_; have HO_467001 := n1_; have HL467_0 := n2_; have HO470 := n3_; have HL471_0 := n4_; have HO474 := n5_; have HO477 := n6_; have HO481 := n7_; have HO484 := n8_; have BK456 := n9_; have BK466 := n10_; have HR467_0 := n11_; have HR471_0 := n12_; have HB := n13_; clear n0_ n1_ n2_ n3_ n4_ n5_ n6_ n7_ n8_ n9_ n10_ n11_ n12_ n13_; (try clear hb); (try clear hb2); (try clear hk); (try clear hi); (try clear ho0); obtain ⟨Ao74, co74, eo74⟩ := Kd.R_slice HO481.out; subst eo74; obtain ⟨Ao75, co75, eo75⟩ := Kd.R_slice HO484.out; subst eo75) | ((with_reducible refine gate_callee (f := 17) rfl ?_); refine goesL_ (some 70) rfl rfl Tryd.func17 (by kernel_rfl) rfl #[.slice Ao74 t479.length co74, .slice Ao75 t482.length co75] rfl (by (try simp only [List.map_toArray, List.map_cons, List.map_nil]); first | done | rfl | (simp only [List.length_drop, List.length_take]; rfl)) ?_; (with_reducible refine (syntagmref14_Row.calls kj8 _ _ t479 _ _ t482 true _ ?side1 ?side2 ?side3 ?side4 A34.out).mono ?_); (case side1 => repeat (first | exact (Kd.R_reads' HO481.out).2.2 | (with_reducible refine Kd.C_alloc ?_ _) | (with_reducible refine Kd.C_drewN ?_ _) | (with_reducible refine Kd.C_drew ?_))); (case side2 => exact (Kd.R_reads' HO481.out).2.1); (case side3 => repeat (first | exact (Kd.R_reads' HO484.out).2.2 | (with_reducible refine Kd.C_alloc ?_ _) | (with_reducible refine Kd.C_drewN ?_ _) | (with_reducible refine Kd.C_drew ?_))); (case side4 => exact (Kd.R_reads' HO484.out).2.1); rintro e w' ⟨rfl, ⟨nd, rfl⟩⟩; refine ⟨_, rfl, ?_⟩))
            (try (rw [drewN_self w73]; generalize hq_ : World.drewN w73 _ = w73; have n0_ : Aside0 (Kd.R k37 37 w73 w.heap.size (fun k_ => some k_ ≠ (.slice Ao65 t468.length co65 : Value).ownBlock ∧ some k_ ≠ (.slice Ao70 t472.length co70 : Value).ownBlock ∧ some k_ ≠ (.slice Ao72 t475.length co72 : Value).ownBlock ∧ some k_ ≠ (.slice (some ad467) t459.length co17 : Value).ownBlock) (.slice A467_0 (rd_L15 t459 a1).length c467_0) (rd_L15 t459 a1)) := ⟨by rw [← hq_]; exact (by (with_reducible repeat (first | apply Kd.R_alloc | apply Kd.R_drewN | apply Kd.R_drew)); exact Kd.R_mono HL467_0.out (fun _ hk => ⟨hk.1.1.2, ⟨hk.1.2, ⟨hk.2, hk.1.1.1.2⟩⟩⟩))⟩; have n1_ : Aside0 (Kd.R k37 37 w73 w.heap.size (fun k_ => some k_ ≠ (.slice Ao65 t468.length co65 : Value).ownBlock ∧ some k_ ≠ (.slice Ao70 t472.length co70 : Value).ownBlock ∧ some k_ ≠ (.slice Ao72 t475.length co72 : Value).ownBlock ∧ some k_ ≠ (.slice (some ad467) t459.length co17 : Value).ownBlock) (.slice A471_0 (rd_L15 t459 a1).length c471_0) (rd_L15 t459 a1)) := ⟨by rw [← hq_]; exact (by (with_reducible repeat (first | apply Kd.R_alloc | apply Kd.R_drewN | apply Kd.R_drew)); exact Kd.R_mono HL471_0.out (fun _ hk => ⟨hk.1.1.1.2, ⟨hk.1.2, ⟨hk.2, hk.1.1.2⟩⟩⟩))⟩; have n2_ : Aside0 (Kd.R k37 37 w73 w.heap.size (fun k_ => some k_ ≠ (.slice A467_0 (rd_L15 t459 a1).length c467_0 : Value).ownBlock ∧ some k_ ≠ (.slice Ao70 t472.length co70 : Value).ownBlock ∧ some k_ ≠ (.slice Ao72 t475.length co72 : Value).ownBlock) (.slice Ao65 t468.length co65) t468) := ⟨by rw [← hq_]; exact (by (with_reducible repeat (first | apply Kd.R_alloc | apply Kd.R_drewN | apply Kd.R_drew)); exact Kd.R_mono HO470.out (fun _ hk => ⟨hk.1.1.2, ⟨hk.1.2, hk.2⟩⟩))⟩; have n3_ : Aside0 (Kd.R k37 37 w73 w.heap.size (fun k_ => some k_ ≠ (.slice A467_0 (rd_L15 t459 a1).length c467_0 : Value).ownBlock ∧ some k_ ≠ (.slice A471_0 (rd_L15 t459 a1).length c471_0 : Value).ownBlock ∧ some k_ ≠ (.slice Ao65 t468.length co65 : Value).ownBlock ∧ some k_ ≠ (.slice Ao72 t475.length co72 : Value).ownBlock) (.slice Ao70 t472.length co70) t472) := ⟨by rw [← hq_]; exact (by (with_reducible repeat (first | apply Kd.R_alloc | apply Kd.R_drewN | apply Kd.R_drew)); exact Kd.R_mono HO474.out (fun _ hk => ⟨hk.1.1.1.2, ⟨hk.1.2, ⟨hk.1.1.2, hk.2⟩⟩⟩))⟩; have n4_ : Aside0 (Kd.R k37 37 w73 w.heap.size (fun k_ => some k_ ≠ (.slice A467_0 (rd_L15 t459 a1).length c467_0 : Value).ownBlock ∧ some k_ ≠ (.slice A471_0 (rd_L15 t459 a1).length c471_0 : Value).ownBlock ∧ some k_ ≠ (.slice Ao65 t468.length co65 : Value).ownBlock ∧ some k_ ≠ (.slice Ao70 t472.length co70 : Value).ownBlock) (.slice Ao72 t475.length co72) t475) := ⟨by rw [← hq_]; exact (by (with_reducible repeat (first | apply Kd.R_alloc | apply Kd.R_drewN | apply Kd.R_drew)); exact Kd.R_mono HO477.out (fun _ hk => ⟨hk.1.1.1.2, ⟨hk.1.2, ⟨hk.1.1.2, hk.2⟩⟩⟩))⟩; have n5_ : Aside0 (Kd.R k39 39 w73 w.heap.size (fun k_ => some k_ ≠ (.slice Ao75 t482.length co75 : Value).ownBlock) (.slice Ao74 t479.length co74) t479) := ⟨by rw [← hq_]; exact (by (with_reducible repeat (first | apply Kd.R_alloc | apply Kd.R_drewN | apply Kd.R_drew)); exact Kd.R_mono HO481.out (fun _ hk => hk.2))⟩; have n6_ : Aside0 (Kd.R k39 39 w73 w.heap.size (fun k_ => some k_ ≠ (.slice Ao74 t479.length co74 : Value).ownBlock) (.slice Ao75 t482.length co75) t482) := ⟨by rw [← hq_]; exact (by (with_reducible repeat (first | apply Kd.R_alloc | apply Kd.R_drewN | apply Kd.R_drew)); exact Kd.R_mono HO484.out (fun _ hk => hk.2))⟩; have n7_ : Aside0 (Kd.S (Kd.slice 37 k37) 28 w73 w.heap.size (fun k_ => some k_ ≠ (.slice Ao65 t468.length co65 : Value).ownBlock ∧ some k_ ≠ (.slice Ao70 t472.length co70 : Value).ownBlock ∧ some k_ ≠ (.slice Ao72 t475.length co72 : Value).ownBlock) (.slice (some ad467) t459.length co17) t459) := ⟨by rw [← hq_]; exact (by (with_reducible repeat (first | apply Kd.S_alloc | apply Kd.S_drewN | apply Kd.S_drew)); exact Kd.S_mono HO_467000.out (fun _ hk => ⟨hk.1.1.2, ⟨hk.1.2, hk.2⟩⟩))⟩; have n8_ : Aside0 (Kd.S (Kd.slice 3 (Kd.int .i64)) 58 w73 w.heap.size (fun _ => True) (.slice Ao20 t462.length co20) t462) := ⟨by rw [← hq_]; exact (by (with_reducible repeat (first | apply Kd.S_alloc | apply Kd.S_drewN | apply Kd.S_drew)); exact HO_467001.out)⟩; have n9_ : Aside0 (w73.heap[gb456]? = some (.cells #[.slice A0_0 l0_0.length c0_0, .slice A0_1 l0_1.length c0_1, .slice A0_2 l0_2.length c0_2, .slice A0_3 l0_3.length c0_3, .int .i64 a0_4] 27 (0, 0))) := ⟨by rw [← hq_]; exact (by (with_reducible repeat (first | refine blk_drewN ?_ _ | refine blk_drew ?_ | refine blk_alloc ?_ _)); exact BK456.out)⟩; have n10_ : Aside0 (w73.heap[gb466]? = some (.cells #[.slice (some ad467) t459.length co17, .slice Ao20 t462.length co20] 49 (0, 0))) := ⟨by rw [← hq_]; exact (by (with_reducible repeat (first | refine blk_drewN ?_ _ | refine blk_drew ?_ | refine blk_alloc ?_ _)); exact BK466.out)⟩; have n11_ : Aside0 (Below w.heap.size w w73) := ⟨by rw [← hq_]; exact (by repeat (first | (with_reducible first | exact HB.out | apply below_alloc | apply pw_below_drewN | apply below_drew1 | refine below_set ?_ GE456.out | refine below_set ?_ GE466.out) | exact HB.out))⟩; have n12_ : Aside0 (Kd.C k37 w73 A467_0 (rd_L15 t459 a1).length (rd_L15 t459 a1)) := ⟨by rw [← hq_]; exact (by repeat (first | (with_reducible exact HR467_0.out) | (with_reducible refine Kd.C_alloc ?_ _) | (with_reducible refine Kd.C_drewN ?_ _) | (with_reducible refine Kd.C_drew ?_) | exact HR467_0.out))⟩; have n13_ : Aside0 (Kd.C k37 w73 A471_0 (rd_L15 t459 a1).length (rd_L15 t459 a1)) := ⟨by rw [← hq_]; exact (by repeat (first | (with_reducible exact HR471_0.out) | (with_reducible refine Kd.C_alloc ?_ _) | (with_reducible refine Kd.C_drewN ?_ _) | (with_reducible refine Kd.C_drew ?_) | exact HR471_0.out))⟩; clear HL467_0 HL471_0 HO470 HO474 HO477 HO481 HO484 HO_467000 HO_467001 BK456 BK466 HB HR467_0 HR471_0 hq_; have HL467_0 := n0_; have HL471_0 := n1_; have HO470 := n2_; have HO474 := n3_; have HO477 := n4_; have HO481 := n5_; have HO484 := n6_; have HO_467000 := n7_; have HO_467001 := n8_; have BK456 := n9_; have BK466 := n10_; have HB := n11_; have HR467_0 := n12_; have HR471_0 := n13_; clear n0_ n1_ n2_ n3_ n4_ n5_ n6_ n7_ n8_ n9_ n10_ n11_ n12_ n13_))
            have n0_ := Aside0.mk (Kd.S_drew HO_467000.out)
            have n1_ := Aside0.mk (Kd.S_drew HO_467001.out)
            have n2_ := Aside0.mk (Kd.R_drew HL467_0.out)
            have n3_ := Aside0.mk (Kd.R_drew HO470.out)
            have n4_ := Aside0.mk (Kd.R_drew HL471_0.out)
            have n5_ := Aside0.mk (Kd.R_drew HO474.out)
            have n6_ := Aside0.mk (Kd.R_drew HO477.out)
            have n7_ := Aside0.mk (Kd.R_drew HO481.out)
            have n8_ := Aside0.mk (Kd.R_drew HO484.out)
            have n9_ := Aside0.mk (blk_drew BK456.out)
            have n10_ := Aside0.mk (blk_drew BK466.out)
            have n11_ := Aside0.mk (Kd.C_drew HR467_0.out)
            have n12_ := Aside0.mk (Kd.C_drew HR471_0.out)
            have n13_ := Aside0.mk (below_drew1 HB.out)
            clear HO_467000
            clear HO_467001
            clear HL467_0
            clear HO470
            clear HL471_0
            clear HO474
            clear HO477
            clear HO481
            clear HO484
            clear BK456
            clear BK466
            clear HR467_0
            clear HR471_0
            clear HB
            have HO_467000 := n0_
            have HO_467001 := n1_
            have HL467_0 := n2_
            have HO470 := n3_
            have HL471_0 := n4_
            have HO474 := n5_
            have HO477 := n6_
            have HO481 := n7_
            have HO484 := n8_
            have BK456 := n9_
            have BK466 := n10_
            have HR467_0 := n11_
            have HR471_0 := n12_
            have HB := n13_
            clear n0_ n1_ n2_ n3_ n4_ n5_ n6_ n7_ n8_ n9_ n10_ n11_ n12_ n13_
            have p489 : 0 ≤ (t478 : Int) := of_decide_eq_true (by first | (with_reducible assumption) | assumption)
            have q489 : t478 < (t459.length : Int) := of_decide_eq_true (by first | (with_reducible assumption) | assumption)
            obtain ⟨ad489, A489_0, c489_0, e489, hx489_0, hl489_0, hi489_0⟩ := at_L15 (Kd.S_reads' HO_467000.out).2.2 t478 p489 q489
            obtain rfl : ad467 = ad489 := (by injection e489)
            obtain ⟨ce489, hce489, hMe489, hcc489⟩ := Kd.S_get HO_467000.out [] t478 p489 (by first | exact q489 | exact of_decide_eq_true (by first | (with_reducible assumption) | assumption) | (have e_ := (Kd.S_reads' HO_467000.out).1; omega))
            obtain ⟨ve489_0, rfl, ge489_0⟩ := hMe489
            have hv489_0 := hcc489 0 _ rfl
            rw [Nat.add_zero, show ((Kd.slice 37 k37)).sz = 1 from rfl, Nat.mul_one] at hv489_0
            replace hv489_0 := Option.some.inj (hv489_0.symm.trans hx489_0)
            rw [hv489_0] at ge489_0
            have HL489_0 := Aside0.mk (show Kd.R k37 37 _ _ _ _ (rd_L15 t459 t478) from ge489_0)
            clear hv489_0 ge489_0
            clear hcc489 hce489
            have HR489_0 := Aside0.mk hi489_0
            have HC489_0 := Aside0.mk hl489_0
            clear hi489_0 hl489_0
            replace p489 := eq_true p489
            replace q489 := eq_true q489
            refine start_ (n := 13) (S := fun w' => w'.cell? ⟨gb466, 0, none⟩ = some (.slice (some ad467) t459.length co17) ∧ w'.cell? ⟨gb466, 1, none⟩ = some (.slice Ao20 t462.length co20) ∧ w'.cell? (ad467.add (t478).toNat) = some (.slice A489_0 (rd_L15 t459 t478).length c489_0)) (ds := []) #[false, false, false, false, false, false, false, false, false, false, false, false, false] (by kernel_rfl) rfl rfl ⟨(blk_cell BK466.out 0).trans rfl, (blk_cell BK466.out 1).trans rfl, hx489_0⟩ (fun hHeld => ?_); refine with_tabW syntagmlaw14_StatesSteps.tab18 syntagmlaw14_StatesSteps.bits18 (fun HT_ HW_ => ?_)
            generalize w73.drew = w76 at HO_467000 HO_467001 HL467_0 HO470 HL471_0 HO474 HO477 HO481 HO484 BK456 BK466 HR467_0 HR471_0 HB HL489_0 HR489_0 hx489_0 hHeld ⊢
            refine pure_ (i := 0) (N := some 80) (v := ?_) (a' := ?_) #[true, false, false, false, false, false, false, false, false, false, false, false, false] rfl rfl (any_of HT_.out (by kernel_rfl)) (fun _ _ _ h => h) (Or.inl ⟨by rfl, ?_⟩) ?_ ?_
            rotate_left
            ·intro w'
             go_simp
             with_reducible rfl
            rotate_left
            ·simp only [Act.put, List.setIfInBounds_toArray, List.set_cons_zero, List.set_cons_succ, i64_w, i32_w]
             rfl
            refine pure_ (i := 1) (N := some 81) (v := ?_) (a' := ?_) #[true, true, false, false, false, false, false, false, false, false, false, false, false] rfl rfl (any_of HT_.out (by kernel_rfl)) (fun _ _ _ h => h) (Or.inl ⟨by rfl, ?_⟩) ?_ ?_
            rotate_left
            ·intro w'
             go_simp
             with_reducible rfl
            rotate_left
            ·simp only [Act.put, List.setIfInBounds_toArray, List.set_cons_zero, List.set_cons_succ, i64_w, i32_w]
             rfl
            refine pure_ (i := 2) (N := some 82) (v := ?_) (a' := ?_) #[true, true, true, false, false, false, false, false, false, false, false, false, false] rfl rfl (any_of HT_.out (by kernel_rfl)) (fun _ _ _ h => h) (Or.inl ⟨by rfl, ?_⟩) ?_ ?_
            rotate_left
            ·intro w'
             go_simp
             with_reducible rfl
            rotate_left
            ·simp only [Act.put, List.setIfInBounds_toArray, List.set_cons_zero, List.set_cons_succ, i64_w, i32_w]
             rfl
            refine pure_ (i := 4) (N := some 84) (v := ?_) (a' := ?_) #[true, true, true, false, true, false, false, false, false, false, false, false, false] rfl rfl (any_of HT_.out (by kernel_rfl)) (fun _ _ _ h => h) (Or.inl ⟨by rfl, ?_⟩) ?_ ?_
            rotate_left
            ·intro w'
             go_simp
             with_reducible rfl
            rotate_left
            ·simp only [Act.put, List.setIfInBounds_toArray, List.set_cons_zero, List.set_cons_succ, i64_w, i32_w]
             rfl
            refine pure_ (i := 6) (N := some 86) (v := ?_) (a' := ?_) #[true, true, true, false, true, false, true, false, false, false, false, false, false] rfl rfl (any_of HT_.out (by kernel_rfl)) (fun _ _ _ h => h) (Or.inl ⟨by rfl, ?_⟩) ?_ ?_
            rotate_left
            ·intro w'
             go_simp
             with_reducible rfl
            rotate_left
            ·simp only [Act.put, List.setIfInBounds_toArray, List.set_cons_zero, List.set_cons_succ, i64_w, i32_w]
             rfl
            refine take_ (i := 5) (N := some 85) (v := ?_) (a' := ?_) #[true, true, true, false, true, true, true, false, false, false, false, false, false] rfl rfl (take_ofW HT_.out HW_.out (by kernel_rfl)) (fun _ _ _ h => h) (Or.inl ⟨by rfl, ?_⟩) hHeld ?_ ?_
            rotate_left
            ·rintro w' ⟨s0, s1, s2⟩
             go_simp
             with_reducible rfl
            rotate_left
            ·simp only [Act.put, List.setIfInBounds_toArray, List.set_cons_zero, List.set_cons_succ, i64_w, i32_w]
             rfl
            refine pure_ (i := 7) (N := some 87) (v := ?_) (a' := ?_) #[true, true, true, false, true, true, true, true, false, false, false, false, false] rfl rfl (any_of HT_.out (by kernel_rfl)) (fun _ _ _ h => h) (Or.inl ⟨by rfl, ?_⟩) ?_ ?_
            rotate_left
            ·intro w'
             go_simp
             with_reducible rfl
            rotate_left
            ·simp only [Act.put, List.setIfInBounds_toArray, List.set_cons_zero, List.set_cons_succ, i64_w, i32_w]
             rfl
            refine take_ (i := 8) (N := some 88) (v := ?_) (a' := ?_) #[true, true, true, false, true, true, true, true, true, false, false, false, false] rfl rfl (take_ofW HT_.out HW_.out (by kernel_rfl)) (fun _ _ _ h => h) (Or.inl ⟨by rfl, ?_⟩) hHeld ?_ ?_
            rotate_left
            ·rintro w' ⟨s0, s1, s2⟩
             go_simp
             with_reducible rfl
            rotate_left
            ·simp only [Act.put, List.setIfInBounds_toArray, List.set_cons_zero, List.set_cons_succ, i64_w, i32_w]
             rfl
            refine one_ (i := 3) (N := some 83) #[true, true, true, true, true, true, true, true, true, false, false, false, false] rfl rfl (one_of HT_.out (by kernel_rfl)) (by decide) (fun K hK => ?_)
            refine goes_ Tryd.func14 (by kernel_rfl) rfl #[.slice Ao70 t472.length co70] (by rfl) rfl rfl (by (try simp only [List.map_toArray, List.map_cons, List.map_nil]); first | done | rfl | (simp only [List.length_drop, List.length_take]; rfl)) ?_
            with_reducible refine (syntagmlaw14_Row.calls kj8 _ _ t472 t486 _ ?side1 ?side2 A54.out).mono ?_
            (case side1 => repeat (first | exact (Kd.R_reads' HO474.out).2.2 | (with_reducible refine Kd.C_alloc ?_ _) | (with_reducible refine Kd.C_drewN ?_ _) | (with_reducible refine Kd.C_drew ?_)))
            (case side2 => exact (Kd.R_reads' HO474.out).2.1)
            rintro e w77 ⟨v487, rfl, ho0, hb⟩
            have HS2_ := (hb.cell (World.block_lt_of_cell? _ _ (hHeld.2.2))).trans (hHeld.2.2)
            refine ⟨_, rfl, ?_⟩
            have n0_ := Aside0.mk (Kd.S_below (by (with_reducible repeat (first | apply Kd.S_alloc | apply Kd.S_drewN | apply Kd.S_drew)); exact HO_467000.out) hb)
            have n1_ := Aside0.mk (Kd.S_below (by (with_reducible repeat (first | apply Kd.S_alloc | apply Kd.S_drewN | apply Kd.S_drew)); exact HO_467001.out) hb)
            have n2_ := Aside0.mk (Kd.R_below (by (with_reducible repeat (first | apply Kd.R_alloc | apply Kd.R_drewN | apply Kd.R_drew)); exact HL467_0.out) hb)
            have n3_ := Aside0.mk (Kd.R_below (by (with_reducible repeat (first | apply Kd.R_alloc | apply Kd.R_drewN | apply Kd.R_drew)); exact HO470.out) hb)
            have n4_ := Aside0.mk (Kd.R_below (by (with_reducible repeat (first | apply Kd.R_alloc | apply Kd.R_drewN | apply Kd.R_drew)); exact HL471_0.out) hb)
            have n5_ := Aside0.mk (Kd.R_below (by (with_reducible repeat (first | apply Kd.R_alloc | apply Kd.R_drewN | apply Kd.R_drew)); exact HO474.out) hb)
            have n6_ := Aside0.mk (Kd.R_below (by (with_reducible repeat (first | apply Kd.R_alloc | apply Kd.R_drewN | apply Kd.R_drew)); exact HO477.out) hb)
            have n7_ := Aside0.mk (Kd.R_elder' (by (with_reducible repeat (first | apply Kd.R_alloc | apply Kd.R_drewN | apply Kd.R_drew)); exact HO481.out) (Kd.R_base ho0) hb)
            have n8_ := Aside0.mk (Kd.R_elder' (by (with_reducible repeat (first | apply Kd.R_alloc | apply Kd.R_drewN | apply Kd.R_drew)); exact HO484.out) (Kd.R_base ho0) hb)
            have n9_ := Aside0.mk (Kd.R_below (by (with_reducible repeat (first | apply Kd.R_alloc | apply Kd.R_drewN | apply Kd.R_drew)); exact HL489_0.out) hb)
            have n10_ := Aside0.mk (Kd.R_lower (Kd.R_new' (Kd.R_new' ho0 (Kd.R_lt (by (with_reducible repeat (first | apply Kd.R_alloc | apply Kd.R_drewN | apply Kd.R_drew)); exact HO481.out))) (Kd.R_lt (by (with_reducible repeat (first | apply Kd.R_alloc | apply Kd.R_drewN | apply Kd.R_drew)); exact HO484.out))) (below_size (by repeat (first | (with_reducible first | exact HB.out | apply below_alloc | apply pw_below_drewN | apply below_drew1 | refine below_set ?_ GE456.out | refine below_set ?_ GE466.out) | exact HB.out))))
            have n11_ := Aside0.mk (blk_below (g := gb456) (o := .cells #[.slice A0_0 l0_0.length c0_0, .slice A0_1 l0_1.length c0_1, .slice A0_2 l0_2.length c0_2, .slice A0_3 l0_3.length c0_3, .int .i64 a0_4] 27 (0, 0)) (by (with_reducible repeat (first | refine blk_drewN ?_ _ | refine blk_drew ?_ | refine blk_alloc ?_ _)); exact BK456.out) hb)
            have n12_ := Aside0.mk (blk_below (g := gb466) (o := .cells #[.slice (some ad467) t459.length co17, .slice Ao20 t462.length co20] 49 (0, 0)) (by (with_reducible repeat (first | refine blk_drewN ?_ _ | refine blk_drew ?_ | refine blk_alloc ?_ _)); exact BK466.out) hb)
            have n13_ := Aside0.mk (Kd.C_below (by repeat (first | (with_reducible exact HR467_0.out) | (with_reducible refine Kd.C_alloc ?_ _) | (with_reducible refine Kd.C_drewN ?_ _) | (with_reducible refine Kd.C_drew ?_) | exact HR467_0.out)) hb)
            have n14_ := Aside0.mk (Kd.C_below (by repeat (first | (with_reducible exact HR471_0.out) | (with_reducible refine Kd.C_alloc ?_ _) | (with_reducible refine Kd.C_drewN ?_ _) | (with_reducible refine Kd.C_drew ?_) | exact HR471_0.out)) hb)
            have n15_ := Aside0.mk (Kd.C_below (by repeat (first | (with_reducible exact HR489_0.out) | (with_reducible refine Kd.C_alloc ?_ _) | (with_reducible refine Kd.C_drewN ?_ _) | (with_reducible refine Kd.C_drew ?_) | exact HR489_0.out)) hb)
            have n16_ := Aside0.mk (below_step (by repeat (first | (with_reducible first | exact HB.out | apply below_alloc | apply pw_below_drewN | apply below_drew1 | refine below_set ?_ GE456.out | refine below_set ?_ GE466.out) | exact HB.out)) hb)
            clear HO_467000
            clear HO_467001
            clear HL467_0
            clear HO470
            clear HL471_0
            clear HO474
            clear HO477
            clear HO481
            clear HO484
            clear HL489_0
            clear BK456
            clear BK466
            clear HR467_0
            clear HR471_0
            clear HR489_0
            clear HB
            have HO_467000 := n0_
            have HO_467001 := n1_
            have HL467_0 := n2_
            have HO470 := n3_
            have HL471_0 := n4_
            have HO474 := n5_
            have HO477 := n6_
            have HO481 := n7_
            have HO484 := n8_
            have HL489_0 := n9_
            have HO488 := n10_
            have BK456 := n11_
            have BK466 := n12_
            have HR467_0 := n13_
            have HR471_0 := n14_
            have HR489_0 := n15_
            have HB := n16_
            clear n0_ n1_ n2_ n3_ n4_ n5_ n6_ n7_ n8_ n9_ n10_ n11_ n12_ n13_ n14_ n15_ n16_
            (try clear hb)
            (try clear hb2)
            (try clear hk)
            (try clear hi)
            (try clear ho0)
            refine hK.out _ _ ⟨(blk_cell BK466.out 0).trans rfl, (blk_cell BK466.out 1).trans rfl, HS2_⟩ (fun hHeld => ?_)
            clear hK K
            refine norm_ (a' := ?_) ?_ ?_
            rotate_left
            ·show Act.put _ (some 83) _ = _
             simp only [Act.put, List.setIfInBounds_toArray, List.set_cons_zero, List.set_cons_succ, i64_w, i32_w]
             rfl
            refine one_ (i := 9) (N := some 89) #[true, true, true, true, true, true, true, true, true, true, false, false, false] rfl rfl (one_of HT_.out (by kernel_rfl)) (by decide) (fun K hK => ?_)
            refine goes_ Tryd.func14 (by kernel_rfl) rfl #[.slice A489_0 (rd_L15 t459 t478).length c489_0] (by rfl) rfl rfl (by (try simp only [List.map_toArray, List.map_cons, List.map_nil]); first | done | rfl | (simp only [List.length_drop, List.length_take]; rfl)) ?_
            with_reducible refine (syntagmlaw14_Row.calls kj8 _ _ (rd_L15 t459 t478) t490 _ ?side1 ?side2 A57.out).mono ?_
            (case side1 => repeat (first | exact (by repeat (first | (with_reducible exact HR489_0.out) | (with_reducible refine Kd.C_alloc ?_ _) | (with_reducible refine Kd.C_drewN ?_ _) | (with_reducible refine Kd.C_drew ?_) | exact HR489_0.out)) | (with_reducible refine Kd.C_alloc ?_ _) | (with_reducible refine Kd.C_drewN ?_ _) | (with_reducible refine Kd.C_drew ?_)))
            (case side2 => exact HC489_0.out)
            rintro e w78 ⟨v491, rfl, ho0, hb⟩
            have HS2_ := (hb.cell (World.block_lt_of_cell? _ _ (hHeld.2.2))).trans (hHeld.2.2)
            refine ⟨_, rfl, ?_⟩
            have n0_ := Aside0.mk (Kd.S_below (by (with_reducible repeat (first | apply Kd.S_alloc | apply Kd.S_drewN | apply Kd.S_drew)); exact HO_467000.out) hb)
            have n1_ := Aside0.mk (Kd.S_below (by (with_reducible repeat (first | apply Kd.S_alloc | apply Kd.S_drewN | apply Kd.S_drew)); exact HO_467001.out) hb)
            have n2_ := Aside0.mk (Kd.R_below (by (with_reducible repeat (first | apply Kd.R_alloc | apply Kd.R_drewN | apply Kd.R_drew)); exact HL467_0.out) hb)
            have n3_ := Aside0.mk (Kd.R_below (by (with_reducible repeat (first | apply Kd.R_alloc | apply Kd.R_drewN | apply Kd.R_drew)); exact HO470.out) hb)
            have n4_ := Aside0.mk (Kd.R_below (by (with_reducible repeat (first | apply Kd.R_alloc | apply Kd.R_drewN | apply Kd.R_drew)); exact HL471_0.out) hb)
            have n5_ := Aside0.mk (Kd.R_below (by (with_reducible repeat (first | apply Kd.R_alloc | apply Kd.R_drewN | apply Kd.R_drew)); exact HO474.out) hb)
            have n6_ := Aside0.mk (Kd.R_below (by (with_reducible repeat (first | apply Kd.R_alloc | apply Kd.R_drewN | apply Kd.R_drew)); exact HO477.out) hb)
            have n7_ := Aside0.mk (Kd.R_elder' (by (with_reducible repeat (first | apply Kd.R_alloc | apply Kd.R_drewN | apply Kd.R_drew)); exact HO481.out) (Kd.R_base ho0) hb)
            have n8_ := Aside0.mk (Kd.R_elder' (by (with_reducible repeat (first | apply Kd.R_alloc | apply Kd.R_drewN | apply Kd.R_drew)); exact HO484.out) (Kd.R_base ho0) hb)
            have n9_ := Aside0.mk (Kd.R_below (by (with_reducible repeat (first | apply Kd.R_alloc | apply Kd.R_drewN | apply Kd.R_drew)); exact HL489_0.out) hb)
            have n10_ := Aside0.mk (Kd.R_elder' (by (with_reducible repeat (first | apply Kd.R_alloc | apply Kd.R_drewN | apply Kd.R_drew)); exact HO488.out) (Kd.R_base ho0) hb)
            have n11_ := Aside0.mk (Kd.R_lower (Kd.R_new' (Kd.R_new' (Kd.R_new' ho0 (Kd.R_lt (by (with_reducible repeat (first | apply Kd.R_alloc | apply Kd.R_drewN | apply Kd.R_drew)); exact HO481.out))) (Kd.R_lt (by (with_reducible repeat (first | apply Kd.R_alloc | apply Kd.R_drewN | apply Kd.R_drew)); exact HO484.out))) (Kd.R_lt (by (with_reducible repeat (first | apply Kd.R_alloc | apply Kd.R_drewN | apply Kd.R_drew)); exact HO488.out))) (below_size (by repeat (first | (with_reducible first | exact HB.out | apply below_alloc | apply pw_below_drewN | apply below_drew1 | refine below_set ?_ GE456.out | refine below_set ?_ GE466.out) | exact HB.out))))
            have n12_ := Aside0.mk (blk_below (g := gb456) (o := .cells #[.slice A0_0 l0_0.length c0_0, .slice A0_1 l0_1.length c0_1, .slice A0_2 l0_2.length c0_2, .slice A0_3 l0_3.length c0_3, .int .i64 a0_4] 27 (0, 0)) (by (with_reducible repeat (first | refine blk_drewN ?_ _ | refine blk_drew ?_ | refine blk_alloc ?_ _)); exact BK456.out) hb)
            have n13_ := Aside0.mk (blk_below (g := gb466) (o := .cells #[.slice (some ad467) t459.length co17, .slice Ao20 t462.length co20] 49 (0, 0)) (by (with_reducible repeat (first | refine blk_drewN ?_ _ | refine blk_drew ?_ | refine blk_alloc ?_ _)); exact BK466.out) hb)
            have n14_ := Aside0.mk (Kd.C_below (by repeat (first | (with_reducible exact HR467_0.out) | (with_reducible refine Kd.C_alloc ?_ _) | (with_reducible refine Kd.C_drewN ?_ _) | (with_reducible refine Kd.C_drew ?_) | exact HR467_0.out)) hb)
            have n15_ := Aside0.mk (Kd.C_below (by repeat (first | (with_reducible exact HR471_0.out) | (with_reducible refine Kd.C_alloc ?_ _) | (with_reducible refine Kd.C_drewN ?_ _) | (with_reducible refine Kd.C_drew ?_) | exact HR471_0.out)) hb)
            have n16_ := Aside0.mk (Kd.C_below (by repeat (first | (with_reducible exact HR489_0.out) | (with_reducible refine Kd.C_alloc ?_ _) | (with_reducible refine Kd.C_drewN ?_ _) | (with_reducible refine Kd.C_drew ?_) | exact HR489_0.out)) hb)
            have n17_ := Aside0.mk (below_step (by repeat (first | (with_reducible first | exact HB.out | apply below_alloc | apply pw_below_drewN | apply below_drew1 | refine below_set ?_ GE456.out | refine below_set ?_ GE466.out) | exact HB.out)) hb)
            clear HO_467000
            clear HO_467001
            clear HL467_0
            clear HO470
            clear HL471_0
            clear HO474
            clear HO477
            clear HO481
            clear HO484
            clear HL489_0
            clear HO488
            clear BK456
            clear BK466
            clear HR467_0
            clear HR471_0
            clear HR489_0
            clear HB
            have HO_467000 := n0_
            have HO_467001 := n1_
            have HL467_0 := n2_
            have HO470 := n3_
            have HL471_0 := n4_
            have HO474 := n5_
            have HO477 := n6_
            have HO481 := n7_
            have HO484 := n8_
            have HL489_0 := n9_
            have HO488 := n10_
            have HO492 := n11_
            have BK456 := n12_
            have BK466 := n13_
            have HR467_0 := n14_
            have HR471_0 := n15_
            have HR489_0 := n16_
            have HB := n17_
            clear n0_ n1_ n2_ n3_ n4_ n5_ n6_ n7_ n8_ n9_ n10_ n11_ n12_ n13_ n14_ n15_ n16_ n17_
            (try clear hb)
            (try clear hb2)
            (try clear hk)
            (try clear hi)
            (try clear ho0)
            obtain ⟨Ao79, co79, eo79⟩ := Kd.R_slice HO488.out
            (first | subst eo79 | (injection eo79 with f1_ f2_ f3_; have f4_ := f1_.symm; have f5_ := f3_.symm; clear f1_ f2_ f3_; subst f4_; subst f5_))
            obtain ⟨Ao80, co80, eo80⟩ := Kd.R_slice HO492.out
            (first | subst eo80 | (injection eo80 with f1_ f2_ f3_; have f4_ := f1_.symm; have f5_ := f3_.symm; clear f1_ f2_ f3_; subst f4_; subst f5_))
            refine hK.out _ _ ⟨(blk_cell BK466.out 0).trans rfl, (blk_cell BK466.out 1).trans rfl, HS2_⟩ (fun hHeld => ?_)
            clear hK K
            refine norm_ (a' := ?_) ?_ ?_
            rotate_left
            ·show Act.put _ (some 89) _ = _
             simp only [Act.put, List.setIfInBounds_toArray, List.set_cons_zero, List.set_cons_succ, i64_w, i32_w]
             rfl
            refine one_ (i := 10) (N := some 90) #[true, true, true, true, true, true, true, true, true, true, true, false, false] rfl rfl (one_of HT_.out (by kernel_rfl)) (by decide) (fun K hK => ?_)
            refine goes_ Tryd.func17 (by kernel_rfl) rfl #[.slice Ao79 t486.length co79, .slice Ao80 t490.length co80] (by rfl) rfl rfl (by (try simp only [List.map_toArray, List.map_cons, List.map_nil]); first | done | rfl | (simp only [List.length_drop, List.length_take]; rfl)) ?_
            with_reducible refine (syntagmref14_Row.calls kj8 _ _ t486 _ _ t490 t493 _ ?side1 ?side2 ?side3 ?side4 A58.out).mono ?_
            (case side1 => repeat (first | exact (Kd.R_reads' HO488.out).2.2 | (with_reducible refine Kd.C_alloc ?_ _) | (with_reducible refine Kd.C_drewN ?_ _) | (with_reducible refine Kd.C_drew ?_)))
            (case side2 => exact (Kd.R_reads' HO488.out).2.1)
            (case side3 => repeat (first | exact (Kd.R_reads' HO492.out).2.2 | (with_reducible refine Kd.C_alloc ?_ _) | (with_reducible refine Kd.C_drewN ?_ _) | (with_reducible refine Kd.C_drew ?_)))
            (case side4 => exact (Kd.R_reads' HO492.out).2.1)
            rintro e w' ⟨rfl, ⟨nd, rfl⟩⟩
            refine ⟨_, rfl, ?_⟩
            refine hK.out _ _ ⟨(blk_cell BK466.out 0).trans rfl, (blk_cell BK466.out 1).trans rfl, hHeld.2.2⟩ (fun hHeld => ?_)
            clear hK K
            refine norm_ (a' := ?_) ?_ ?_
            rotate_left
            ·show Act.put _ (some 90) _ = _
             simp only [Act.put, List.setIfInBounds_toArray, List.set_cons_zero, List.set_cons_succ, i64_w, i32_w]
             rfl
            refine pure_ (i := 11) (N := some 91) (v := ?_) (a' := ?_) #[true, true, true, true, true, true, true, true, true, true, true, true, false] rfl rfl (any_of HT_.out (by kernel_rfl)) (fun _ _ _ h => h) (Or.inl ⟨by rfl, ?_⟩) ?_ ?_
            rotate_left
            ·intro w'
             go_simp
             with_reducible rfl
            rotate_left
            ·simp only [Act.put, List.setIfInBounds_toArray, List.set_cons_zero, List.set_cons_succ, i64_w, i32_w]
             rfl
            refine pure_ (i := 12) (N := some 6) (v := ?_) (a' := ?_) #[true, true, true, true, true, true, true, true, true, true, true, true, true] rfl rfl (any_of HT_.out (by kernel_rfl)) (fun _ _ _ h => h) (Or.inl ⟨by rfl, ?_⟩) ?_ ?_
            rotate_left
            ·intro w'
             go_simp
             with_reducible rfl
            rotate_left
            ·simp only [Act.put, List.setIfInBounds_toArray, List.set_cons_zero, List.set_cons_succ, i64_w, i32_w]
             rfl
            refine done_ (done_of HT_.out (by kernel_rfl)) ?_
            try go_wp2
            go_ret
            exact ⟨by first | rfl | (simp [errW_none, errW_some] <;> rfl) | (simp [*, errW_none, errW_some] <;> rfl), by repeat (first | (with_reducible first | exact HB.out | apply below_alloc | apply pw_below_drewN | apply below_drew1 | refine below_set ?_ GE456.out | refine below_set ?_ GE466.out) | exact HB.out)⟩
           ·rw [if_neg c56] at H
            exact absurd H (by simp)
          ·rw [if_neg c55] at H
           exact absurd H (by simp)
        ·replace c35 := Bool.eq_false_iff.mpr c35
         subst c35
         have H1 : (some false) = some r := by rw [if_neg (show ¬ (false = true) by decide)] at H; exact H
         clear H
         have H := H1
         clear H1
         exact absurd ((Option.some.inj H).trans HT.out) (by decide)
       ·rw [if_neg c27] at H
        exact absurd H (by simp)
      ·rw [if_neg c26] at H
       exact absurd H (by simp)
  ·replace c7 := Bool.eq_false_iff.mpr c7
   subst c7
   have H1 : (some true) = some r := by rw [if_neg (show ¬ (false = true) by decide)] at H; exact H
   clear H
   have H := H1
   clear H1
   obtain rfl := Option.some.inj H
   go_enter Tryd.func7, Tryd.ntmps7
   go_wp2_with (first | ((with_reducible refine gate_dst (N := 3) rfl ?_); (try (refine gate_guard (by rfl) ?_; dsimp only)); refine box_event ?hg (N := 3) ?hd (cs := #[.slice A0_0 l0_0.length c0_0, .slice A0_1 l0_1.length c0_1, .slice A0_2 l0_2.length c0_2, .slice A0_3 l0_3.length c0_3, .int .i64 a0_4]) (t := 27) ?hr ?_; (case hd => rfl); (case hg => rfl); (case hr => first | (go_simp; done) | (go_simp; rfl)); intro gb456 hg w81 hbox hb; have n0_ := Aside0.mk (below_step (by repeat (first | (with_reducible first | exact HB.out | apply below_alloc | apply pw_below_drewN | apply below_drew1) | exact HB.out)) hb); have n1_ := Aside0.mk (hbox); have n2_ := Aside0.mk ((by rw [hg]; exact (below_size (by repeat (first | (with_reducible first | exact HB.out | apply below_alloc | apply pw_below_drewN | apply below_drew1) | exact HB.out))) : w.heap.size ≤ gb456)); have n3_ := Aside0.mk ((by rw [hg]; exact (below_size (by repeat (first | (with_reducible first | exact HB.out | apply below_alloc | apply pw_below_drewN | apply below_drew1) | exact HB.out))) : w.heap.size ≤ gb456)); clear HB; have HB := n0_; have BK456 := n1_; have GW456 := n2_; have GE456 := n3_; clear n0_ n1_ n2_ n3_; clear hb hbox hg) | ((with_reducible refine gate_callee (f := 12) rfl ?_); refine goesL_ (some 15) rfl rfl Tryd.func12 (by kernel_rfl) rfl #[] rfl (by (try simp only [List.map_toArray, List.map_cons, List.map_nil]); first | done | rfl | (simp only [List.length_drop, List.length_take]; rfl)) ?_; (with_reducible refine (syntagmlaw14_works.calls  true _ ?side1 ?side2 A4.out).mono ?_); (case side1 => exact GTab.below HG.out (by repeat (first | (with_reducible first | exact HB.out | apply below_alloc | apply pw_below_drewN | apply below_drew1 | refine below_set ?_ GE456.out) | exact HB.out))); (case side2 => rfl); rintro e w82 ⟨rfl, hb⟩; refine ⟨_, rfl, ?_⟩; have n0_ := Aside0.mk (blk_below (g := gb456) (o := .cells #[.slice A0_0 l0_0.length c0_0, .slice A0_1 l0_1.length c0_1, .slice A0_2 l0_2.length c0_2, .slice A0_3 l0_3.length c0_3, .int .i64 a0_4] 27 (0, 0)) (by (with_reducible repeat (first | refine blk_drewN ?_ _ | refine blk_drew ?_ | refine blk_alloc ?_ _)); exact BK456.out) hb); have n1_ := Aside0.mk (below_step (by repeat (first | (with_reducible first | exact HB.out | apply below_alloc | apply pw_below_drewN | apply below_drew1 | refine below_set ?_ GE456.out) | exact HB.out)) hb); clear BK456; clear HB; have BK456 := n0_; have HB := n1_; clear n0_ n1_; (try clear hb); (try clear hb2); (try clear hk); (try clear hi); have hcz83_0 : w82.cell? ⟨gb456, 0, none⟩ = some (.slice A0_0 l0_0.length c0_0) := (blk_cell BK456.out 0).trans rfl; have hcz83_1 : w82.cell? ⟨gb456, 1, none⟩ = some (.slice A0_1 l0_1.length c0_1) := (blk_cell BK456.out 1).trans rfl; have hcz83_2 : w82.cell? ⟨gb456, 2, none⟩ = some (.slice A0_2 l0_2.length c0_2) := (blk_cell BK456.out 2).trans rfl; have hcz83_3 : w82.cell? ⟨gb456, 3, none⟩ = some (.slice A0_3 l0_3.length c0_3) := (blk_cell BK456.out 3).trans rfl; have hcz83_4 : w82.cell? ⟨gb456, 4, none⟩ = some (.int .i64 a0_4) := (blk_cell BK456.out 4).trans rfl; have hfz83_0 := blk_frozen BK456.out 0; have hfz83_1 := blk_frozen BK456.out 1; have hfz83_2 := blk_frozen BK456.out 2; have hfz83_3 := blk_frozen BK456.out 3; have hfz83_4 := blk_frozen BK456.out 4) | ((with_reducible refine gate_callee (f := 22) rfl ?_); refine goesL_ (some 19) rfl rfl Tryd.func22 (by kernel_rfl) rfl #[.agg #[.slice A0_0 l0_0.length c0_0, .slice A0_1 l0_1.length c0_1, .slice A0_2 l0_2.length c0_2, .slice A0_3 l0_3.length c0_3, .int .i64 a0_4]] rfl (by (try simp only [List.map_toArray, List.map_cons, List.map_nil]); first | done | rfl | (simp only [List.length_drop, List.length_take]; rfl)) ?_; (with_reducible refine (syntagmlaw14_Little.calls k _ _ l0_0 _ _ l0_1 _ _ l0_2 _ _ l0_3 a0_4 false _ ?side1 ?side2 ?side3 ?side4 ?side5 ?side6 ?side7 ?side8 A6.out).mono ?_); (case side1 => repeat (first | exact (Kd.C_below HR0_0.out HB.out) | (with_reducible refine Kd.C_alloc ?_ _) | (with_reducible refine Kd.C_drewN ?_ _) | (with_reducible refine Kd.C_drew ?_))); (case side2 => exact HC0_0.out); (case side3 => repeat (first | exact (Kd.C_below HR0_1.out HB.out) | (with_reducible refine Kd.C_alloc ?_ _) | (with_reducible refine Kd.C_drewN ?_ _) | (with_reducible refine Kd.C_drew ?_))); (case side4 => exact HC0_1.out); (case side5 => repeat (first | exact (Kd.C_below HR0_2.out HB.out) | (with_reducible refine Kd.C_alloc ?_ _) | (with_reducible refine Kd.C_drewN ?_ _) | (with_reducible refine Kd.C_drew ?_))); (case side6 => exact HC0_2.out); (case side7 => repeat (first | exact (Kd.C_below HR0_3.out HB.out) | (with_reducible refine Kd.C_alloc ?_ _) | (with_reducible refine Kd.C_drewN ?_ _) | (with_reducible refine Kd.C_drew ?_))); (case side8 => exact HC0_3.out); rintro e w84 ⟨rfl, hb⟩; refine ⟨_, rfl, ?_⟩; have n0_ := Aside0.mk (blk_below (g := gb456) (o := .cells #[.slice A0_0 l0_0.length c0_0, .slice A0_1 l0_1.length c0_1, .slice A0_2 l0_2.length c0_2, .slice A0_3 l0_3.length c0_3, .int .i64 a0_4] 27 (0, 0)) (by (with_reducible repeat (first | refine blk_drewN ?_ _ | refine blk_drew ?_ | refine blk_alloc ?_ _)); exact BK456.out) hb); have n1_ := Aside0.mk (below_step (by repeat (first | (with_reducible first | exact HB.out | apply below_alloc | apply pw_below_drewN | apply below_drew1 | refine below_set ?_ GE456.out) | exact HB.out)) hb); clear BK456; clear HB; have BK456 := n0_; have HB := n1_; clear n0_ n1_; (try clear hb); (try clear hb2); (try clear hk); (try clear hi)))
   go_ret
   exact ⟨by first | rfl | (simp [errW_none, errW_some] <;> rfl) | (simp [*, errW_none, errW_some] <;> rfl), by repeat (first | (with_reducible first | exact HB.out | apply below_alloc | apply pw_below_drewN | apply below_drew1 | refine below_set ?_ GE456.out) | exact HB.out)⟩
 ·replace c5 := Bool.eq_false_iff.mpr c5
  subst c5
  have H1 : (some false) = some r := by rw [if_neg (show ¬ (false = true) by decide)] at H; exact H
  clear H
  have H := H1
  clear H1
  exact absurd ((Option.some.inj H).trans HT.out) (by decide)

end Go.Proofs.YtclollnicbcooaaDoor.P
end

section
set_option linter.unusedVariables false
set_option linter.unusedSimpArgs false
namespace Go.Proofs.YtclollnicbcooaaDoor.Open
open Go Go.RowKit Go.ChangeShapes Go.WideShapes Go.Deep Go.Proofs.YtclollnicbcooaaDoorW.PrintWords

/-- What reads as data of type t is told by the kind d; 'wf': what is known of its numbers and texts. -/
structure Opens (P : Program) (t : TypeId) {α : Type} (d : Kd α) (wf : α → Prop) : Prop where
 sz : P.cellsOf t = d.sz
 down : ∀ {H : Type} {enc : TypeId × Value → H} {w : World} {base : Nat} {spare : Nat → Bool} {held : Bool} {fuel : Nat} {cs : List Value} {x : DataW H × List MemPlace},
  DataW.trod enc P w base spare held fuel t cs = some x → ∃ a : α, d.K w a cs ∧ wf a

variable {P : Program} {t e : TypeId} {α β : Type}

theorem opens_int {k : IntKind} (hc : P.cellsOf t = 1) (ht : P.underlying t = some (.int k)) : Opens P t (Kd.int k) (fun n => (Lit.int k n).wf = true) :=
 ⟨hc, fun h => by
  obtain ⟨n, rfl, _, hw⟩ := DataW.trod_int ht h
  exact ⟨n, rfl, hw⟩⟩
theorem opens_bool (hc : P.cellsOf t = 1) (ht : P.underlying t = some .bool) : Opens P t Kd.bool (fun _ => True) :=
 ⟨hc, fun h => by
  obtain ⟨b, rfl, _⟩ := DataW.trod_bool ht h
  exact ⟨b, rfl, trivial⟩⟩
theorem opens_string (hc : P.cellsOf t = 1) (ht : P.underlying t = some .string) : Opens P t Kd.string (fun s => s.size ≤ maxLen) :=
 ⟨hc, fun h => by
  obtain ⟨s, rfl, _, hs⟩ := DataW.trod_string ht h
  exact ⟨s, rfl, hs⟩⟩

theorem cells_at {w : World} {base n : Nat} {a : Addr} {cs : List Value} (h : w.cells? base a n = some cs) : cs.length = n ∧ ∀ i u, cs[i]? = some u → w.cell? (a.add i) = some u := by
 unfold World.cells? at h
 split at h
 ·have hl := mapM_some_length h
  rw [List.length_range] at hl
  refine ⟨hl, fun i u hu => ?_⟩
  have hi : i < n := by rw [← hl]; exact (List.getElem?_eq_some_iff.1 hu).1
  have := mapM_some_get h i i (by simp [hi])
  rw [this, hu]
 ·cases h

/-- A slice's elements, by the element's law. -/
theorem opens_slice {d : Kd α} {wf : α → Prop} (hc : P.cellsOf t = 1) (ht : P.underlying t = some (.slice e)) (he : Opens P e d wf) : Opens P t (Kd.slice e d) (fun xs => xs.length ≤ 9223372036854775807 ∧ ∀ x ∈ xs, wf x) :=
 ⟨hc, fun {H enc w base spare held fuel cs x} h => by
  rcases open_slice ht h with ⟨rfl, _⟩ | ⟨a, len, cap, m, n, D, Pl, rfl, hb, hl, hm, hmd, _, hel⟩
  ·exact ⟨[], ⟨none, 0, rfl, Nat.le_refl _, rfl, Nat.zero_le _, fun h => absurd h (Nat.lt_irrefl 0)⟩, Nat.zero_le _, fun x hx => by cases hx⟩
  ·have hlm : len ≤ m := by rw [hmd]; split <;> omega
   have hex : ∀ i, i < len → ∃ y : α, ∃ cs', w.cells? base (a.add (i * P.cellsOf e)) (P.cellsOf e) = some cs' ∧ d.K w y cs' ∧ wf y := fun i hi => by
    obtain ⟨cs', h1, h2⟩ := hel i (by omega)
    obtain ⟨y, hk, hw⟩ := he.down h2
    exact ⟨y, cs', h1, hk, hw⟩
   obtain ⟨f, hf⟩ : ∃ f : (i : Nat) → i < len → α, ∀ i hi, ∃ cs', w.cells? base (a.add (i * P.cellsOf e)) (P.cellsOf e) = some cs' ∧ d.K w (f i hi) cs' ∧ wf (f i hi) :=
    ⟨fun i hi => Classical.choose (hex i hi), fun i hi => Classical.choose_spec (hex i hi)⟩
   let xs : List α := List.ofFn (fun i : Fin len => f i.1 i.2)
   have hxl : xs.length = len := by simp [xs]
   refine ⟨xs, ⟨some a, cap, by rw [hxl], by rw [hxl]; exact hl, rfl, by rw [hxl]; unfold maxLen at hm; omega, fun _ => ⟨a, rfl, fun j p hj => ?_⟩⟩, by rw [hxl]; unfold maxLen at hm; omega, fun x hx => ?_⟩
   ·have hjl : j < len := by rw [← hxl]; exact (List.getElem?_eq_some_iff.1 hj).1
    obtain ⟨cs', h1, h2, _⟩ := hf j hjl
    have hp : p = f j hjl := by
     have := (List.getElem?_eq_some_iff.1 hj).2
     rw [← this]
     simp [xs]
    subst hp
    refine ⟨cs', d.K_len h2, h2, fun i u hu => ?_⟩
    have h3 := (cells_at h1).2 i u hu
    rw [Deep.add_add, he.sz] at h3
    exact h3
   ·obtain ⟨i, rfl⟩ := (List.mem_ofFn).1 hx
    exact (hf i.1 i.2).elim fun _ h => h.2.2⟩

/-- A struct's fields from one on. -/
structure OpensFs (P : Program) (fs : List Field) (off : Nat) {α : Type} (d : Kd α) (wf : α → Prop) : Prop where
 down : ∀ {H : Type} {enc : TypeId × Value → H} {w : World} {base : Nat} {spare : Nat → Bool} {held : Bool} {n : Nat} {cs : List Value}, cs.length = off + d.sz →
  (∀ f ∈ fs, ∃ y : DataW H × List MemPlace, DataW.trod enc P w base spare held n f.type ((cs.drop f.offset).take (P.cellsOf f.type)) = some y) → ∃ a : α, d.K w a (cs.drop off) ∧ wf a

theorem fields_one {f : Field} {off : Nat} {d : Kd α} {wf : α → Prop} (ho : f.offset = off) (hf : Opens P f.type d wf) : OpensFs P [f] off d wf :=
 ⟨fun {H enc w base spare held n cs} hl h => by
  obtain ⟨y, hy⟩ := h f (List.mem_singleton.2 rfl)
  rw [ho, hf.sz, List.take_of_length_le (by rw [List.length_drop]; omega)] at hy
  exact hf.down hy⟩
theorem fields_cons {f : Field} {fs : List Field} {off : Nat} {d : Kd α} {d' : Kd β} {wf : α → Prop} {wf' : β → Prop} (ho : f.offset = off) (hf : Opens P f.type d wf) (hr : OpensFs P fs (off + d.sz) d' wf') :
  OpensFs P (f :: fs) off (Kd.pair d d') (fun x => wf x.1 ∧ wf' x.2) :=
 ⟨fun {H enc w base spare held n cs} hl h => by
  have hl' : cs.length = off + (d.sz + d'.sz) := hl
  obtain ⟨y, hy⟩ := h f List.mem_cons_self
  rw [ho, hf.sz] at hy
  obtain ⟨a, ka, wa⟩ := hf.down hy
  obtain ⟨b, kb, wb⟩ := hr.down (by omega) (fun g hg => h g (List.mem_cons_of_mem _ hg))
  refine ⟨(a, b), ⟨_, _, ?_, ka, kb⟩, wa, wb⟩
  rw [← List.drop_drop, List.take_append_drop]⟩

theorem opens_struct {fs : Array Field} {d : Kd α} {wf : α → Prop} {f : β → α} (g : α → β) (hfg : ∀ a, f (g a) = a) (hc : P.cellsOf t = d.sz) (ht : P.underlying t = some (.struct fs)) (hf : OpensFs P fs.toList 0 d wf) :
  Opens P t (Kd.iso d f) (fun b => wf (f b)) :=
 ⟨hc, fun h => by
  obtain ⟨xs, n, rfl, _, hl, hx, hel⟩ := DataW.trod_struct ht h
  obtain ⟨a, ka, wa⟩ := hf.down (by rw [hl, hc]; simp) (fun q hq => by
   obtain ⟨i, hi, rfl⟩ := List.getElem_of_mem hq
   have h1 := hel i (fs.toList[i]) (by simp)
   have hi2 : i < xs.length := by rw [hx]; simpa using hi
   exact ⟨xs[i], by rw [h1]; exact List.getElem?_eq_getElem hi2⟩)
  exact ⟨g a, by show d.K _ (f (g a)) _; rw [hfg]; simpa using ka, by rw [hfg]; exact wa⟩⟩

/-- An array of two. -/
theorem opens_two {d : Kd α} {wf : α → Prop} {f : β → α × α} (g : α × α → β) (hfg : ∀ a, f (g a) = a) (hc : P.cellsOf t = d.sz + d.sz) (ht : P.underlying t = some (.array 2 e)) (he : Opens P e d wf) :
  Opens P t (Kd.iso (Kd.pair d d) f) (fun b => wf (f b).1 ∧ wf (f b).2) :=
 ⟨hc, fun {H enc w base spare held fuel cs x} h => by
  obtain ⟨xs, n, rfl, _, hl, hx, hel⟩ := DataW.trod_array ht h
  have h0 := hel 0 (by omega)
  have h1 := hel 1 (by omega)
  rw [List.getElem?_eq_getElem (by omega)] at h0 h1
  rw [he.sz] at h0 h1
  rw [Nat.zero_mul, List.drop_zero] at h0
  rw [Nat.one_mul, List.take_of_length_le (by rw [List.length_drop]; omega)] at h1
  obtain ⟨a, ka, wa⟩ := he.down h0
  obtain ⟨b, kb, wb⟩ := he.down h1
  refine ⟨g (a, b), ?_, by rw [hfg]; exact ⟨wa, wb⟩⟩
  show (Kd.pair d d).K w (f (g (a, b))) cs
  rw [hfg]
  exact ⟨_, _, (List.take_append_drop _ _).symm, ka, kb⟩⟩

/-- A value of more cells than one is written out. -/
theorem agg_of {v : Value} {cs : List Value} (h : v.cells.toList = cs) (hl : cs.length ≠ 1) : v = .agg cs.toArray := by
 subst h
 cases v <;> first | rfl | exact absurd rfl hl

end Go.Proofs.YtclollnicbcooaaDoor.Open
end

section
set_option linter.unusedVariables false
namespace Go.Proofs.YtclollnicbcooaaDoor.P
open Go.RowKit Go.Proofs.YtclollnicbcooaaDoor.Open Go.Proofs.YtclollnicbcooaaDoorW.PrintWords
def wf82 (x : S82) : Prop := (x.f0.size ≤ maxLen) ∧ ((x.f1.size ≤ maxLen) ∧ ((True) ∧ (((Lit.int .i64 x.f3).wf = true))))
theorem opens82 : Opens Tryd.prog 82 k82 wf82 := opens_struct (fun a => ⟨a.1, a.2.1, a.2.2.1, a.2.2.2⟩) (fun _ => rfl) (by kernel_rfl) Tryd.underlying82 (fields_cons rfl (opens_string (by kernel_rfl) Tryd.underlying9) (fields_cons rfl (opens_string (by kernel_rfl) Tryd.underlying9) (fields_cons rfl (opens_bool (by kernel_rfl) Tryd.underlying4) (fields_one rfl (opens_int (by kernel_rfl) Tryd.underlying3)))))
def wf101 (x : S101) : Prop := ((Lit.int .i64 x.f0).wf = true) ∧ (((Lit.int .i64 x.f1).wf = true))
theorem opens101 : Opens Tryd.prog 101 k101 wf101 := opens_two (fun a => ⟨a.1, a.2⟩) (fun _ => rfl) (by kernel_rfl) Tryd.underlying101 (opens_int (by kernel_rfl) Tryd.underlying3)
def wf64 (x : S64) : Prop := (x.f0.size ≤ maxLen) ∧ (((Lit.int .i64 x.f1).wf = true) ∧ ((x.f2.length ≤ 9223372036854775807 ∧ ∀ y ∈ x.f2, (Lit.int .i64 y).wf = true) ∧ (((Lit.int .i64 x.f3).wf = true))))
theorem opens64 : Opens Tryd.prog 64 k64 wf64 := opens_struct (fun a => ⟨a.1, a.2.1, a.2.2.1, a.2.2.2⟩) (fun _ => rfl) (by kernel_rfl) Tryd.underlying64 (fields_cons rfl (opens_string (by kernel_rfl) Tryd.underlying9) (fields_cons rfl (opens_int (by kernel_rfl) Tryd.underlying3) (fields_cons rfl (opens_slice (by kernel_rfl) Tryd.underlying62 (opens_int (by kernel_rfl) Tryd.underlying29)) (fields_one rfl (opens_int (by kernel_rfl) Tryd.underlying3)))))
def wf27 (x : S27) : Prop := (x.f0.length ≤ 9223372036854775807 ∧ ∀ y ∈ x.f0, wf82 y) ∧ ((x.f1.length ≤ 9223372036854775807 ∧ ∀ y ∈ x.f1, wf101 y) ∧ ((x.f2.length ≤ 9223372036854775807 ∧ ∀ y ∈ x.f2, y.size ≤ maxLen) ∧ ((x.f3.length ≤ 9223372036854775807 ∧ ∀ y ∈ x.f3, wf64 y) ∧ (((Lit.int .i64 x.f4).wf = true)))))
theorem opens27 : Opens Tryd.prog 27 k27 wf27 := opens_struct (fun a => ⟨a.1, a.2.1, a.2.2.1, a.2.2.2.1, a.2.2.2.2⟩) (fun _ => rfl) (by kernel_rfl) Tryd.underlying27 (fields_cons rfl (opens_slice (by kernel_rfl) Tryd.underlying22 opens82) (fields_cons rfl (opens_slice (by kernel_rfl) Tryd.underlying23 opens101) (fields_cons rfl (opens_slice (by kernel_rfl) Tryd.underlying24 (opens_string (by kernel_rfl) Tryd.underlying9)) (fields_cons rfl (opens_slice (by kernel_rfl) Tryd.underlying25 opens64) (fields_one rfl (opens_int (by kernel_rfl) Tryd.underlying3))))))
def wf37 (x : S37) : Prop := ((Lit.int .i64 x.f0).wf = true) ∧ (((Lit.int .i64 x.f1).wf = true))
end Go.Proofs.YtclollnicbcooaaDoor.P
end

section
set_option linter.unusedVariables false
set_option linter.unusedSimpArgs false
namespace Go.Proofs.YtclollnicbcooaaDoor.P
open Go.Proofs.YtclollnicbcooaaDoor.Base Go.RowKit Go.Proofs.YtclollnicbcooaaDoorW.PrintWords Go.Proofs.YtclollnicbcooaaDoorW.PrintLast Go.Proofs.YtclollnicbcooaaDoorW.PrintMore

def bad5 (l0 : List S82) (l2 : List ByteArray) (l3 : List S64) (st : Int) : Bool := decide (60 < l0.length) || decide (60 < l2.length) || decide (120 < l3.length) || decide (st < 0) || decide ((l2.length : Int) ≤ st)
section
variable {l0 : List S82} {l1 : List S101} {l2 : List ByteArray} {l3 : List S64} {st : Int}
theorem RisesTo.down {f : Int → ByteArray} {k n : Nat} (h : RisesTo f k) (hn : n ≤ k) : RisesTo f n := fun i h0 hi => h i h0 (by omega)
end
/-- As a printed function: the answer of symbols within what numbers there are. -/
def syntagmref12_Valid.f (l0 : List S82) (l1 : List S101) (l2 : List ByteArray) (l3 : List S64) (st : Int) : Option Bool :=
 if ∀ p ∈ l3, ∀ s ∈ p.f2, -9223372036854775808 ≤ s ∧ s ≤ 9223372036854775807 then some (validB l0 l1 l2 l3 st) else none
end Go.Proofs.YtclollnicbcooaaDoor.P
end

section
namespace Go.Proofs.YtclollnicbcooaaDoor.P
open Go.RowKit Go.Proofs.YtclollnicbcooaaDoorW.PrintWords Go.Proofs.YtclollnicbcooaaDoorW.PrintLast Go.Proofs.YtclollnicbcooaaDoorW.PrintMore
attribute [local go_sem] max2_int min2_int max_two min_two max_three min_three max_four min_four   -- for this text's walks alone
set_option linter.unusedVariables false
set_option linter.unusedSimpArgs false

/-! ### syntagmref14_Is: function 36 -/
def syntagmref14_Is.f (l0_0 : List (S82)) (l0_1 : List (S101)) (l0_2 : List ByteArray) (l0_3 : List (S64)) (a0_4 : Int) (a1_0 : Int) (a1_1 : Int) : Option (Bool) := (syntagmref12_Valid.f l0_0 l0_1 l0_2 l0_3 a0_4).bind fun t220 => (if t220 = true then (if a1_0 ≥ (-1) then (if a1_0 < (l0_3.length : Int) then (if a1_1 ≥ 0 then ((syntagmref14_Right.f l0_0 l0_1 l0_2 l0_3 a0_4 a1_0).bind fun t221 => (some (decide (a1_1 ≤ (t221.length : Int))))) else (some false)) else (some false)) else (some false)) else (some false))
def syntagmref14_Is.T2 : Bool × List (List Nat × List Nat) := (true, [([], []), ([0], [0]), ([1], [1]), ([2, 1], [1, 2]), ([3, 1], [1, 3]), ([1, 4], [1, 4]), ([5, 1], [5]), ([6], [6]), ([7, 6], [6, 7]), ([6], [6]), ([9, 6], [6, 9]), ([10, 6], [6, 10]), ([8, 11, 6], [6, 8, 11]), ([6, 12], [6, 12]), ([13, 6], [13]), ([14], [14]), ([15, 14], [14, 15]), ([16, 14], [14, 16]), ([14, 17], [14, 17]), ([18, 14], [18]), ([19], [19]), ([20, 19], [19, 20]), ([19], [19]), ([19], [19]), ([23, 19], [19, 23]), ([22, 24, 19, 19], [19, 22, 24]), ([25, 19], [19, 25]), ([21, 26, 19], [19, 21, 26]), ([19, 27], [19, 27]), ([28, 25, 0, 1, 2, 3, 4, 5, 6, 7, 8, 9, 10, 11, 12, 13, 14, 15, 16, 17, 18, 19, 20, 21, 22, 23, 24, 25, 26, 27, 28], [28])])
def syntagmref14_Is.B2 : List Nat := [0, 1, 3, 7, 15, 31, 63, 127, 255, 127, 639, 1663, 4095, 8191, 16383, 32767, 65535, 131071, 262143, 524287, 1048575, 2097151, 1048575, 1048575, 9437183, 30408703, 63963135, 134217727, 268435455, 536870911]
end Go.Proofs.YtclollnicbcooaaDoor.P
end

section
namespace Go.Proofs.YtclollnicbcooaaDoor.P
open Go.RowKit Go.Proofs.YtclollnicbcooaaDoorW.PrintWords Go.Proofs.YtclollnicbcooaaDoorW.PrintLast Go.Proofs.YtclollnicbcooaaDoorW.PrintMore
attribute [local go_sem] max2_int min2_int max_two min_two max_three min_three max_four min_four   -- for this text's walks alone
set_option linter.unusedVariables false
set_option linter.unusedSimpArgs false

/-! ### syntagmref14_Behind: function 16 -/
def syntagmref14_Behind.f (l0_0 : List (S82)) (l0_1 : List (S101)) (l0_2 : List ByteArray) (l0_3 : List (S64)) (a0_4 : Int) (a1_0 : Int) (a1_1 : Int) : Option (Int × Bool) := (syntagmref14_Is.f l0_0 l0_1 l0_2 l0_3 a0_4 a1_0 a1_1).bind fun t226 => (if t226 = true then ((syntagmref14_Right.f l0_0 l0_1 l0_2 l0_3 a0_4 a1_0).bind fun t227 => (if a1_1 ≥ (t227.length : Int) then (some (0, false)) else ((syntagmref14_Right.f l0_0 l0_1 l0_2 l0_3 a0_4 a1_0).bind fun t230 => (if 0 ≤ a1_1 then (if a1_1 < (t230.length : Int) then (some (rd t230 a1_1, true)) else (none)) else (none))))) else (some (0, false)))
def syntagmref14_Behind.T1 : Bool × List (List Nat × List Nat) := (true, [([], []), ([], []), ([0, 1], [0, 1]), ([2], [2]), ([3, 2], [3]), ([4], [4]), ([5, 4], [4, 5]), ([4], [4]), ([4], [4]), ([8, 4], [4, 8]), ([7, 9, 4, 4], [4, 7, 9]), ([10, 4], [4, 10]), ([6, 11, 4], [4, 6, 11]), ([4, 12], [4, 12])])
def syntagmref14_Behind.B1 : List Nat := [0, 0, 3, 7, 15, 31, 63, 31, 31, 287, 927, 1951, 4095, 8191]
def syntagmref14_Behind.T3 : Bool × List (List Nat × List Nat) := (true, [([], []), ([], []), ([1], [1]), ([0, 2], [0, 2]), ([], []), ([4], [4]), ([3, 5], [3, 5]), ([6], [6]), ([7, 3, 0, 1, 2, 3, 4, 5, 6, 7], [7]), ([8, 0, 1, 2, 3, 4, 5, 6, 7, 8], [])])
def syntagmref14_Behind.B3 : List Nat := [0, 0, 2, 7, 0, 16, 63, 127, 255, 511]
end Go.Proofs.YtclollnicbcooaaDoor.P
end

section
namespace Go.Proofs.YtclollnicbcooaaDoor.P
open Go.RowKit Go.Proofs.YtclollnicbcooaaDoorW.PrintWords Go.Proofs.YtclollnicbcooaaDoorW.PrintLast Go.Proofs.YtclollnicbcooaaDoorW.PrintMore
attribute [local go_sem] max2_int min2_int max_two min_two max_three min_three max_four min_four   -- for this text's walks alone
set_option linter.unusedVariables false
set_option linter.unusedSimpArgs false

/-! ### syntagmref14_rising: function 40 -/
mutual
def syntagmref14_rising.l0 : Nat → List (S39) → List (S39) → Int → Option ((List (S39)))
 | 0, _, _, _ => none
 | k + 1, x0, x3, x4 => if x4 < (x0.length : Int) then (syntagmref14_rising.l1 k x0 x3 x4 (-1) 0) else (some x3)
def syntagmref14_rising.l1 : Nat → List (S39) → List (S39) → Int → Int → Int → Option ((List (S39)))
 | 0, _, _, _, _, _ => none
 | k + 1, x0, x3, x4, x5, x6 => if x6 < (x0.length : Int) then (if 0 ≤ x6 then ((syntagmref14_has.f k x3 ((rd_T39 x0 x6).f0) ((rd_T39 x0 x6).f1)).bind fun t245 => (if t245 = true then (syntagmref14_rising.l1 k x0 x3 x4 x5 (wrap64 (x6 + 1))) else (if x5 < 0 then (syntagmref14_rising.l1 k x0 x3 x4 x6 (wrap64 (x6 + 1))) else (if 0 ≤ x5 then (if x5 < (x0.length : Int) then ((syntagmref14_less.f ((rd_T39 x0 x6).f0) ((rd_T39 x0 x6).f1) ((rd_T39 x0 x5).f0) ((rd_T39 x0 x5).f1)).bind fun t248 => (if t248 = true then (syntagmref14_rising.l1 k x0 x3 x4 x6 (wrap64 (x6 + 1))) else (syntagmref14_rising.l1 k x0 x3 x4 x5 (wrap64 (x6 + 1))))) else (none)) else (none))))) else (none)) else (if x5 ≥ 0 then (if 0 ≤ x5 then (if x5 < (x0.length : Int) then (if x3.length < 8796093022208 then (syntagmref14_rising.l0 k x0 (x3 ++ [(⟨(rd_T39 x0 x5).f0, (rd_T39 x0 x5).f1⟩ : S39)]) (wrap64 (x4 + 1))) else (none)) else (none)) else (none)) else (syntagmref14_rising.l0 k x0 x3 (wrap64 (x4 + 1))))
end
def syntagmref14_rising.f (k : Nat) (l0 : List (S39)) : Option ((List (S39))) := syntagmref14_rising.l0 k l0 ([] : List (S39)) 0
def syntagmref14_rising.T9 : Bool × List (List Nat × List Nat) := (true, [([], []), ([], []), ([], []), ([1, 2], [1, 2]), ([3], [3]), ([0, 4], [0, 4]), ([5], [5]), ([6, 5], [6]), ([7], [7]), ([8, 7], [7, 8]), ([9, 7, 7], [7, 9]), ([10], [10]), ([10], [10]), ([11, 12, 10], [10, 11, 12]), ([13, 10], [10, 13]), ([10], [10]), ([10], [10]), ([15, 16, 10], [10, 15, 16]), ([17, 10], [10, 17]), ([14, 18, 10, 10], [10, 14, 18]), ([10, 19, 7], [7, 10, 19]), ([7, 20], [7, 20])])
def syntagmref14_rising.B9 : List Nat := [0, 0, 0, 6, 14, 31, 63, 127, 255, 511, 1023, 2047, 2047, 8191, 16383, 2047, 2047, 100351, 231423, 524287, 1048575, 2097151]
end Go.Proofs.YtclollnicbcooaaDoor.P
end

section
namespace Go.Proofs.YtclollnicbcooaaDoor.P
open Go.RowKit Go.Proofs.YtclollnicbcooaaDoorW.PrintWords Go.Proofs.YtclollnicbcooaaDoorW.PrintLast Go.Proofs.YtclollnicbcooaaDoorW.PrintMore
attribute [local go_sem] max2_int min2_int max_two min_two max_three min_three max_four min_four   -- for this text's walks alone
set_option linter.unusedVariables false
set_option linter.unusedSimpArgs false

/-! ### syntagmref14_Close: function 19 -/
mutual
def syntagmref14_Close.l0 : Nat → List (S39) → List (S39) → Int → List (S82) → List (S101) → List ByteArray → List (S64) → Int → Option ((List (S39)))
 | 0, _, _, _, _, _, _, _, _ => none
 | k + 1, x1, x5, x6, x250000, x250001, x250002, x250003, x250004 => if x6 < (x1.length : Int) then (if 0 ≤ x6 then ((syntagmref14_Is.f x250000 x250001 x250002 x250003 x250004 ((rd_T39 x1 x6).f0) ((rd_T39 x1 x6).f1)).bind fun t251 => (if t251 = true then ((syntagmref14_has.f k x5 ((rd_T39 x1 x6).f0) ((rd_T39 x1 x6).f1)).bind fun t253 => (if t253 = true then (syntagmref14_Close.l0 k x1 x5 (wrap64 (x6 + 1)) x250000 x250001 x250002 x250003 x250004) else (if x5.length < 8796093022208 then (syntagmref14_Close.l0 k x1 (x5 ++ [(⟨(rd_T39 x1 x6).f0, (rd_T39 x1 x6).f1⟩ : S39)]) (wrap64 (x6 + 1)) x250000 x250001 x250002 x250003 x250004) else (none)))) else (syntagmref14_Close.l0 k x1 x5 (wrap64 (x6 + 1)) x250000 x250001 x250002 x250003 x250004))) else (none)) else (syntagmref14_Close.l1 k x5 0 x250000 x250001 x250002 x250003 x250004)
def syntagmref14_Close.l1 : Nat → List (S39) → Int → List (S82) → List (S101) → List ByteArray → List (S64) → Int → Option ((List (S39)))
 | 0, _, _, _, _, _, _, _ => none
 | k + 1, x5, x7, x250000, x250001, x250002, x250003, x250004 => if x7 < (x5.length : Int) then (if 0 ≤ x7 then ((syntagmref14_Behind.f x250000 x250001 x250002 x250003 x250004 ((rd_T39 x5 x7).f0) ((rd_T39 x5 x7).f1)).bind fun bt262 => (syntagmref14_Close.l2 k x5 x7 bt262.1 bt262.2 0 x250000 x250001 x250002 x250003 x250004)) else (none)) else ((syntagmref14_rising.f k x5).bind fun t258 => (some t258))
def syntagmref14_Close.l2 : Nat → List (S39) → Int → Int → Bool → Int → List (S82) → List (S101) → List ByteArray → List (S64) → Int → Option ((List (S39)))
 | 0, _, _, _, _, _, _, _, _, _, _ => none
 | k + 1, x5, x7, x8, x9, x10, x250000, x250001, x250002, x250003, x250004 => if x10 < (x250003.length : Int) then (if x9 = true then (syntagmref14_Close.j3 k x5 x7 x8 x9 x10 (decide (x8 < 0)) x250000 x250001 x250002 x250003 x250004) else (syntagmref14_Close.j3 k x5 x7 x8 x9 x10 false x250000 x250001 x250002 x250003 x250004)) else (syntagmref14_Close.j3 k x5 x7 x8 x9 x10 false x250000 x250001 x250002 x250003 x250004)
def syntagmref14_Close.j3 : Nat → List (S39) → Int → Int → Bool → Int → Bool → List (S82) → List (S101) → List ByteArray → List (S64) → Int → Option ((List (S39)))
 | 0, _, _, _, _, _, _, _, _, _, _, _ => none
 | k + 1, x5, x7, x8, x9, x10, x66, x250000, x250001, x250002, x250003, x250004 => if x66 = true then (if 0 ≤ x10 then (if x10 < (x250003.length : Int) then (if ((rd_T64 x250003 x10).f1) = (wrap64 ((-1) - x8)) then ((syntagmref14_has.f k x5 x10 0).bind fun t266 => (if t266 = true then (syntagmref14_Close.l2 k x5 x7 x8 x9 (wrap64 (x10 + 1)) x250000 x250001 x250002 x250003 x250004) else (if x5.length < 8796093022208 then (syntagmref14_Close.l2 k (x5 ++ [(⟨x10, 0⟩ : S39)]) x7 x8 x9 (wrap64 (x10 + 1)) x250000 x250001 x250002 x250003 x250004) else (none)))) else (syntagmref14_Close.l2 k x5 x7 x8 x9 (wrap64 (x10 + 1)) x250000 x250001 x250002 x250003 x250004)) else (none)) else (none)) else (syntagmref14_Close.l1 k x5 (wrap64 (x7 + 1)) x250000 x250001 x250002 x250003 x250004)
end
def syntagmref14_Close.f (k : Nat) (l0_0 : List (S82)) (l0_1 : List (S101)) (l0_2 : List ByteArray) (l0_3 : List (S64)) (a0_4 : Int) (l1 : List (S39)) : Option ((List (S39))) := syntagmref14_Close.l0 k l1 ([] : List (S39)) 0 l0_0 l0_1 l0_2 l0_3 a0_4
def syntagmref14_Close.T5 : Bool × List (List Nat × List Nat) := (true, [([], []), ([], []), ([], []), ([1, 2], [1, 2]), ([3], [3]), ([0, 4], [0, 4]), ([5, 5], [5]), ([6], [6]), ([6], [6]), ([6], [6]), ([8, 9, 6], [6, 8, 9]), ([10, 6], [6, 10]), ([7, 11, 6, 6], [6, 7, 11]), ([12, 6], [6, 12]), ([6, 13], [6, 13])])
def syntagmref14_Close.B5 : List Nat := [0, 0, 0, 6, 14, 31, 63, 127, 127, 127, 895, 1919, 4095, 8191, 16383]
def syntagmref14_Close.T10 : Bool × List (List Nat × List Nat) := (true, [([], []), ([], []), ([], []), ([1, 2], [1, 2]), ([3], [3]), ([0, 4], [0, 4]), ([5], [5]), ([6], [6]), ([6], [6]), ([7, 5, 0, 1, 2, 3, 4, 5, 6, 7], [7]), ([8, 9, 0, 1, 2, 3, 4, 5, 6, 7, 8, 9], [8])])
def syntagmref14_Close.B10 : List Nat := [0, 0, 0, 6, 14, 31, 63, 127, 127, 255, 1023]
end Go.Proofs.YtclollnicbcooaaDoor.P
end

section
namespace Go.Proofs.YtclollnicbcooaaDoor.P
open Go.RowKit Go.Proofs.YtclollnicbcooaaDoorW.PrintWords Go.Proofs.YtclollnicbcooaaDoorW.PrintLast Go.Proofs.YtclollnicbcooaaDoorW.PrintMore
attribute [local go_sem] max2_int min2_int max_two min_two max_three min_three max_four min_four   -- for this text's walks alone
set_option linter.unusedVariables false
set_option linter.unusedSimpArgs false

/-! ### syntagmref14_Step: function 21 -/
def syntagmref14_Step.l0 : Nat → Int → List (S39) → List (S39) → Int → List (S82) → List (S101) → List ByteArray → List (S64) → Int → Option ((List (S39)))
 | 0, _, _, _, _, _, _, _, _, _ => none
 | k + 1, x2, x7, x8, x9, x271000, x271001, x271002, x271003, x271004 => if x9 < (x8.length : Int) then (if 0 ≤ x9 then ((syntagmref14_Behind.f x271000 x271001 x271002 x271003 x271004 ((rd_T39 x8 x9).f0) ((rd_T39 x8 x9).f1)).bind fun bt275 => (if bt275.2 = true then (if bt275.1 = x2 then (if x7.length < 8796093022208 then (syntagmref14_Step.l0 k x2 (x7 ++ [(⟨(rd_T39 x8 x9).f0, wrap64 (((rd_T39 x8 x9).f1) + 1)⟩ : S39)]) x8 (wrap64 (x9 + 1)) x271000 x271001 x271002 x271003 x271004) else (none)) else (syntagmref14_Step.l0 k x2 x7 x8 (wrap64 (x9 + 1)) x271000 x271001 x271002 x271003 x271004)) else (syntagmref14_Step.l0 k x2 x7 x8 (wrap64 (x9 + 1)) x271000 x271001 x271002 x271003 x271004))) else (none)) else ((syntagmref14_rising.f k x7).bind fun t282 => (some t282))
def syntagmref14_Step.f (k : Nat) (l0_0 : List (S82)) (l0_1 : List (S101)) (l0_2 : List ByteArray) (l0_3 : List (S64)) (a0_4 : Int) (l1 : List (S39)) (a2 : Int) : Option ((List (S39))) := (syntagmref14_Close.f k l0_0 l0_1 l0_2 l0_3 a0_4 l1).bind fun t271 => (syntagmref14_Step.l0 k a2 ([] : List (S39)) t271 0 l0_0 l0_1 l0_2 l0_3 a0_4)
def syntagmref14_Step.T6 : Bool × List (List Nat × List Nat) := (true, [([], []), ([], []), ([], []), ([1, 2], [1, 2]), ([3], [3]), ([0, 4], [0, 4]), ([5], [5]), ([6], [6]), ([6], [6]), ([7, 5, 0, 1, 2, 3, 4, 5, 6, 7], [7]), ([8, 9, 0, 1, 2, 3, 4, 5, 6, 7, 8, 9], [8])])
def syntagmref14_Step.B6 : List Nat := [0, 0, 0, 6, 14, 31, 63, 127, 127, 255, 1023]
def syntagmref14_Step.T8 : Bool × List (List Nat × List Nat) := (true, [([], []), ([], []), ([], []), ([1, 2], [1, 2]), ([3], [3]), ([4], [4]), ([], []), ([], []), ([6, 7], [6, 7]), ([8], [8]), ([9], [9]), ([10], [10]), ([5, 11], [5, 11]), ([12], [12]), ([0, 13], [0, 13]), ([14, 14, 0, 1, 2, 3, 4, 5, 6, 7, 8, 9, 10, 11, 12, 13, 14], [0, 14])])
def syntagmref14_Step.B8 : List Nat := [0, 0, 0, 6, 14, 30, 0, 0, 192, 448, 960, 1984, 4094, 8190, 16383, 32767]
end Go.Proofs.YtclollnicbcooaaDoor.P
end

section
set_option linter.unusedVariables false
set_option linter.unusedSimpArgs false
set_option linter.unusedSectionVars false
namespace Go.Proofs.YtclollnicbcooaaDoor.P
open Go.RowKit Go.Proofs.YtclollnicbcooaaDoorW.PrintWords Go.Proofs.YtclollnicbcooaaDoorW.PrintLast Go.Proofs.YtclollnicbcooaaDoorW.PrintMore St

def toJ (x : S39) : Itm := (x.f0, x.f1)
def ofJ (x : Itm) : S39 := ⟨x.1, x.2⟩
theorem toJ_ofJ (x : Itm) : toJ (ofJ x) = x := rfl
theorem map_toJ_ofJ (l : List Itm) : (l.map ofJ).map toJ = l := by
 rw [List.map_map]
 exact (List.map_congr_left (fun x _ => toJ_ofJ x)).trans (List.map_id l)
theorem rd39 (l : List S39) (i : Nat) (h : i < l.length) : rd_T39 l (i : Int) = l[i] := by
 unfold rd_T39
 rw [Int.toNat_natCast, List.getD_eq_getElem?_getD, List.getElem?_eq_getElem h]
 rfl
theorem wrap_up (i : Nat) (h : i < 9223372036854775807) : wrap64 ((i : Int) + 1) = ((i + 1 : Nat) : Int) := by unfold wrap64; omega

def AtR (l : List S39) (a : Int) (r : Option Itm) : Prop := (a = -1 ∧ r = none) ∨ ∃ (j : Nat) (h : j < l.length), a = (j : Int) ∧ r = some (toJ l[j])
section
variable {l0 : List S82} {l1 : List S101} {l2 : List ByteArray} {l3 : List S64} {st : Int} (h : Fits l2 l3 st) (hv : validB l0 l1 l2 l3 st = true) (hr : ∀ p ∈ l3, ∀ s ∈ p.f2, -9223372036854775808 ≤ s ∧ s ≤ 9223372036854775807)
include h hv hr
end
end Go.Proofs.YtclollnicbcooaaDoor.P
end

section
set_option linter.unusedVariables false
set_option linter.unusedSimpArgs false
set_option linter.unusedSectionVars false
namespace Go.Proofs.YtclollnicbcooaaDoor.P
open Go.RowKit Go.Proofs.YtclollnicbcooaaDoorW.PrintWords Go.Proofs.YtclollnicbcooaaDoorW.PrintLast Go.Proofs.YtclollnicbcooaaDoorW.PrintMore St

theorem rd37 (l : List S37) (i : Nat) (h : i < l.length) : rd_T37 l (i : Int) = l[i] := by
 unfold rd_T37
 rw [Int.toNat_natCast, List.getD_eq_getElem?_getD, List.getElem?_eq_getElem h]
 rfl
theorem lawrow_l0 (l : List S37) (hl : l.length ≤ 4000000000000) : ∀ (m i : Nat) (out : List S39), i + m = l.length → out.length = i → Ev (fun k => syntagmlaw14_Row.l0 k l out i) (out ++ ((l.drop i).map toI).map ofJ)
 | 0, i, out, hi, ho => by
  refine Ev.step (f := fun _ => some out) (fun k => ?_) ?_
  ·rw [syntagmlaw14_Row.l0, if_neg (by omega)]
  ·rw [List.drop_eq_nil_of_le (by omega), List.map_nil, List.map_nil, List.append_nil]
   exact Ev.now _
 | m + 1, i, out, hi, ho => by
  have hlt : i < l.length := by omega
  have ih := lawrow_l0 l hl m (i + 1) (out ++ [(⟨l[i].f0, l[i].f1⟩ : S39)]) (by omega) (by rw [List.length_append, List.length_singleton]; omega)
  rw [List.append_assoc] at ih
  rw [List.drop_eq_getElem_cons hlt]
  refine Ev.step (fun k => ?_) ih
  rw [syntagmlaw14_Row.l0, if_pos (by omega), if_pos (by omega), if_pos (by omega), rd37 l i hlt, wrap_up i (by omega)]
theorem lawrow_ev (l : List S37) (hl : l.length ≤ 4000000000000) : Ev (fun k => syntagmlaw14_Row.f k l) ((l.map toI).map ofJ) := by
 have := lawrow_l0 l hl l.length 0 [] (by omega) rfl
 rw [List.nil_append, List.drop_zero] at this
 exact this
theorem refrow_l0 (a b : List S39) (hl : a.length = b.length) (hs : a.length ≤ 4000000000000) : ∀ (m i : Nat), i + m = a.length → Ev (fun k => syntagmref14_Row.l0 k a b i) (decide ((a.drop i).map toJ = (b.drop i).map toJ))
 | 0, i, hi => by
  refine Ev.step (f := fun _ => some true) (fun k => ?_) ?_
  ·rw [syntagmref14_Row.l0, if_neg (by omega)]
  ·rw [List.drop_eq_nil_of_le (by omega), List.drop_eq_nil_of_le (by omega)]
   exact Ev.now _
 | m + 1, i, hi => by
  have hla : i < a.length := by omega
  have hlb : i < b.length := by omega
  have ih := refrow_l0 a b hl hs m (i + 1) (by omega)
  rw [List.drop_eq_getElem_cons hla, List.drop_eq_getElem_cons hlb, List.map_cons, List.map_cons]
  by_cases he : toJ a[i] = toJ b[i]
  ·have e : decide (toJ a[i] :: (a.drop (i + 1)).map toJ = toJ b[i] :: (b.drop (i + 1)).map toJ) = decide ((a.drop (i + 1)).map toJ = (b.drop (i + 1)).map toJ) := by
    rw [decide_eq_decide, List.cons.injEq]
    exact ⟨fun h => h.2, fun h => ⟨he, h⟩⟩
   rw [e]
   have h0 : a[i].f0 = b[i].f0 := congrArg Prod.fst he
   have h1 : a[i].f1 = b[i].f1 := congrArg Prod.snd he
   refine Ev.step (fun k => ?_) ih
   rw [syntagmref14_Row.l0, if_pos (by omega), if_pos (by omega), if_pos (by omega), rd39 a i hla, rd39 b i hlb, h0, h1, if_neg (by simp), wrap_up i (by omega)]
  ·rw [decide_eq_false (fun h => he (List.cons.inj h).1)]
   refine Ev.step (f := fun _ => some false) (fun k => ?_) (Ev.now _)
   rw [syntagmref14_Row.l0, if_pos (by omega), if_pos (by omega), if_pos (by omega), rd39 a i hla, rd39 b i hlb, if_pos]
   rw [Bool.or_eq_true, Bool.not_eq_true', Bool.not_eq_true', beq_eq_false_iff_ne, beq_eq_false_iff_ne]
   by_cases h0 : a[i].f0 = b[i].f0
   ·exact .inr fun h1 => he (Prod.ext h0 h1)
   ·exact .inl h0
theorem refrow_ev (a b : List Itm) (hs : a.length ≤ 4000000000000) : Ev (fun k => syntagmref14_Row.f k (a.map ofJ) (b.map ofJ)) (decide (a = b)) := by
 by_cases hl : a.length = b.length
 ·have hz := refrow_l0 (a.map ofJ) (b.map ofJ) (by rw [List.length_map, List.length_map]; exact hl) (by rw [List.length_map]; exact hs) (a.map ofJ).length 0 (by omega)
  rw [List.drop_zero, List.drop_zero, map_toJ_ofJ, map_toJ_ofJ] at hz
  refine Ev.congr (fun k => ?_) hz
  unfold syntagmref14_Row.f
  rw [if_pos (by rw [List.length_map, List.length_map, hl])]
  rfl
 ·rw [decide_eq_false (fun h => hl (congrArg List.length h))]
  refine Ev.congr (f := fun _ => some false) (fun k => ?_) (Ev.now _)
  unfold syntagmref14_Row.f
  rw [if_neg (by rw [List.length_map, List.length_map]; omega)]

section
variable {l0 : List S82} {l1 : List S101} {l2 : List ByteArray} {l3 : List S64} {st : Int} (h : Fits l2 l3 st) (hv : validB l0 l1 l2 l3 st = true) (hr : ∀ p ∈ l3, ∀ s ∈ p.f2, -9223372036854775808 ≤ s ∧ s ≤ 9223372036854775807)
include h hv hr
end

/-! ### of a grammar that may not be -/
section
variable {l0 : List S82} {l1 : List S101} {l2 : List ByteArray} {l3 : List S64} {st : Int} (hv : validB l0 l1 l2 l3 st = false) (hr : ∀ p ∈ l3, ∀ s ∈ p.f2, -9223372036854775808 ≤ s ∧ s ≤ 9223372036854775807)
include hv hr
end
end Go.Proofs.YtclollnicbcooaaDoor.P
end

section
set_option linter.unusedVariables false
set_option linter.unusedSimpArgs false
namespace Go.Proofs.YtclollnicbcooaaDoor.P
open Go.RowKit Go.Proofs.YtclollnicbcooaaDoorW.PrintWords Go.Proofs.YtclollnicbcooaaDoorW.PrintLast Go.Proofs.YtclollnicbcooaaDoorW.PrintMore

theorem few_end (l0 : List S82) (l1 : List S101) (l2 : List ByteArray) (l3 : List S64) (st : Int) (k : Nat) (i : Int) :
  ∃ b, syntagmlaw13_Few.j1 (k + 1) i false l0 l1 l2 l3 st = some b ∧ (b = true → l0.length ≤ 10 ∧ l2.length ≤ 8 ∧ l3.length ≤ 14 ∧ l1.length ≤ 30) := by
 unfold syntagmlaw13_Few.j1
 rw [if_neg (by decide)]
 split
 ·split
  ·split
   ·exact ⟨_, rfl, fun h => by have := of_decide_eq_true h; omega⟩
   ·exact ⟨_, rfl, fun h => by cases h⟩
  ·exact ⟨_, rfl, fun h => by cases h⟩
 ·exact ⟨_, rfl, fun h => by cases h⟩

theorem few_l0 (l0 : List S82) (l1 : List S101) (l2 : List ByteArray) (l3 : List S64) (st : Int) : ∀ (m i : Nat), i + m = 15 → ∀ k, 2 * m + 2 ≤ k →
  ∃ b, syntagmlaw13_Few.l0 k i l0 l1 l2 l3 st = some b ∧ (b = true → l0.length ≤ 10 ∧ l2.length ≤ 8 ∧ l3.length ≤ 14 ∧ l1.length ≤ 30)
 | m, i, hi, 0, hk => by omega
 | m, i, hi, 1, hk => by omega
 | 0, i, hi, k + 2, hk => by
  unfold syntagmlaw13_Few.l0
  have e : decide ((i : Int) < 15) = false := decide_eq_false (by omega)
  rw [e]
  split
  ·exact few_end l0 l1 l2 l3 st k i
  ·exact few_end l0 l1 l2 l3 st k i
 | m + 1, i, hi, k + 2, hk => by
  unfold syntagmlaw13_Few.l0
  have e : decide ((i : Int) < 15) = true := decide_eq_true (by omega)
  rw [e]
  split
  ·unfold syntagmlaw13_Few.j1
   rw [if_pos rfl, if_pos (by omega), if_pos (by assumption)]
   split
   ·exact ⟨_, rfl, fun h => by cases h⟩
   ·have w : wrap64 ((i : Int) + 1) = ((i + 1 : Nat) : Int) := by unfold wrap64; omega
    rw [w]
    exact few_l0 l0 l1 l2 l3 st m (i + 1) (by omega) k (by omega)
  ·exact few_end l0 l1 l2 l3 st k i

theorem few_is (l0 : List S82) (l1 : List S101) (l2 : List ByteArray) (l3 : List S64) (st : Int) (k : Nat) (hk : 32 ≤ k) :
  ∃ b, syntagmlaw13_Few.f k l0 l1 l2 l3 st = some b ∧ (b = true → l0.length ≤ 10 ∧ l2.length ≤ 8 ∧ l3.length ≤ 14 ∧ l1.length ≤ 30) :=
 few_l0 l0 l1 l2 l3 st 15 0 rfl k (by omega)

end Go.Proofs.YtclollnicbcooaaDoor.P
end

section
set_option linter.unusedVariables false
set_option linter.unusedSimpArgs false
set_option linter.unusedSectionVars false
namespace Go.Proofs.YtclollnicbcooaaDoor.P
open Go.RowKit Go.Proofs.YtclollnicbcooaaDoorW.PrintWords Go.Proofs.YtclollnicbcooaaDoorW.PrintLast Go.Proofs.YtclollnicbcooaaDoorW.PrintMore St

theorem i64_range {x : Int} (h : (Lit.int .i64 x).wf = true) : -9223372036854775808 ≤ x ∧ x ≤ 9223372036854775807 := by
 have := bounds_i64 h
 omega
theorem prods_range {x : S27} (h : wf27 x) : ∀ p ∈ x.f3, ∀ s ∈ p.f2, -9223372036854775808 ≤ s ∧ s ≤ 9223372036854775807 :=
 fun p hp s hs => i64_range ((h.2.2.2.1.2 p hp).2.2.1.2 s hs)
theorem okP_of {l3 : List S64} (hr : ∀ p ∈ l3, ∀ s ∈ p.f2, -9223372036854775808 ≤ s ∧ s ≤ 9223372036854775807) : l3.all okP = true :=
 List.all_eq_true.2 fun p hp => List.all_eq_true.2 fun s hs => decide_eq_true (hr p hp s hs).1
theorem rngI_okI {l : List Itm} (h : ∀ x ∈ l, rngI x) : (l.map ofI).all okI = true :=
 List.all_eq_true.2 fun x hx => by
  obtain ⟨y, hy, rfl⟩ := List.mem_map.1 hx
  exact decide_eq_true (h y hy)

/-! ### the program and the document -/
section
variable {l0 : List S82} {l1 : List S101} {l2 : List ByteArray} {l3 : List S64} {st : Int} (hr : ∀ p ∈ l3, ∀ s ∈ p.f2, -9223372036854775808 ≤ s ∧ s ≤ 9223372036854775807)
include hr
theorem close_ok (hv : validB l0 l1 l2 l3 st = true) (l : List S37) (hl : l.length ≤ 1000000) (hok : l.all okI = true) : states_Close.f l0 l1 l2 l3 st l = some ((risen (closedL (gr st l3) (l.map toI))).map ofI) := by
 unfold states_Close.f inst_Valid.f states_closed.f
 rw [hv, Option.bind_some, if_pos rfl, if_pos ⟨rfl, okP_of hr, hl, hok⟩, Option.bind_some]
theorem step_ok (hv : validB l0 l1 l2 l3 st = true) (l : List S37) (s : Int) (hl : l.length ≤ 1000000) (hok : l.all okI = true) : states_Step.f l0 l1 l2 l3 st l s = some ((Sg (gr st l3) (l.map toI) s).map ofI) := by
 unfold states_Step.f inst_Valid.f states_closed.f
 rw [hv, Option.bind_some, if_pos rfl, if_pos ⟨rfl, okP_of hr, hl, hok⟩, Option.bind_some, step_is hv, Option.bind_some]
/-- The automaton is built, or has too many states. -/
theorem build_ok (hv : validB l0 l1 l2 l3 st = true) : (∃ R, builtL l0.length l2.length (gr st l3) = some R ∧ states_Build.f l0 l1 l2 l3 st = some (outB R)) := by
 obtain ⟨R, hR⟩ := buildL_ends (Sg (gr st l3)) (symsL l0.length l2.length) 2000 2001 2003 0 [[(-1, 0)]] [] (by omega) (by omega) (by simp)
 refine ⟨R, hR, ?_⟩
 unfold states_Build.f
 rw [if_pos hv, if_pos (okP_of hr)]
 show Option.map outB (builtL l0.length l2.length (gr st l3)) = _
 unfold builtL
 rw [hR]
 rfl
omit hr in
theorem build_not (hv : validB l0 l1 l2 l3 st = false) : states_Build.f l0 l1 l2 l3 st = some ([], [], 1) := by
 unfold states_Build.f
 rw [hv, if_neg (by decide)]
end
theorem built_is {T S : Nat} {g : Gr} {K : List (List Itm)} {N : List (List Int)} (h : builtL T S g = some (some (K, N))) : Built (Sg g) (symsL T S) [(-1, 0)] K N ∧ N.length = K.length :=
 buildL_is (Sg g) (symsL T S) 2000 [(-1, 0)] 2003 [[(-1, 0)]] [] (K, N) (Built.start _ _ _) h
theorem symsL_at (T S j : Nat) (h : j < T + S) : (symsL T S)[j]? = some (if T ≤ j then -1 - ((j : Int) - T) else (j : Int)) := by
 unfold symsL
 by_cases hT : j < T
 ·rw [List.getElem?_append_left (by simpa using hT), List.getElem?_map, List.getElem?_range hT, if_neg (by omega)]
  rfl
 ·rw [List.getElem?_append_right (by simpa using Nat.le_of_not_lt hT), List.length_map, List.length_range, List.getElem?_map, List.getElem?_range (by omega), if_pos (by omega), Option.map_some]
  congr 1
  omega
end Go.Proofs.YtclollnicbcooaaDoor.P
end

section
set_option linter.unusedVariables false
set_option linter.unusedSimpArgs false
namespace Go.Proofs.YtclollnicbcooaaDoor.P
open Go.RowKit Go.Proofs.YtclollnicbcooaaDoorW.PrintWords Go.Proofs.YtclollnicbcooaaDoorW.PrintLast Go.Proofs.YtclollnicbcooaaDoorW.PrintMore St

/-! ### told by what can be reckoned -/
def risenC (l : List Itm) : List Itm := riseR l l.length []
theorem risen_c (l : List Itm) : risen l = risenC l := (risen_one (riseR_all l)).symm
def SgC (g : Gr) (c : List Itm) (s : Int) : List Itm := risenC (stepL g (risenC (closedL g c)) s)
theorem Sg_c (g : Gr) : Sg g = SgC g := by
 funext c s
 unfold Sg SgC
 rw [risen_c, risen_c]
theorem built_c (T S : Nat) (g : Gr) : builtL T S g = buildL (SgC g) (symsL T S) 2000 2003 0 [[(-1, 0)]] [] := by
 unfold builtL
 rw [Sg_c]

def e0 : List S82 := [(⟨(⟨#[97]⟩ : ByteArray), (⟨#[]⟩ : ByteArray), false, 0⟩ : S82)]
def e2 : List ByteArray := [(⟨#[83]⟩ : ByteArray)]
def e3 : List S64 := [(⟨(⟨#[112]⟩ : ByteArray), 0, (([0] : List Int)), 0⟩ : S64)]
theorem e_valid : validB e0 [] e2 e3 0 = true := by kernel_rfl
theorem e_okP : e3.all okP = true := by kernel_rfl
theorem e_build : states_Build.f e0 [] e2 e3 0 = some ([[⟨-1, 0⟩], [⟨0, 1⟩], [⟨-1, 1⟩]], [[1, 2], [-1, -1], [-1, -1]], 0) := by
 unfold states_Build.f
 rw [if_pos e_valid, if_pos e_okP, built_c]
 kernel_rfl
theorem e_close : states_Close.f e0 [] e2 e3 0 [⟨-1, 0⟩] = some [⟨-1, 0⟩, ⟨0, 0⟩] := by
 unfold states_Close.f inst_Valid.f states_closed.f
 rw [e_valid, Option.bind_some, if_pos rfl, if_pos ⟨rfl, e_okP, Nat.le_of_ble_eq_true rfl, rfl⟩, risen_c]
 kernel_rfl
theorem e_step : states_Step.f e0 [] e2 e3 0 [⟨-1, 0⟩, ⟨0, 0⟩] 0 = some [⟨0, 1⟩] := by
 unfold states_Step.f inst_Valid.f states_closed.f
 rw [e_valid, Option.bind_some, if_pos rfl, if_pos ⟨rfl, e_okP, Nat.le_of_ble_eq_true rfl, rfl⟩, risen_c, Option.bind_some]
 unfold states_step.f
 rw [e_valid, if_pos ⟨rfl, Nat.le_of_ble_eq_true rfl⟩, risen_c]
 kernel_rfl
theorem works_true : syntagmlaw14_works.f = some true := by
 have h1 := e_build
 have h2 := e_close
 have h3 := e_step
 have h4 : states_Behind.f e0 [] e2 e3 0 0 0 = some (0, true) := by kernel_rfl
 unfold e0 e2 e3 at h1 h2 h3 h4
 unfold syntagmlaw14_works.f
 rw [Option.bind_some, Option.bind_some, Option.bind_some, h1, Option.bind_some, h2, Option.bind_some, h3, Option.bind_some, h4, Option.bind_some]
 show _ = some true
 kernel_rfl

end Go.Proofs.YtclollnicbcooaaDoor.P
end

section
set_option linter.unusedVariables false
set_option linter.unusedSimpArgs false
set_option linter.unusedSectionVars false
namespace Go.Proofs.YtclollnicbcooaaDoor.P
open Go.RowKit Go.Proofs.YtclollnicbcooaaDoorW.PrintWords Go.Proofs.YtclollnicbcooaaDoorW.PrintLast Go.Proofs.YtclollnicbcooaaDoorW.PrintMore St

theorem little_l0 (x3 : Bool) (l0 : List S82) (l1 : List S101) (l2 : List ByteArray) (l3 : List S64) (st : Int) : ∀ (m i : Nat), i + m = 15 → ∃ b, Ev (fun k => syntagmlaw14_Little.l0 k x3 i l0 l1 l2 l3 st) b
 | 0, i, hi => by
  refine ⟨if x3 = true then decide ((l3.length : Int) ≤ 10) else false, ?_⟩
  have hj : Ev (fun k => syntagmlaw14_Little.j1 k x3 i false l0 l1 l2 l3 st) (if x3 = true then decide ((l3.length : Int) ≤ 10) else false) := by
   refine Ev.step (f := fun _ => some (if x3 = true then decide ((l3.length : Int) ≤ 10) else false)) (fun k => ?_) (Ev.now _)
   rw [syntagmlaw14_Little.j1, if_neg (by decide)]
   split <;> rfl
  refine Ev.step (fun k => ?_) hj
  rw [syntagmlaw14_Little.l0, decide_eq_false (by omega)]
  split <;> rfl
 | m + 1, i, hi => by
  have hw := wrap_up i (by omega)
  by_cases hlt : i < l3.length
  ·by_cases h5 : (((rd_T64 l3 (i : Int)).f2).length : Int) > 5
   ·refine ⟨false, ?_⟩
    have hj : Ev (fun k => syntagmlaw14_Little.j1 k x3 i true l0 l1 l2 l3 st) false := by
     refine Ev.step (f := fun _ => some false) (fun k => ?_) (Ev.now _)
     rw [syntagmlaw14_Little.j1, if_pos rfl, if_pos (by omega), if_pos (by omega), if_pos h5]
    refine Ev.step (fun k => ?_) hj
    rw [syntagmlaw14_Little.l0, if_pos (by omega), decide_eq_true (by omega)]
   ·obtain ⟨b, ih⟩ := little_l0 x3 l0 l1 l2 l3 st m (i + 1) (by omega)
    refine ⟨b, ?_⟩
    have hj : Ev (fun k => syntagmlaw14_Little.j1 k x3 i true l0 l1 l2 l3 st) b := by
     refine Ev.step (fun k => ?_) ih
     rw [syntagmlaw14_Little.j1, if_pos rfl, if_pos (by omega), if_pos (by omega), if_neg h5, hw]
    refine Ev.step (fun k => ?_) hj
    rw [syntagmlaw14_Little.l0, if_pos (by omega), decide_eq_true (by omega)]
  ·refine ⟨if x3 = true then decide ((l3.length : Int) ≤ 10) else false, ?_⟩
   have hj : Ev (fun k => syntagmlaw14_Little.j1 k x3 i false l0 l1 l2 l3 st) (if x3 = true then decide ((l3.length : Int) ≤ 10) else false) := by
    refine Ev.step (f := fun _ => some (if x3 = true then decide ((l3.length : Int) ≤ 10) else false)) (fun k => ?_) (Ev.now _)
    rw [syntagmlaw14_Little.j1, if_neg (by decide)]
    split <;> rfl
   refine Ev.step (fun k => ?_) hj
   rw [syntagmlaw14_Little.l0, if_neg (by omega)]
theorem little_ev (l0 : List S82) (l1 : List S101) (l2 : List ByteArray) (l3 : List S64) (st : Int) : ∃ b, Ev (fun k => syntagmlaw14_Little.f k l0 l1 l2 l3 st) b := by
 obtain ⟨b0, hf, -⟩ := few_is l0 l1 l2 l3 st 32 (Nat.le_refl _)
 obtain ⟨b, hb⟩ := little_l0 b0 l0 l1 l2 l3 st 15 0 rfl
 refine ⟨b, ?_⟩
 unfold syntagmlaw14_Little.f
 exact Ev.bind (f := fun k t => syntagmlaw14_Little.l0 k t 0 l0 l1 l2 l3 st) (Ev.of (fun k => syntagmlaw13_Few.mono _ _ _ _ _ k) hf) hb

theorem rdL15 (K : List (List Itm)) (i : Nat) (h : i < K.length) : rd_L15 (K.map (·.map ofI)) (i : Int) = K[i].map ofI := by
 unfold rd_L15
 rw [Int.toNat_natCast, List.getD_eq_getElem?_getD, List.getElem?_map, List.getElem?_eq_getElem h]
 rfl
theorem rdL17 (N : List (List Int)) (i : Nat) (h : i < N.length) : rd_L17 N (i : Int) = N[i] := by
 unfold rd_L17
 rw [Int.toNat_natCast, List.getD_eq_getElem?_getD, List.getElem?_eq_getElem h]
 rfl
theorem rd_at (l : List Int) (i : Nat) {v : Int} (h : l[i]? = some v) : Go.Proofs.YtclollnicbcooaaDoorW.PrintWords.rd l (i : Int) = v := by
 unfold Go.Proofs.YtclollnicbcooaaDoorW.PrintWords.rd
 rw [Int.toNat_natCast, List.getD_eq_getElem?_getD, h]
 rfl
section
variable {l0 : List S82} {l1 : List S101} {l2 : List ByteArray} {l3 : List S64} {st : Int} (hv : validB l0 l1 l2 l3 st = true) (hr : ∀ p ∈ l3, ∀ s ∈ p.f2, -9223372036854775808 ≤ s ∧ s ≤ 9223372036854775807)
include hv
theorem behind_sym {x : Itm} {t : Int} (hr : ∀ p ∈ l3, ∀ s ∈ p.f2, -9223372036854775808 ≤ s ∧ s ≤ 9223372036854775807) (hb : behindL (gr st l3) x = some t) : -(l2.length : Int) ≤ t ∧ t < l0.length := by
 have hF := fits_of hv
 unfold behindL at hb
 cases hq : rightL (gr st l3) x.1 with
 | none => rw [hq] at hb; cases hb
 | some r =>
  rw [hq] at hb
  simp only at hb
  split at hb
  ·rename_i hx
   injection hb with hb
   have hm : t ∈ r := by
    rw [← hb, List.getD_eq_getElem?_getD, List.getElem?_eq_getElem (by omega)]
    exact List.getElem_mem _
   unfold rightL at hq
   rw [gr_len] at hq
   split at hq
   ·injection hq with hq
    rw [← hq] at hm
    have hm := List.mem_singleton.1 hm
    have h1 := hF.lo; have h2 := hF.hi
    have e : (gr st l3).start = st := rfl
    rw [e] at hm
    omega
   ·split at hq
    ·rename_i h1 h2
     rw [gr_at st l3 x.1 h2.1 h2.2] at hq
     injection hq with hq
     rw [← hq] at hm
     have hin : (rd_T64 l3 x.1) ∈ l3 := by
      unfold rd_T64
      rw [List.getD_eq_getElem?_getD, List.getElem?_eq_getElem (by omega)]
      exact List.getElem_mem _
     have hv2 := hv
     unfold validB at hv2
     simp only [Bool.and_eq_true] at hv2
     have hp := List.all_eq_true.1 hv2.1.1.1.2 _ hin
     unfold prodB at hp
     simp only [Bool.and_eq_true, Bool.not_eq_true'] at hp
     have ho := List.any_eq_false.1 hp.2 t hm
     have hrt := hr _ hin t hm
     have hw : IntKind.i64.wrap (-1 - t) = -1 - t := IntWalk.i64_in _ (by omega)
     unfold oddB inB at ho
     rw [hw] at ho
     simp only [Bool.or_eq_true, Bool.and_eq_true, Bool.not_eq_true', decide_eq_true_eq, Bool.and_eq_false_iff, decide_eq_false_iff_not, not_or, not_and] at ho
     omega
    ·cases hq
  ·cases hb
theorem Sg_none {c : List Itm} {s : Int} (h : ∀ x, behindL (gr st l3) x ≠ some s) : Sg (gr st l3) c s = [] := by
 have e : stepL (gr st l3) (risen (closedL (gr st l3) c)) s = [] := by
  unfold stepL
  rw [List.filterMap_eq_nil_iff]
  intro x _
  rw [if_neg (h x)]
 unfold Sg
 rw [e]
 refine List.eq_nil_iff_forall_not_mem.2 fun x hx => ?_
 have := ((risen_is []).mem x).1 hx
 cases this
theorem Sg_closed (c : List Itm) (s : Int) : Sg (gr st l3) (risen (closedL (gr st l3) c)) s = Sg (gr st l3) c s := by
 have h := close_close _ _ _ _ (closedL_rise (fits_of hv) c) (closedL_rise (fits_of hv) (risen (closedL (gr st l3) c)))
 unfold Sg
 rw [← h]
theorem built_small {K : List (List Itm)} {N : List (List Int)} (h : Built (Sg (gr st l3)) (symsL l0.length l2.length) [(-1, 0)] K N) : ∀ c ∈ K, c.length ≤ 1562 ∧ ∀ x ∈ c, rngI x := by
 intro c hc
 obtain ⟨j, hj, rfl⟩ := List.mem_iff_getElem.1 hc
 have hx : K[j]? = some K[j] := List.getElem?_eq_getElem hj
 by_cases h0 : j = 0
 ·subst h0
  have := h.first
  rw [hx] at this
  rw [Option.some.inj this]
  refine ⟨by simp, fun x hx => ?_⟩
  rw [List.mem_singleton] at hx
  subst hx
  unfold rngI
  simp only
  omega
 ·obtain ⟨i, d, s, _, _, _, _, e⟩ := h.come j _ hx h0
  rw [e]
  exact Sg_small (fits_of hv) d s
/-- Where it goes. -/
theorem go_is (hr : ∀ p ∈ l3, ∀ s ∈ p.f2, -9223372036854775808 ≤ s ∧ s ≤ 9223372036854775807) {K : List (List Itm)} {N : List (List Int)} (h : Built (Sg (gr st l3)) (symsL l0.length l2.length) [(-1, 0)] K N) {i : Nat} (hi : i < N.length) {c : List Itm} (hc : K[i]? = some c) (s : Int) (hs : -9223372036854775808 ≤ s ∧ s ≤ 9223372036854775807) (Ka : List (List S37)) :
  ∃ q, states_Go.f l0 l1 l2 l3 st Ka N i s = some q ∧ NumOf K (Sg (gr st l3) c s) q := by
 have hT := terms_few hv
 have hS := (fits_of hv).sorts
 obtain ⟨row, hrow, hlen, hg⟩ := h.goes i c hi hc
 rw [symsL_len] at hlen
 have hri : rd_L17 N (i : Int) = row := by
  rw [rdL17 N i hi]
  rw [List.getElem?_eq_getElem hi] at hrow
  exact Option.some.inj hrow
 have nope : (s < -(l2.length : Int) ∨ (l0.length : Int) ≤ s) → NumOf K (Sg (gr st l3) c s) (-1) := fun hn => .inl ⟨Sg_none hv (fun x hx => by have := behind_sym hv hr hx; omega), rfl⟩
 unfold states_Go.f
 rw [hri]
 have hw1 : wrap64 ((-1) - s) = if s < 0 then -1 - s else -1 - s := by
  rw [IntWalk.wrap64_in _ (by omega)]
  split <;> rfl
 by_cases hs0 : s < 0
 ·rw [if_pos hs0, IntWalk.wrap64_in ((-1) - s) (by omega), if_neg (by omega), if_neg (by omega)]
  by_cases hq : -(l2.length : Int) ≤ s
  ·have hw : wrap64 ((l0.length : Int) + (-1 - s)) = (l0.length : Int) + (-1 - s) := IntWalk.wrap64_in _ (by omega)
   obtain ⟨j, hj⟩ : ∃ j : Nat, (l0.length : Int) + (-1 - s) = j := ⟨((l0.length : Int) + (-1 - s)).toNat, by omega⟩
   have hsy := symsL_at l0.length l2.length j (by omega)
   rw [if_pos (by omega), show (-1 - ((j : Int) - l0.length)) = s by omega] at hsy
   obtain ⟨n, hn, hnum⟩ := hg j s hsy
   rw [hw, hj, if_neg (by omega), if_pos (by omega), if_pos (by omega), if_neg (by omega), if_pos (by omega), if_pos (by omega), rd_at row j hn]
   exact ⟨n, rfl, hnum⟩
  ·refine ⟨-1, ?_, nope (.inl (by omega))⟩
   by_cases hw0 : wrap64 ((l0.length : Int) + (-1 - s)) < 0
   ·rw [if_pos hw0]
   ·have hge : wrap64 ((l0.length : Int) + (-1 - s)) ≥ (row.length : Int) := by
     unfold wrap64 at hw0 ⊢
     omega
    rw [if_neg hw0, if_pos (by omega), if_pos (by omega), if_pos hge]
 ·rw [if_neg hs0]
  by_cases hq : s ≥ (l0.length : Int)
  ·rw [if_pos hq]
   exact ⟨-1, rfl, nope (.inr (by omega))⟩
  ·obtain ⟨j, hj⟩ : ∃ j : Nat, s = j := ⟨s.toNat, by omega⟩
   have hsy := symsL_at l0.length l2.length j (by omega)
   rw [if_neg (by omega), ← hj] at hsy
   obtain ⟨n, hn, hnum⟩ := hg j s hsy
   rw [if_neg hq, if_neg (by omega), if_neg (by omega), if_pos (by omega), if_pos (by omega), if_neg (by omega), if_pos (by omega), if_pos (by omega), hj, rd_at row j hn]
   exact ⟨n, rfl, by rw [← hj]; exact hnum⟩
end
end Go.Proofs.YtclollnicbcooaaDoor.P
end

section
set_option linter.unusedVariables false
set_option linter.unusedSimpArgs false
namespace Go.Proofs.YtclollnicbcooaaDoor.Pure
open Go.RowKit Go.Proofs.YtclollnicbcooaaDoor.P Go.Proofs.YtclollnicbcooaaDoorW.PrintWords Go.Proofs.YtclollnicbcooaaDoorW.PrintLast Go.Proofs.YtclollnicbcooaaDoorW.PrintMore St

theorem steps_j0 {l0 : List S82} {l1 : List S101} {l2 : List ByteArray} {l3 : List S64} {st : Int} (hv : validB l0 l1 l2 l3 st = true) (hr : ∀ p ∈ l3, ∀ s ∈ p.f2, -9223372036854775808 ≤ s ∧ s ≤ 9223372036854775807) {K : List (List Itm)} {N : List (List Int)} (hB : Built (Sg (gr st l3)) (symsL l0.length l2.length) [(-1, 0)] K N) (hN : N.length = K.length) (i : Nat) (hi : i < K.length) (s : Int) (hs : -9223372036854775808 ≤ s ∧ s ≤ 9223372036854775807) :
  Ev (fun k => syntagmlaw14_StatesSteps.j0 k i s true false l0 l1 l2 l3 st (K.map (·.map ofI)) N) true := by
 have hF := fits_of hv
 have hsm := built_small hv hB
 have hc : K[i]? = some K[i] := List.getElem?_eq_getElem hi
 obtain ⟨q, hq, hnum⟩ := go_is hv hr hB (by omega : i < N.length) hc s hs (K.map (·.map ofI))
 have hcs := hsm K[i] (List.getElem_mem hi)
 have h1 := close_ok hr hv (K[i].map ofI) (by rw [List.length_map]; omega) (rngI_okI hcs.2)
 have h2 := step_ok hr hv (K[i].map ofI) s (by rw [List.length_map]; omega) (rngI_okI hcs.2)
 rw [map_toI_ofI] at h1 h2
 have hR := closedL_rise hF K[i]
 have hcl := closed_small hF K[i]
 have h3 := step_ok hr hv ((risen (closedL (gr st l3) K[i])).map ofI) s (by rw [List.length_map]; omega) (rngI_okI fun x hx => by
  have := isI_rng hF (cl_is _ _ _ ((hR.mem x).1 hx))
  unfold rngI
  omega)
 rw [map_toI_ofI, Sg_closed hv] at h3
 have hX := (Sg_small hF K[i] s).1
 obtain ⟨K1, h4⟩ := lawrow_ev ((Sg (gr st l3) K[i] s).map ofI) (by rw [List.length_map]; omega)
 obtain ⟨K2, h5⟩ := refrow_ev (Sg (gr st l3) K[i] s) (Sg (gr st l3) K[i] s) (by omega)
 rw [map_toI_ofI] at h4
 rw [decide_eq_true rfl] at h5
 refine ⟨K1 + K2 + 1, fun k hk => ?_⟩
 obtain ⟨k, rfl⟩ : ∃ j, k = j + 1 := ⟨k - 1, by omega⟩
 dsimp only at h4 h5 ⊢
 rw [syntagmlaw14_StatesSteps.j0, if_neg (by decide), if_pos (by omega), if_pos (by rw [List.length_map]; omega), rdL15 K i hi, h1, Option.bind_some, h2, Option.bind_some, h3, Option.bind_some, hq, Option.bind_some, h4 k (by omega), Option.bind_some, Option.bind_some, h5 k (by omega), Option.bind_some, if_pos rfl]
 rcases hnum with ⟨he, rfl⟩ | ⟨hne, t, rfl, ht⟩
 ·rw [if_pos (by decide), if_pos rfl, he]
  rfl
 ·obtain ⟨htl, hte⟩ := List.getElem?_eq_some_iff.1 ht
  rw [if_neg (by omega), if_pos rfl, Option.bind_some, if_pos (by omega), if_pos (by rw [List.length_map]; omega), rdL15 K t htl, hte, h4 k (by omega), Option.bind_some, h5 k (by omega), Option.bind_some]
theorem StatesSteps (x0 : S27) (a1 : Int) (a2 : Int) (w0 : wf27 x0) (w1 : (Lit.int .i64 a1).wf = true) (w2 : (Lit.int .i64 a2).wf = true) : ∃ k, syntagmlaw14_StatesSteps.f k x0.f0 x0.f1 x0.f2 x0.f3 x0.f4 a1 a2 = some true := by
 have hr := prods_range w0
 obtain ⟨b, Kb, hb⟩ := little_ev x0.f0 x0.f1 x0.f2 x0.f3 x0.f4
 have hout : ∀ (Ka : List (List S37)) (N : List (List Int)), Ev (fun k => syntagmlaw14_StatesSteps.j0 k a1 a2 true true x0.f0 x0.f1 x0.f2 x0.f3 x0.f4 Ka N) true := fun Ka N => by
  refine Ev.step (f := fun _ => some true) (fun k => ?_) (Ev.now _)
  rw [syntagmlaw14_StatesSteps.j0, if_pos rfl]
 obtain ⟨r, hB, K2, h2⟩ : ∃ r, states_Build.f x0.f0 x0.f1 x0.f2 x0.f3 x0.f4 = some r ∧ Ev (fun k => if r.2.2 = 0 then (if a1 < 0 then syntagmlaw14_StatesSteps.j0 k a1 a2 true true x0.f0 x0.f1 x0.f2 x0.f3 x0.f4 r.1 r.2.1 else syntagmlaw14_StatesSteps.j0 k a1 a2 true (decide (a1 ≥ (r.1.length : Int))) x0.f0 x0.f1 x0.f2 x0.f3 x0.f4 r.1 r.2.1) else syntagmlaw14_StatesSteps.j0 k a1 a2 true true x0.f0 x0.f1 x0.f2 x0.f3 x0.f4 r.1 r.2.1) true := by
  cases hv : validB x0.f0 x0.f1 x0.f2 x0.f3 x0.f4 with
  | false => exact ⟨_, build_not hv, Ev.congr (fun k => by rw [if_neg (by decide)]) (hout _ _)⟩
  | true =>
   obtain ⟨R, hR, hf⟩ := build_ok hr hv
   refine ⟨_, hf, ?_⟩
   cases R with
   | none => exact Ev.congr (fun k => by rw [if_neg (by decide)]) (hout _ _)
   | some KN =>
    obtain ⟨K, N⟩ := KN
    obtain ⟨hBu, hN⟩ := built_is hR
    show Ev (fun k => if (0 : Int) = 0 then (if a1 < 0 then syntagmlaw14_StatesSteps.j0 k a1 a2 true true x0.f0 x0.f1 x0.f2 x0.f3 x0.f4 (K.map (·.map ofI)) N else syntagmlaw14_StatesSteps.j0 k a1 a2 true (decide (a1 ≥ ((K.map (·.map ofI)).length : Int))) x0.f0 x0.f1 x0.f2 x0.f3 x0.f4 (K.map (·.map ofI)) N) else syntagmlaw14_StatesSteps.j0 k a1 a2 true true x0.f0 x0.f1 x0.f2 x0.f3 x0.f4 (K.map (·.map ofI)) N) true
    rw [List.length_map]
    by_cases h0 : a1 < 0
    ·exact Ev.congr (fun k => by rw [if_pos rfl, if_pos h0]) (hout _ _)
    ·by_cases h1 : a1 ≥ (K.length : Int)
     ·exact Ev.congr (fun k => by rw [if_pos rfl, if_neg h0, decide_eq_true h1]) (hout _ _)
     ·obtain ⟨i, rfl⟩ : ∃ i : Nat, a1 = i := ⟨a1.toNat, by omega⟩
      exact Ev.congr (fun k => by rw [if_pos rfl, if_neg h0, decide_eq_false h1]) (steps_j0 hv hr hBu hN i (by omega) a2 (i64_range w2))
 refine ⟨Kb + K2, ?_⟩
 have h3 := h2 (Kb + K2) (by omega)
 have h4 := hb (Kb + K2) (by omega)
 dsimp only at h3 h4
 unfold syntagmlaw14_StatesSteps.f
 rw [works_true, Option.bind_some, if_pos rfl, h4, Option.bind_some]
 cases b with
 | false => rw [if_neg (by decide)]
 | true =>
  rw [if_pos rfl, hB, Option.bind_some]
  exact h3
end Go.Proofs.YtclollnicbcooaaDoor.Pure
end

section
set_option linter.unusedVariables false
namespace Go.Proofs.YtclollnicbcooaaDoor.Glob
open Go.ChangeShapes Go.WideShapes Go.ChangeAt Go.RowKit

def laidL : List (String × DataW Unit) := [("math/bits.deBruijn32tab", Rows.laid_math_bits_deBruijn32tab), ("math/bits.deBruijn64tab", Rows.laid_math_bits_deBruijn64tab), ("internal/strconv.uint64pow10", Rows.laid_internal_strconv_uint64pow10)]
theorem named : Tryd.prog.globalNamed "internal/strconv.uint64pow10" = some 0 := by kernel_rfl
theorem typed : (Tryd.prog.globals[0]?).map (·.type) = some 172 := by kernel_rfl
theorem und172 : Tryd.prog.underlying 172 = some (.array 20 75) := by kernel_rfl
theorem und75 : Tryd.prog.underlying 75 = some (.int .u64) := by kernel_rfl
theorem cells172 : Tryd.prog.cellsOf 172 = 20 := by kernel_rfl
theorem cells75 : Tryd.prog.cellsOf 75 = 1 := by kernel_rfl
theorem table_is : (Rows.laid_internal_strconv_uint64pow10 : DataW Unit) = Lib.tabData .u64 Lib.pow10Tab := by rfl
theorem of_laid {W : World} (h : laidMet Tryd.prog laidL W) : P.GTab W := by
 obtain ⟨g', t', cs, fuel, p, hg', ht', hvar, hd⟩ := Lib.laidMet.reads h (n := "internal/strconv.uint64pow10") (d := Rows.laid_internal_strconv_uint64pow10) (List.mem_cons_of_mem _ (List.mem_cons_of_mem _ List.mem_cons_self))
 obtain rfl := Option.some.inj (named.symm.trans hg')
 obtain rfl := Option.some.inj (typed.symm.trans ht')
 rw [table_is] at hd
 unfold P.GTab Lib.TabIs
 rw [hvar, ← Lib.cells_of_tab und172 und75 cells75 cells172 hd]

/-- A row of literals as cells. -/
def litCells : DataW Unit → Array Value
 | .agg l => (l.map fun | .lit (.int k z) => Value.int k z | _ => Value.int .i64 0).toArray
 | _ => #[]
noncomputable def laidWorld (os : Os) : World :=
 let w := World.holding Tryd.prog os ⟨#[], #[], []⟩
 let put (b : Nat) (cs : Array Value) (h : Array Obj) : Array Obj := h.modify b fun
   | .cells _ t frozen => .cells cs t frozen
   | o => o
 { w with heap := put 0 (litCells Rows.laid_internal_strconv_uint64pow10) (put 1 (litCells Rows.laid_math_bits_deBruijn32tab) (put 2 (litCells Rows.laid_math_bits_deBruijn64tab) w.heap)) }
theorem laid_met (os : Os) (args : Array Value) : laidMet Tryd.prog laidL ((laidWorld os).forCall (fun _ _ => 0) ⟨#[], args, []⟩).memory :=
 laidMet_of_run' 8 (by kernel_rfl) (by kernel_rfl)
end Go.Proofs.YtclollnicbcooaaDoor.Glob
end
