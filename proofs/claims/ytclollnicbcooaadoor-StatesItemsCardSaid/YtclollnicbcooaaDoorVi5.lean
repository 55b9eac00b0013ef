/- Texts of this claim put together: Px15, Open, Types, Rf, Rf2, SFew, Pw, Pk, PureStatesItems, Glob. -/
import Derived.Test.YtclollnicbcooaaDoorVi0
import Derived.Test.YtclollnicbcooaaDoorVi1
import Derived.Test.YtclollnicbcooaaDoorVi2
import Derived.Test.YtclollnicbcooaaDoorVi3
import Derived.Test.YtclollnicbcooaaDoorVi4
import Derived.Deep.Slices
import Derived.OpenShut
import Derived.ShutString
import Derived.ProofKit
import Derived.Test.YtclollnicbcooaaDoorRows
import Derived.Lib.LaidTab
import Derived.Lib.LaidU8
import Derived.LaidLaws
import Derived.Handed
set_option linter.unusedVariables false
set_option linter.unusedSimpArgs false
set_option linter.unusedSectionVars false
section
namespace Go.Proofs.YtclollnicbcooaaDoor.P
open Go.RowKit Go.Proofs.YtclollnicbcooaaDoorW.PrintWords Go.Proofs.YtclollnicbcooaaDoorW.PrintLast Go.Proofs.YtclollnicbcooaaDoorW.PrintMore
attribute [local go_sem] max2_int min2_int max_two min_two max_three min_three max_four min_four

/-! ### syntagmlaw14_StatesItems: function 3 -/
mutual
def syntagmlaw14_StatesItems.j0 : Nat → List (S37) → Int → Bool → Bool → List (S82) → List (S101) → List ByteArray → List (S64) → Int → Option (Bool)
 | 0, _, _, _, _, _, _, _, _, _ => none
 | k + 1, x1, x2, x7, x26, x286000, x286001, x286002, x286003, x286004 => if x26 = true then (some x7) else ((syntagmlaw14_Row.f k x1).bind fun t288 => (syntagmlaw14_StatesItems.l0 k x1 x2 x7 t288 0 x286000 x286001 x286002 x286003 x286004))
def syntagmlaw14_StatesItems.l0 : Nat → List (S37) → Int → Bool → List (S39) → Int → List (S82) → List (S101) → List ByteArray → List (S64) → Int → Option (Bool)
 | 0, _, _, _, _, _, _, _, _, _, _ => none
 | k + 1, x1, x2, x7, x9, x10, x286000, x286001, x286002, x286003, x286004 => if x10 < (x1.length : Int) then (if 0 ≤ x10 then ((states_Behind.f x286000 x286001 x286002 x286003 x286004 ((rd_T37 x1 x10).f0) ((rd_T37 x1 x10).f1)).bind fun bt292 => (if x10 < (x9.length : Int) then ((syntagmref14_Behind.f x286000 x286001 x286002 x286003 x286004 ((rd_T39 x9 x10).f0) ((rd_T39 x9 x10).f1)).bind fun bt295 => (if bt292.1 = bt295.1 then (if (bt292.2 != bt295.2) = true then (some false) else (syntagmlaw14_StatesItems.l0 k x1 x2 x7 x9 (wrap64 (x10 + 1)) x286000 x286001 x286002 x286003 x286004)) else (some false))) else (none))) else (none)) else (if x7 = true then ((states_Close.f x286000 x286001 x286002 x286003 x286004 x1).bind fun t297 => ((syntagmlaw14_Row.f k t297).bind fun t300 => ((syntagmref14_Close.f k x286000 x286001 x286002 x286003 x286004 x9).bind fun t303 => ((syntagmref14_Row.f k t300 t303).bind fun t306 => (if t306 = true then ((states_Step.f x286000 x286001 x286002 x286003 x286004 x1 x2).bind fun t307 => ((syntagmlaw14_Row.f k t307).bind fun t310 => ((syntagmref14_Step.f k x286000 x286001 x286002 x286003 x286004 x9 x2).bind fun t313 => ((syntagmref14_Row.f k t310 t313).bind fun t316 => (some t316))))) else (some false)))))) else (some false))
end
def syntagmlaw14_StatesItems.f (k : Nat) (l0_0 : List (S82)) (l0_1 : List (S101)) (l0_2 : List ByteArray) (l0_3 : List (S64)) (a0_4 : Int) (l1 : List (S37)) (a2 : Int) : Option (Bool) := (syntagmlaw14_works.f).bind fun t286 => (if t286 = true then ((syntagmlaw13_Few.f k l0_0 l0_1 l0_2 l0_3 a0_4).bind fun t287 => (if t287 = true then (syntagmlaw14_StatesItems.j0 k l1 a2 t286 (decide ((l1.length : Int) > 30)) l0_0 l0_1 l0_2 l0_3 a0_4) else (syntagmlaw14_StatesItems.j0 k l1 a2 t286 true l0_0 l0_1 l0_2 l0_3 a0_4))) else (some false))
def syntagmlaw14_StatesItems.T11 : Bool × List (List Nat × List Nat) := (true, [([], []), ([], []), ([], []), ([1, 2], [1, 2]), ([3], [3]), ([0, 4], [0, 4]), ([5], [5]), ([6], [6]), ([6], [6]), ([7, 5, 0, 1, 2, 3, 4, 5, 6, 7], [7]), ([8, 9, 0, 1, 2, 3, 4, 5, 6, 7, 8, 9], [8])])
def syntagmlaw14_StatesItems.B11 : List Nat := [0, 0, 0, 6, 14, 31, 63, 127, 127, 255, 1023]
theorem syntagmlaw14_StatesItems.tab11 : rtab .any (opsOf Tryd.f3 11) = syntagmlaw14_StatesItems.T11 := by kernel_rfl
theorem syntagmlaw14_StatesItems.bits11 : waitsOk syntagmlaw14_StatesItems.T11.2 syntagmlaw14_StatesItems.B11 = true := by kernel_rfl
def syntagmlaw14_StatesItems.T12 : Bool × List (List Nat × List Nat) := (true, [([], []), ([], []), ([], []), ([1, 2], [1, 2]), ([3], [3]), ([0, 4], [0, 4]), ([5], [5]), ([6], [6]), ([6], [6]), ([7, 5, 0, 1, 2, 3, 4, 5, 6, 7], [7]), ([8, 9, 0, 1, 2, 3, 4, 5, 6, 7, 8, 9], [8])])
def syntagmlaw14_StatesItems.B12 : List Nat := [0, 0, 0, 6, 14, 31, 63, 127, 127, 255, 1023]
theorem syntagmlaw14_StatesItems.tab12 : rtab .any (opsOf Tryd.f3 12) = syntagmlaw14_StatesItems.T12 := by kernel_rfl
theorem syntagmlaw14_StatesItems.bits12 : waitsOk syntagmlaw14_StatesItems.T12.2 syntagmlaw14_StatesItems.B12 = true := by kernel_rfl
def syntagmlaw14_StatesItems.T15 : Bool × List (List Nat × List Nat) := (true, [([], []), ([0], [0]), ([1], [1]), ([1], [1]), ([2, 3, 1, 1], [1, 2, 3]), ([4, 4, 1], [1, 4]), ([1], [1]), ([1], [1]), ([6, 7, 5, 1], [1, 6, 7]), ([5, 8, 8, 1], [1, 5, 8]), ([1, 9], [1, 9]), ([10, 9], [10]), ([11], [11]), ([11], [11]), ([11], [11]), ([12, 13, 14, 11, 11], [11, 12, 13, 14]), ([15, 15, 11], [11, 15]), ([11], [11]), ([11], [11]), ([11], [11]), ([17, 18, 19, 16, 11], [11, 17, 18, 19]), ([16, 20, 20, 11], [11, 16, 20]), ([11, 21], [11, 21]), ([22, 21, 0, 1, 2, 3, 4, 5, 6, 7, 8, 9, 10, 11, 12, 13, 14, 15, 16, 17, 18, 19, 20, 21, 22], [22])])
def syntagmlaw14_StatesItems.B15 : List Nat := [0, 1, 3, 3, 15, 31, 3, 3, 255, 511, 1023, 2047, 4095, 4095, 4095, 32767, 65535, 4095, 4095, 4095, 1048575, 2097151, 4194303, 8388607]
theorem syntagmlaw14_StatesItems.tab15 : rtab .any (opsOf Tryd.f3 15) = syntagmlaw14_StatesItems.T15 := by kernel_rfl
theorem syntagmlaw14_StatesItems.bits15 : waitsOk syntagmlaw14_StatesItems.T15.2 syntagmlaw14_StatesItems.B15 = true := by kernel_rfl
set_option maxHeartbeats 8000000 in
set_option maxRecDepth 100000 in
theorem syntagmlaw14_StatesItems.calls (k : Nat) (A0_0 : Option Addr) (c0_0 : Nat) (l0_0 : List (S82)) (A0_1 : Option Addr) (c0_1 : Nat) (l0_1 : List (S101)) (A0_2 : Option Addr) (c0_2 : Nat) (l0_2 : List ByteArray) (A0_3 : Option Addr) (c0_3 : Nat) (l0_3 : List (S64)) (a0_4 : Int) (A1 : Option Addr) (c1 : Nat) (l1 : List (S37)) (a2 : Int) (r : Bool) (w : World) (hG : GTab w) (hT : r = true) (hr0_0 : Kd.C k82 w A0_0 l0_0.length l0_0) (hc0_0 : l0_0.length ≤ c0_0) (hr0_1 : Kd.C k101 w A0_1 l0_1.length l0_1) (hc0_1 : l0_1.length ≤ c0_1) (hr0_2 : Kd.C Kd.string w A0_2 l0_2.length l0_2) (hc0_2 : l0_2.length ≤ c0_2) (hr0_3 : Kd.C k64 w A0_3 l0_3.length l0_3) (hc0_3 : l0_3.length ≤ c0_3) (hr1 : Kd.C k37 w A1 l1.length l1) (hc1 : l1.length ≤ c1) (h : syntagmlaw14_StatesItems.f k l0_0 l0_1 l0_2 l0_3 a0_4 l1 a2 = some r) :
  Calls Tryd.prog 3 #[.agg #[.slice A0_0 l0_0.length c0_0, .slice A0_1 l0_1.length c0_1, .slice A0_2 l0_2.length c0_2, .slice A0_3 l0_3.length c0_3, .int .i64 a0_4], .slice A1 l1.length c1, .int .i64 a2] w fun e w' => e = .returned (.bool r) ∧ Below w.heap.size w w' := by
 have hu27 := Tryd.underlying27
 have hu37 := Tryd.underlying37
 have hu39 := Tryd.underlying39
 have HG := jM hG
 clear hG
 have HT := jM hT
 clear hT
 have HR0_0 := jM hr0_0
 have HC0_0 := jM hc0_0
 clear hr0_0 hc0_0
 have HR0_1 := jM hr0_1
 have HC0_1 := jM hc0_1
 clear hr0_1 hc0_1
 have HR0_2 := jM hr0_2
 have HC0_2 := jM hc0_2
 clear hr0_2 hc0_2
 have HR0_3 := jM hr0_3
 have HC0_3 := jM hc0_3
 clear hr0_3 hc0_3
 have HR1 := jM hr1
 have HC1 := jM hc1
 clear hr1 hc1
 have HB := jM (Below.refl w.heap.size w)
 have H : ((syntagmlaw14_works.f).bind fun t286 => (if t286 = true then ((syntagmlaw13_Few.f k l0_0 l0_1 l0_2 l0_3 a0_4).bind fun t287 => (if t287 = true then (syntagmlaw14_StatesItems.j0 k l1 a2 t286 (decide ((l1.length : Int) > 30)) l0_0 l0_1 l0_2 l0_3 a0_4) else (syntagmlaw14_StatesItems.j0 k l1 a2 t286 true l0_0 l0_1 l0_2 l0_3 a0_4))) else (some false))) = some r := h
 clear h
 replace H := Option.bind_eq_some_iff.mp H
 obtain ⟨t286, A40, H⟩ := H
 replace H : (if t286 = true then ((syntagmlaw13_Few.f k l0_0 l0_1 l0_2 l0_3 a0_4).bind fun t287 => (if t287 = true then (syntagmlaw14_StatesItems.j0 k l1 a2 t286 (decide ((l1.length : Int) > 30)) l0_0 l0_1 l0_2 l0_3 a0_4) else (syntagmlaw14_StatesItems.j0 k l1 a2 t286 true l0_0 l0_1 l0_2 l0_3 a0_4))) else (some false)) = some r := H
 have A4 := jM A40
 clear A40
 by_cases c5 : t286 = true
 ·subst c5
  have H1 : ((syntagmlaw13_Few.f k l0_0 l0_1 l0_2 l0_3 a0_4).bind fun t287 => (if t287 = true then (syntagmlaw14_StatesItems.j0 k l1 a2 true (decide ((l1.length : Int) > 30)) l0_0 l0_1 l0_2 l0_3 a0_4) else (syntagmlaw14_StatesItems.j0 k l1 a2 true true l0_0 l0_1 l0_2 l0_3 a0_4))) = some r := by rw [if_pos rfl] at H; exact H
  clear H
  have H := H1
  clear H1
  replace H := Option.bind_eq_some_iff.mp H
  obtain ⟨t287, A60, H⟩ := H
  replace H : (if t287 = true then (syntagmlaw14_StatesItems.j0 k l1 a2 true (decide ((l1.length : Int) > 30)) l0_0 l0_1 l0_2 l0_3 a0_4) else (syntagmlaw14_StatesItems.j0 k l1 a2 true true l0_0 l0_1 l0_2 l0_3 a0_4)) = some r := H
  have A6 := jM A60
  clear A60
  have HC7 := jM H
  clear H
  go_enter Tryd.func3, Tryd.ntmps3
  go_upto_region 5 with (first | ((with_reducible refine gate_dst (N := 3) rfl ?_); (try (refine gate_guard (by rfl) ?_; dsimp only)); refine box_event ?hg (N := 3) ?hd (cs := #[.slice A0_0 l0_0.length c0_0, .slice A0_1 l0_1.length c0_1, .slice A0_2 l0_2.length c0_2, .slice A0_3 l0_3.length c0_3, .int .i64 a0_4]) (t := 27) ?hr ?_; (case hd => rfl); (case hg => rfl); (case hr => first | (go_simp; done) | (go_simp; rfl)); intro gb285 hg w8 hbox hb; have n0_ := jM (jT (by repeat (first | (with_reducible first | exact HB.out | apply jA | apply jN | apply jD) | exact HB.out)) hb); have n1_ := jM (hbox); have n2_ := jM ((by rw [hg]; exact (below_size (by repeat (first | (with_reducible first | exact HB.out | apply jA | apply jN | apply jD) | exact HB.out))) : w.heap.size ≤ gb285)); have n3_ := jM ((by rw [hg]; exact (below_size (by repeat (first | (with_reducible first | exact HB.out | apply jA | apply jN | apply jD) | exact HB.out))) : w.heap.size ≤ gb285)); clear HB; have HB := n0_; have BK285 := n1_; have GW285 := n2_; have GE285 := n3_; clear n0_ n1_ n2_ n3_; clear hb hbox hg) | ((with_reducible refine gate_callee (f := 12) rfl ?_); refine goesL_ (some 15) rfl rfl Tryd.func12 (by kernel_rfl) rfl #[] rfl (by (try simp only [List.map_toArray, List.map_cons, List.map_nil]); first | done | rfl | (simp only [List.length_drop, List.length_take]; rfl)) ?_; (with_reducible refine (syntagmlaw14_works.calls  true _ ?side1 ?side2 A4.out).mono ?_); (case side1 => exact GTab.below HG.out (by repeat (first | (with_reducible first | exact HB.out | apply jA | apply jN | apply jD | refine jS ?_ GE285.out) | exact HB.out))); (case side2 => rfl); rintro e w9 ⟨rfl, hb⟩; refine ⟨_, rfl, ?_⟩; have n0_ := jM (jW (g := gb285) (o := .cells #[.slice A0_0 l0_0.length c0_0, .slice A0_1 l0_1.length c0_1, .slice A0_2 l0_2.length c0_2, .slice A0_3 l0_3.length c0_3, .int .i64 a0_4] 27 (0, 0)) (by (with_reducible repeat (first | refine jY ?_ _ | refine jZ ?_ | refine jX ?_ _)); exact BK285.out) hb); have n1_ := jM (jT (by repeat (first | (with_reducible first | exact HB.out | apply jA | apply jN | apply jD | refine jS ?_ GE285.out) | exact HB.out)) hb); clear BK285; clear HB; have BK285 := n0_; have HB := n1_; clear n0_ n1_; (try clear hb); (try clear hb2); (try clear hk); (try clear hi); have hcz10_0 : w9.cell? ⟨gb285, 0, none⟩ = some (.slice A0_0 l0_0.length c0_0) := (jC BK285.out 0).trans rfl; have hcz10_1 : w9.cell? ⟨gb285, 1, none⟩ = some (.slice A0_1 l0_1.length c0_1) := (jC BK285.out 1).trans rfl; have hcz10_2 : w9.cell? ⟨gb285, 2, none⟩ = some (.slice A0_2 l0_2.length c0_2) := (jC BK285.out 2).trans rfl; have hcz10_3 : w9.cell? ⟨gb285, 3, none⟩ = some (.slice A0_3 l0_3.length c0_3) := (jC BK285.out 3).trans rfl; have hcz10_4 : w9.cell? ⟨gb285, 4, none⟩ = some (.int .i64 a0_4) := (jC BK285.out 4).trans rfl; have hfz10_0 := jF BK285.out 0; have hfz10_1 := jF BK285.out 1; have hfz10_2 := jF BK285.out 2; have hfz10_3 := jF BK285.out 3; have hfz10_4 := jF BK285.out 4) | ((with_reducible refine gate_callee (f := 13) rfl ?_); refine goesL_ (some 19) rfl rfl Tryd.func13 (by kernel_rfl) rfl #[.agg #[.slice A0_0 l0_0.length c0_0, .slice A0_1 l0_1.length c0_1, .slice A0_2 l0_2.length c0_2, .slice A0_3 l0_3.length c0_3, .int .i64 a0_4]] rfl (by (try simp only [List.map_toArray, List.map_cons, List.map_nil]); first | done | rfl | (simp only [List.length_drop, List.length_take]; rfl)) ?_; (with_reducible refine (syntagmlaw13_Few.calls k _ _ l0_0 _ _ l0_1 _ _ l0_2 _ _ l0_3 a0_4 t287 _ ?side1 ?side2 ?side3 ?side4 ?side5 ?side6 ?side7 ?side8 A6.out).mono ?_); (case side1 => repeat (first | exact (jB HR0_0.out HB.out) | (with_reducible refine Kd.C_alloc ?_ _) | (with_reducible refine Kd.C_drewN ?_ _) | (with_reducible refine Kd.C_drew ?_))); (case side2 => exact HC0_0.out); (case side3 => repeat (first | exact (jB HR0_1.out HB.out) | (with_reducible refine Kd.C_alloc ?_ _) | (with_reducible refine Kd.C_drewN ?_ _) | (with_reducible refine Kd.C_drew ?_))); (case side4 => exact HC0_1.out); (case side5 => repeat (first | exact (jB HR0_2.out HB.out) | (with_reducible refine Kd.C_alloc ?_ _) | (with_reducible refine Kd.C_drewN ?_ _) | (with_reducible refine Kd.C_drew ?_))); (case side6 => exact HC0_2.out); (case side7 => repeat (first | exact (jB HR0_3.out HB.out) | (with_reducible refine Kd.C_alloc ?_ _) | (with_reducible refine Kd.C_drewN ?_ _) | (with_reducible refine Kd.C_drew ?_))); (case side8 => exact HC0_3.out); rintro e w11 ⟨rfl, hb⟩; refine ⟨_, rfl, ?_⟩; have n0_ := jM (jW (g := gb285) (o := .cells #[.slice A0_0 l0_0.length c0_0, .slice A0_1 l0_1.length c0_1, .slice A0_2 l0_2.length c0_2, .slice A0_3 l0_3.length c0_3, .int .i64 a0_4] 27 (0, 0)) (by (with_reducible repeat (first | refine jY ?_ _ | refine jZ ?_ | refine jX ?_ _)); exact BK285.out) hb); have n1_ := jM (jT (by repeat (first | (with_reducible first | exact HB.out | apply jA | apply jN | apply jD | refine jS ?_ GE285.out) | exact HB.out)) hb); clear BK285; clear HB; have BK285 := n0_; have HB := n1_; clear n0_ n1_; (try clear hb); (try clear hb2); (try clear hk); (try clear hi)))
  (try simp only [Act.put, sA])
  go_cut [26] (fun v26 wc => ∃ (kq : Nat) (x26_6 : Bool), v26 = .bool x26_6 ∧ Aside0 (syntagmlaw14_StatesItems.j0 kq l1 a2 true x26_6 l0_0 l0_1 l0_2 l0_3 a0_4 = some r) ∧ Aside0 (kq ≤ k) ∧ Aside0 (wc.heap[gb285]? = some (.cells #[(.slice A0_0 l0_0.length c0_0), (.slice A0_1 l0_1.length c0_1), (.slice A0_2 l0_2.length c0_2), (.slice A0_3 l0_3.length c0_3), .int .i64 a0_4] 27 (0, 0))) ∧ Aside0 (Below w.heap.size w wc))
  case first =>
   have H := HC7.out
   clear HC7
   by_cases c12 : t287 = true
   ·subst c12
    have H1 : (syntagmlaw14_StatesItems.j0 k l1 a2 true (decide ((l1.length : Int) > 30)) l0_0 l0_1 l0_2 l0_3 a0_4) = some r := by rw [if_pos rfl] at H; exact H
    clear H
    have H := H1
    clear H1
    have H' := jM H
    clear H
    go_wp2
    go_meet
    case rel => exact ⟨_, (decide ((l1.length : Int) > 30)), (by first | rfl | (simp; done) | (simp [*]; done)), H', ⟨by first | omega | exact Nat.le_refl _⟩, ⟨by (with_reducible repeat (first | refine jY ?_ _ | refine jZ ?_ | refine jX ?_ _)); exact BK285.out⟩, ⟨by repeat (first | (with_reducible first | exact HB.out | apply jA | apply jN | apply jD | refine jS ?_ GE285.out) | exact HB.out)⟩⟩
   ·replace c12 := Bool.eq_false_iff.mpr c12
    subst c12
    have H1 : (syntagmlaw14_StatesItems.j0 k l1 a2 true true l0_0 l0_1 l0_2 l0_3 a0_4) = some r := by rw [if_neg (show ¬ (false = true) by decide)] at H; exact H
    clear H
    have H := H1
    clear H1
    have H' := jM H
    clear H
    go_wp2
    go_meet
    case rel => exact ⟨_, (true), (by first | rfl | (simp; done) | (simp [*]; done)), H', ⟨by first | omega | exact Nat.le_refl _⟩, ⟨by (with_reducible repeat (first | refine jY ?_ _ | refine jZ ?_ | refine jX ?_ _)); exact BK285.out⟩, ⟨by repeat (first | (with_reducible first | exact HB.out | apply jA | apply jN | apply jD | refine jS ?_ GE285.out) | exact HB.out)⟩⟩
  case rest =>
   clear HC7
   try clear c1
   try clear p2
   try clear c3
   try clear c5
   try clear c12
   try clear hcz10_0
   try clear hcz10_1
   try clear hcz10_2
   try clear hcz10_3
   try clear hcz10_4
   try clear hfz10_0
   try clear hfz10_1
   try clear hfz10_2
   try clear hfz10_3
   try clear hfz10_4
   obtain ⟨kq, x26_6, rfl, HA, HJ6, BK285, HB⟩ := hcut
   cases kq with
   | zero => exact absurd HA.out (by simp [syntagmlaw14_StatesItems.j0])
   | succ kj6 =>
    have H := HA.out
    clear HA
    simp only [syntagmlaw14_StatesItems.j0] at H
    by_cases c13 : x26_6 = true
    ·subst c13
     have H1 : (some true) = some r := by rw [if_pos rfl] at H; exact H
     clear H
     have H := H1
     clear H1
     obtain rfl := Option.some.inj H
     go_wp2
     go_ret
     exact ⟨by first | rfl | (simp [errW_none, errW_some] <;> rfl) | (simp [*, errW_none, errW_some] <;> rfl), by repeat (first | (with_reducible first | exact HB.out | apply jA | apply jN | apply jD | refine jS ?_ GE285.out) | exact HB.out)⟩
    ·replace c13 := Bool.eq_false_iff.mpr c13
     subst c13
     have H1 : ((syntagmlaw14_Row.f kj6 l1).bind fun t288 => (syntagmlaw14_StatesItems.l0 kj6 l1 a2 true t288 0 l0_0 l0_1 l0_2 l0_3 a0_4)) = some r := by rw [if_neg (show ¬ (false = true) by decide)] at H; exact H
     clear H
     have H := H1
     clear H1
     replace H := Option.bind_eq_some_iff.mp H
     obtain ⟨t288, A140, H⟩ := H
     replace H : (syntagmlaw14_StatesItems.l0 kj6 l1 a2 true t288 0 l0_0 l0_1 l0_2 l0_3 a0_4) = some r := H
     have A14 := jM A140
     clear A140
     have H' := jM H
     clear H
     go_wp2_with (first | ((with_reducible refine gate_callee (f := 14) rfl ?_); refine goesL_ (some 29) rfl rfl Tryd.func14 (by kernel_rfl) rfl #[.slice A1 l1.length c1] rfl (by (try simp only [List.map_toArray, List.map_cons, List.map_nil]); first | done | rfl | (simp only [List.length_drop, List.length_take]; rfl)) ?_; (with_reducible refine (syntagmlaw14_Row.calls kj6 _ _ l1 t288 _ ?side1 ?side2 A14.out).mono ?_); (case side1 => repeat (first | exact (jB HR1.out HB.out) | (with_reducible refine Kd.C_alloc ?_ _) | (with_reducible refine Kd.C_drewN ?_ _) | (with_reducible refine Kd.C_drew ?_))); (case side2 => exact HC1.out); rintro e w15 ⟨v289, rfl, ho0, hb⟩; refine ⟨_, rfl, ?_⟩; have n0_ := jM (Kd.R_lower ho0 (below_size (by repeat (first | (with_reducible first | exact HB.out | apply jA | apply jN | apply jD | refine jS ?_ GE285.out) | exact HB.out)))); have n1_ := jM (jW (g := gb285) (o := .cells #[.slice A0_0 l0_0.length c0_0, .slice A0_1 l0_1.length c0_1, .slice A0_2 l0_2.length c0_2, .slice A0_3 l0_3.length c0_3, .int .i64 a0_4] 27 (0, 0)) (by (with_reducible repeat (first | refine jY ?_ _ | refine jZ ?_ | refine jX ?_ _)); exact BK285.out) hb); have n2_ := jM (jT (by repeat (first | (with_reducible first | exact HB.out | apply jA | apply jN | apply jD | refine jS ?_ GE285.out) | exact HB.out)) hb); clear BK285; clear HB; have HO290 := n0_; have BK285 := n1_; have HB := n2_; clear n0_ n1_ n2_; (try clear hb); (try clear hb2); (try clear hk); (try clear hi); (try clear ho0)))
     go_loopg [10] kj6 (fun kq v10 w' => ∃ (x10_2 : Int), v10 = .int .i64 x10_2 ∧ Aside0 (syntagmlaw14_StatesItems.l0 kq l1 a2 true t288 x10_2 l0_0 l0_1 l0_2 l0_3 a0_4 = some r) ∧ Aside0 (kq ≤ kj6) ∧ Aside0 (Kd.R k39 39 w' w.heap.size (fun _ => True) v289 t288) ∧ Aside0 (w'.heap[gb285]? = some (.cells #[(.slice A0_0 l0_0.length c0_0), (.slice A0_1 l0_1.length c0_1), (.slice A0_2 l0_2.length c0_2), (.slice A0_3 l0_3.length c0_3), .int .i64 a0_4] 27 (0, 0))) ∧ Aside0 (Below w.heap.size w w'))
     case atStart => exact ⟨(0), (by first | rfl | (simp; done) | (simp [*]; done)), H', ⟨Nat.le_refl _⟩, ⟨by (with_reducible repeat (first | apply Kd.R_alloc | apply Kd.R_drewN | apply Kd.R_drew)); exact HO290.out⟩, ⟨by (with_reducible repeat (first | refine jY ?_ _ | refine jZ ?_ | refine jX ?_ _)); exact BK285.out⟩, ⟨by repeat (first | (with_reducible first | exact HB.out | apply jA | apply jN | apply jD | refine jS ?_ GE285.out) | exact HB.out)⟩⟩
     case round =>
      clear H'
      try clear c1
      try clear p2
      try clear c3
      try clear c5
      try clear c12
      try clear c13
      try clear c14
      try clear hcz10_0
      try clear hcz10_1
      try clear hcz10_2
      try clear hcz10_3
      try clear hcz10_4
      try clear hfz10_0
      try clear hfz10_1
      try clear hfz10_2
      try clear hfz10_3
      try clear hfz10_4
      try clear p2
      obtain ⟨x10_2, rfl, HA, HK2, HO_9, BK285, HB⟩ := hrel
      cases gk with
      | zero => exact absurd HA.out (by simp [syntagmlaw14_StatesItems.l0])
      | succ k2 =>
       have H := HA.out
       clear HA
       simp only [syntagmlaw14_StatesItems.l0] at H
       by_cases c16 : x10_2 < (l1.length : Int)
       ·rw [if_pos c16] at H
        have c16b0 : decide (x10_2 < (l1.length : Int)) = true := decide_eq_true c16
        clear c16
        by_cases c17 : 0 ≤ x10_2
        ·rw [if_pos c17] at H
         have c17b0 : decide (0 ≤ x10_2) = true := decide_eq_true c17
         clear c17
         replace H := Option.bind_eq_some_iff.mp H
         obtain ⟨⟨t292, t293⟩, A180, H⟩ := H
         replace H : (if x10_2 < (t288.length : Int) then ((syntagmref14_Behind.f l0_0 l0_1 l0_2 l0_3 a0_4 ((rd_T39 t288 x10_2).f0) ((rd_T39 t288 x10_2).f1)).bind fun bt295 => (if t292 = bt295.1 then (if (t293 != bt295.2) = true then (some false) else (syntagmlaw14_StatesItems.l0 k2 l1 a2 true t288 (wrap64 (x10_2 + 1)) l0_0 l0_1 l0_2 l0_3 a0_4)) else (some false))) else (none)) = some r := H
         have A18 := jM A180
         clear A180
         by_cases c19 : x10_2 < (t288.length : Int)
         ·rw [if_pos c19] at H
          have c19b0 : decide (x10_2 < (t288.length : Int)) = true := decide_eq_true c19
          clear c19
          replace H := Option.bind_eq_some_iff.mp H
          obtain ⟨⟨t295, t296⟩, A200, H⟩ := H
          replace H : (if t292 = t295 then (if (t293 != t296) = true then (some false) else (syntagmlaw14_StatesItems.l0 k2 l1 a2 true t288 (wrap64 (x10_2 + 1)) l0_0 l0_1 l0_2 l0_3 a0_4)) else (some false)) = some r := H
          have A20 := jM A200
          clear A200
          by_cases c21 : t292 = t295
          ·rw [if_pos c21] at H
           have c21b0 : (t292 == t295) = true := beq_iff_eq.mpr c21
           have c21b1 : (t292 != t295) = false := bne_eq_false_iff_eq.mpr c21
           clear c21
           by_cases c22 : (t293 != t296) = true
           ·rw [if_pos c22] at H
            have c22b0 : (t293 != t296) = true := c22
            (try (have c22b1 : decide (t293 = t296) = false := by simpa using c22))
            (try (have c22b2 : (t293 == t296) = false := by simpa using c22))
            (try (have c22b3 : ¬ (t293 = t296) := by simpa using c22))
            clear c22
            exact absurd ((Option.some.inj H).trans HT.out) (by decide)
           ·rw [if_neg c22] at H
            have c22b0 : (t293 != t296) = false := by simpa using c22
            (try (have c22b1 : decide (t293 = t296) = true := by simpa using c22))
            (try (have c22b2 : (t293 == t296) = true := by simpa using c22))
            clear c22
            have H' := jM H
            clear H
            try go_wp2
            have n0_ := jM (Kd.R_drew HO_9.out)
            have n1_ := jM (jZ BK285.out)
            have n2_ := jM (jD HB.out)
            clear HO_9
            clear BK285
            clear HB
            have HO_9 := n0_
            have BK285 := n1_
            have HB := n2_
            clear n0_ n1_ n2_
            have p291 : 0 ≤ (x10_2 : Int) := of_decide_eq_true (by first | (with_reducible assumption) | assumption)
            have q291 : x10_2 < (l1.length : Int) := of_decide_eq_true (by first | (with_reducible assumption) | assumption)
            obtain ⟨ad291, e291, hx291_0, hx291_1⟩ := at_T37 HR1.out x10_2 p291 q291
            have hw291_1 := hx291_1
            have hw291_0 := hx291_0
            cases e291
            replace hx291_0 := (HB.out.cell (jL w _ hx291_0)).trans hx291_0
            replace hx291_1 := (HB.out.cell (jL w _ hx291_1)).trans hx291_1
            replace p291 := eq_true p291
            replace q291 := eq_true q291
            refine start_ (n := 11) (S := fun w' => w'.cell? ⟨gb285, 0, none⟩ = some (.slice A0_0 l0_0.length c0_0) ∧ w'.cell? ⟨gb285, 1, none⟩ = some (.slice A0_1 l0_1.length c0_1) ∧ w'.cell? ⟨gb285, 2, none⟩ = some (.slice A0_2 l0_2.length c0_2) ∧ w'.cell? ⟨gb285, 3, none⟩ = some (.slice A0_3 l0_3.length c0_3) ∧ w'.cell? ⟨gb285, 4, none⟩ = some (.int .i64 a0_4) ∧ w'.cell? (ad291.add ((x10_2).toNat * 2)) = some (.int .i64 ((rd_T37 l1 x10_2).f0)) ∧ w'.cell? ⟨(ad291.add ((x10_2).toNat * 2)).block, (ad291.add ((x10_2).toNat * 2)).off + 1, none⟩ = some (.int .i64 ((rd_T37 l1 x10_2).f1))) (ds := []) (tf 0 11) (by kernel_rfl) rfl rfl ⟨(jC BK285.out 0).trans rfl, (jC BK285.out 1).trans rfl, (jC BK285.out 2).trans rfl, (jC BK285.out 3).trans rfl, (jC BK285.out 4).trans rfl, ((HB.out.cell (jL w _ hw291_0)).trans hw291_0), ((HB.out.cell (jL w _ hw291_1)).trans hw291_1)⟩ (fun hHeld => ?_); refine with_tabW syntagmlaw14_StatesItems.tab11 syntagmlaw14_StatesItems.bits11 (fun HT_ HW_ => ?_)
            generalize wr.drew = w23 at HO_9 BK285 HB hx291_0 hx291_1 hHeld ⊢
            refine pure_ (i := 1) (N := some 38) (v := ?_) (a' := ?_) #[false, true, false, false, false, false, false, false, false, false, false] rfl rfl (any_of HT_.out (by kernel_rfl)) (fun _ _ _ h => h) (Or.inl ⟨by rfl, ?_⟩) ?_ ?_
            rotate_left
            ·intro w';go_simp;with_reducible rfl
            rotate_left
            ·simp only [Act.put, sA, i64_w, i32_w];rfl
            refine pure_ (i := 2) (N := some 39) (v := ?_) (a' := ?_) #[false, true, true, false, false, false, false, false, false, false, false] rfl rfl (any_of HT_.out (by kernel_rfl)) (fun _ _ _ h => h) (Or.inl ⟨by rfl, ?_⟩) ?_ ?_
            rotate_left
            ·intro w';go_simp;with_reducible rfl
            rotate_left
            ·simp only [Act.put, sA, i64_w, i32_w];rfl
            refine pure_ (i := 3) (N := some 40) (v := ?_) (a' := ?_) #[false, true, true, true, false, false, false, false, false, false, false] rfl rfl (any_of HT_.out (by kernel_rfl)) (fun _ _ _ h => h) (Or.inl ⟨by rfl, ?_⟩) ?_ ?_
            rotate_left
            ·intro w';go_simp;with_reducible rfl
            rotate_left
            ·simp only [Act.put, sA, i64_w, i32_w];rfl
            refine take_ (i := 0) (N := some 37) (v := ?_) (a' := ?_) (tf 4 7) rfl rfl (take_ofW HT_.out HW_.out (by kernel_rfl)) (fun _ _ _ h => h) (Or.inl ⟨by rfl, ?_⟩) hHeld ?_ ?_
            rotate_left
            ·rintro w' ⟨s0, s1, s2, s3, s4, s5, s6⟩;go_simp;with_reducible rfl
            rotate_left
            ·simp only [Act.put, sA, i64_w, i32_w];rfl
            refine take_ (i := 4) (N := some 41) (v := ?_) (a' := ?_) (tf 5 6) rfl rfl (take_ofW HT_.out HW_.out (by kernel_rfl)) (fun _ _ _ h => h) (Or.inl ⟨by rfl, ?_⟩) hHeld ?_ ?_
            rotate_left
            ·rintro w' ⟨s0, s1, s2, s3, s4, s5, s6⟩;go_simp;with_reducible rfl
            rotate_left
            ·simp only [Act.put, sA, i64_w, i32_w];rfl
            refine one_ (i := 5) (N := some 42) (tf 6 5) rfl rfl (one_of HT_.out (by kernel_rfl)) (by decide) (fun K hK => ?_)
            refine goes_ Tryd.func15 (by kernel_rfl) rfl #[.agg #[.slice A0_0 l0_0.length c0_0, .slice A0_1 l0_1.length c0_1, .slice A0_2 l0_2.length c0_2, .slice A0_3 l0_3.length c0_3, .int .i64 a0_4], .agg #[.int .i64 ((rd_T37 l1 x10_2).f0), .int .i64 ((rd_T37 l1 x10_2).f1)]] (by rfl) rfl rfl (by (try simp only [List.map_toArray, List.map_cons, List.map_nil]); first | done | rfl | (simp only [List.length_drop, List.length_take]; rfl)) ?_
            with_reducible refine (states_Behind.calls _ _ l0_0 _ _ l0_1 _ _ l0_2 _ _ l0_3 a0_4 ((rd_T37 l1 x10_2).f0) ((rd_T37 l1 x10_2).f1) t292 t293 _ ?side1 ?side2 ?side3 ?side4 ?side5 ?side6 ?side7 ?side8 A18.out).mono ?_
            (case side1 => repeat (first | exact (jB HR0_0.out HB.out) | (with_reducible refine Kd.C_alloc ?_ _) | (with_reducible refine Kd.C_drewN ?_ _) | (with_reducible refine Kd.C_drew ?_)))
            (case side2 => exact HC0_0.out)
            (case side3 => repeat (first | exact (jB HR0_1.out HB.out) | (with_reducible refine Kd.C_alloc ?_ _) | (with_reducible refine Kd.C_drewN ?_ _) | (with_reducible refine Kd.C_drew ?_)))
            (case side4 => exact HC0_1.out)
            (case side5 => repeat (first | exact (jB HR0_2.out HB.out) | (with_reducible refine Kd.C_alloc ?_ _) | (with_reducible refine Kd.C_drewN ?_ _) | (with_reducible refine Kd.C_drew ?_)))
            (case side6 => exact HC0_2.out)
            (case side7 => repeat (first | exact (jB HR0_3.out HB.out) | (with_reducible refine Kd.C_alloc ?_ _) | (with_reducible refine Kd.C_drewN ?_ _) | (with_reducible refine Kd.C_drew ?_)))
            (case side8 => exact HC0_3.out)
            rintro e w24 ⟨rfl, hb⟩
            refine ⟨_, rfl, ?_⟩
            have n0_ := jM (Kd.R_below (by (with_reducible repeat (first | apply Kd.R_alloc | apply Kd.R_drewN | apply Kd.R_drew)); exact HO_9.out) hb)
            have n1_ := jM (jW (g := gb285) (o := .cells #[.slice A0_0 l0_0.length c0_0, .slice A0_1 l0_1.length c0_1, .slice A0_2 l0_2.length c0_2, .slice A0_3 l0_3.length c0_3, .int .i64 a0_4] 27 (0, 0)) (by (with_reducible repeat (first | refine jY ?_ _ | refine jZ ?_ | refine jX ?_ _)); exact BK285.out) hb)
            have n2_ := jM (jT (by repeat (first | (with_reducible first | exact HB.out | apply jA | apply jN | apply jD | refine jS ?_ GE285.out) | exact HB.out)) hb)
            clear HO_9
            clear BK285
            clear HB
            have HO_9 := n0_
            have BK285 := n1_
            have HB := n2_
            clear n0_ n1_ n2_
            (try clear hb)
            (try clear hb2)
            (try clear hk)
            (try clear hi)
            refine hK.out _ _ ⟨(jC BK285.out 0).trans rfl, (jC BK285.out 1).trans rfl, (jC BK285.out 2).trans rfl, (jC BK285.out 3).trans rfl, (jC BK285.out 4).trans rfl, ((HB.out.cell (jL w _ hw291_0)).trans hw291_0), ((HB.out.cell (jL w _ hw291_1)).trans hw291_1)⟩ (fun hHeld => ?_)
            clear hK K
            refine norm_ (a' := ?_) ?_ ?_
            rotate_left
            ·show Act.put _ (some 42) _ = _
             simp only [Act.put, sA, i64_w, i32_w]
             rfl
            refine pure_ (i := 6) (N := some 36) (v := ?_) (a' := ?_) (tf 7 4) rfl rfl (any_of HT_.out (by kernel_rfl)) (fun _ _ _ h => h) (Or.inl ⟨by rfl, ?_⟩) ?_ ?_
            rotate_left
            ·intro w';go_simp;with_reducible rfl
            rotate_left
            ·simp only [Act.put, sA, i64_w, i32_w];rfl
            refine pure_ (i := 7) (N := some 43) (v := ?_) (a' := ?_) (tf 8 3) rfl rfl (any_of HT_.out (by kernel_rfl)) (fun _ _ _ h => h) (Or.inl ⟨by rfl, ?_⟩) ?_ ?_
            rotate_left
            ·intro w';go_simp;with_reducible rfl
            rotate_left
            ·simp only [Act.put, sA, i64_w, i32_w];rfl
            refine pure_ (i := 8) (N := some 44) (v := ?_) (a' := ?_) (tf 9 2) rfl rfl (any_of HT_.out (by kernel_rfl)) (fun _ _ _ h => h) (Or.inl ⟨by rfl, ?_⟩) ?_ ?_
            rotate_left
            ·intro w';go_simp;with_reducible rfl
            rotate_left
            ·simp only [Act.put, sA, i64_w, i32_w];rfl
            refine pure_ (i := 9) (N := some 11) (v := ?_) (a' := ?_) (tf 10 1) rfl rfl (any_of HT_.out (by kernel_rfl)) (fun _ _ _ h => h) (Or.inl ⟨by rfl, ?_⟩) ?_ ?_
            rotate_left
            ·intro w';go_simp;with_reducible rfl
            rotate_left
            ·simp only [Act.put, sA, i64_w, i32_w];rfl
            refine pure_ (i := 10) (N := some 12) (v := ?_) (a' := ?_) (tf 11 0) rfl rfl (any_of HT_.out (by kernel_rfl)) (fun _ _ _ h => h) (Or.inl ⟨by rfl, ?_⟩) ?_ ?_
            rotate_left
            ·intro w';go_simp;with_reducible rfl
            rotate_left
            ·simp only [Act.put, sA, i64_w, i32_w];rfl
            refine done_ (done_of HT_.out (by kernel_rfl)) ?_
            try go_wp2
            have n0_ := jM (Kd.R_drew HO_9.out)
            have n1_ := jM (jZ BK285.out)
            have n2_ := jM (jD HB.out)
            clear HO_9
            clear BK285
            clear HB
            have HO_9 := n0_
            have BK285 := n1_
            have HB := n2_
            clear n0_ n1_ n2_
            obtain ⟨Ao26, co26, eo26⟩ := Kd.R_slice HO_9.out
            (first | subst eo26 | (injection eo26 with f1_ f2_ f3_; have f4_ := f1_.symm; have f5_ := f3_.symm; clear f1_ f2_ f3_; subst f4_; subst f5_))
            have p294 : 0 ≤ (x10_2 : Int) := of_decide_eq_true (by first | (with_reducible assumption) | assumption)
            have q294 : x10_2 < (t288.length : Int) := of_decide_eq_true (by first | (with_reducible assumption) | assumption)
            obtain ⟨ad294, e294, hx294_0, hx294_1⟩ := at_T39 (Kd.R_reads' HO_9.out).2.2 x10_2 p294 q294
            cases e294
            replace p294 := eq_true p294
            replace q294 := eq_true q294
            refine start_ (n := 11) (S := fun w' => w'.cell? ⟨gb285, 0, none⟩ = some (.slice A0_0 l0_0.length c0_0) ∧ w'.cell? ⟨gb285, 1, none⟩ = some (.slice A0_1 l0_1.length c0_1) ∧ w'.cell? ⟨gb285, 2, none⟩ = some (.slice A0_2 l0_2.length c0_2) ∧ w'.cell? ⟨gb285, 3, none⟩ = some (.slice A0_3 l0_3.length c0_3) ∧ w'.cell? ⟨gb285, 4, none⟩ = some (.int .i64 a0_4) ∧ w'.cell? (ad294.add ((x10_2).toNat * 2)) = some (.int .i64 ((rd_T39 t288 x10_2).f0)) ∧ w'.cell? ⟨(ad294.add ((x10_2).toNat * 2)).block, (ad294.add ((x10_2).toNat * 2)).off + 1, none⟩ = some (.int .i64 ((rd_T39 t288 x10_2).f1))) (ds := []) (tf 0 11) (by kernel_rfl) rfl rfl ⟨(jC BK285.out 0).trans rfl, (jC BK285.out 1).trans rfl, (jC BK285.out 2).trans rfl, (jC BK285.out 3).trans rfl, (jC BK285.out 4).trans rfl, hx294_0, hx294_1⟩ (fun hHeld => ?_); refine with_tabW syntagmlaw14_StatesItems.tab12 syntagmlaw14_StatesItems.bits12 (fun HT_ HW_ => ?_)
            generalize w24.drew = w25 at HO_9 BK285 HB hx294_0 hx294_1 hHeld ⊢
            refine pure_ (i := 1) (N := some 47) (v := ?_) (a' := ?_) #[false, true, false, false, false, false, false, false, false, false, false] rfl rfl (any_of HT_.out (by kernel_rfl)) (fun _ _ _ h => h) (Or.inl ⟨by rfl, ?_⟩) ?_ ?_
            rotate_left
            ·intro w';go_simp;with_reducible rfl
            rotate_left
            ·simp only [Act.put, sA, i64_w, i32_w];rfl
            refine pure_ (i := 2) (N := some 48) (v := ?_) (a' := ?_) #[false, true, true, false, false, false, false, false, false, false, false] rfl rfl (any_of HT_.out (by kernel_rfl)) (fun _ _ _ h => h) (Or.inl ⟨by rfl, ?_⟩) ?_ ?_
            rotate_left
            ·intro w';go_simp;with_reducible rfl
            rotate_left
            ·simp only [Act.put, sA, i64_w, i32_w];rfl
            refine pure_ (i := 3) (N := some 49) (v := ?_) (a' := ?_) #[false, true, true, true, false, false, false, false, false, false, false] rfl rfl (any_of HT_.out (by kernel_rfl)) (fun _ _ _ h => h) (Or.inl ⟨by rfl, ?_⟩) ?_ ?_
            rotate_left
            ·intro w';go_simp;with_reducible rfl
            rotate_left
            ·simp only [Act.put, sA, i64_w, i32_w];rfl
            refine take_ (i := 0) (N := some 46) (v := ?_) (a' := ?_) (tf 4 7) rfl rfl (take_ofW HT_.out HW_.out (by kernel_rfl)) (fun _ _ _ h => h) (Or.inl ⟨by rfl, ?_⟩) hHeld ?_ ?_
            rotate_left
            ·rintro w' ⟨s0, s1, s2, s3, s4, s5, s6⟩;go_simp;with_reducible rfl
            rotate_left
            ·simp only [Act.put, sA, i64_w, i32_w];rfl
            refine take_ (i := 4) (N := some 50) (v := ?_) (a' := ?_) (tf 5 6) rfl rfl (take_ofW HT_.out HW_.out (by kernel_rfl)) (fun _ _ _ h => h) (Or.inl ⟨by rfl, ?_⟩) hHeld ?_ ?_
            rotate_left
            ·rintro w' ⟨s0, s1, s2, s3, s4, s5, s6⟩;go_simp;with_reducible rfl
            rotate_left
            ·simp only [Act.put, sA, i64_w, i32_w];rfl
            refine one_ (i := 5) (N := some 51) (tf 6 5) rfl rfl (one_of HT_.out (by kernel_rfl)) (by decide) (fun K hK => ?_)
            refine goes_ Tryd.func16 (by kernel_rfl) rfl #[.agg #[.slice A0_0 l0_0.length c0_0, .slice A0_1 l0_1.length c0_1, .slice A0_2 l0_2.length c0_2, .slice A0_3 l0_3.length c0_3, .int .i64 a0_4], .agg #[.int .i64 ((rd_T39 t288 x10_2).f0), .int .i64 ((rd_T39 t288 x10_2).f1)]] (by rfl) rfl rfl (by (try simp only [List.map_toArray, List.map_cons, List.map_nil]); first | done | rfl | (simp only [List.length_drop, List.length_take]; rfl)) ?_
            with_reducible refine (syntagmref14_Behind.calls _ _ l0_0 _ _ l0_1 _ _ l0_2 _ _ l0_3 a0_4 ((rd_T39 t288 x10_2).f0) ((rd_T39 t288 x10_2).f1) t295 t296 _ ?side1 ?side2 ?side3 ?side4 ?side5 ?side6 ?side7 ?side8 A20.out).mono ?_
            (case side1 => repeat (first | exact (jB HR0_0.out HB.out) | (with_reducible refine Kd.C_alloc ?_ _) | (with_reducible refine Kd.C_drewN ?_ _) | (with_reducible refine Kd.C_drew ?_)))
            (case side2 => exact HC0_0.out)
            (case side3 => repeat (first | exact (jB HR0_1.out HB.out) | (with_reducible refine Kd.C_alloc ?_ _) | (with_reducible refine Kd.C_drewN ?_ _) | (with_reducible refine Kd.C_drew ?_)))
            (case side4 => exact HC0_1.out)
            (case side5 => repeat (first | exact (jB HR0_2.out HB.out) | (with_reducible refine Kd.C_alloc ?_ _) | (with_reducible refine Kd.C_drewN ?_ _) | (with_reducible refine Kd.C_drew ?_)))
            (case side6 => exact HC0_2.out)
            (case side7 => repeat (first | exact (jB HR0_3.out HB.out) | (with_reducible refine Kd.C_alloc ?_ _) | (with_reducible refine Kd.C_drewN ?_ _) | (with_reducible refine Kd.C_drew ?_)))
            (case side8 => exact HC0_3.out)
            rintro e w27 ⟨rfl, hb⟩
            have HS5_ := (hb.cell (jL _ _ (hHeld.2.2.2.2.2.1))).trans (hHeld.2.2.2.2.2.1)
            have HS6_ := (hb.cell (jL _ _ (hHeld.2.2.2.2.2.2))).trans (hHeld.2.2.2.2.2.2)
            refine ⟨_, rfl, ?_⟩
            have n0_ := jM (Kd.R_below (by (with_reducible repeat (first | apply Kd.R_alloc | apply Kd.R_drewN | apply Kd.R_drew)); exact HO_9.out) hb)
            have n1_ := jM (jW (g := gb285) (o := .cells #[.slice A0_0 l0_0.length c0_0, .slice A0_1 l0_1.length c0_1, .slice A0_2 l0_2.length c0_2, .slice A0_3 l0_3.length c0_3, .int .i64 a0_4] 27 (0, 0)) (by (with_reducible repeat (first | refine jY ?_ _ | refine jZ ?_ | refine jX ?_ _)); exact BK285.out) hb)
            have n2_ := jM (jT (by repeat (first | (with_reducible first | exact HB.out | apply jA | apply jN | apply jD | refine jS ?_ GE285.out) | exact HB.out)) hb)
            clear HO_9
            clear BK285
            clear HB
            have HO_9 := n0_
            have BK285 := n1_
            have HB := n2_
            clear n0_ n1_ n2_
            (try clear hb)
            (try clear hb2)
            (try clear hk)
            (try clear hi)
            refine hK.out _ _ ⟨(jC BK285.out 0).trans rfl, (jC BK285.out 1).trans rfl, (jC BK285.out 2).trans rfl, (jC BK285.out 3).trans rfl, (jC BK285.out 4).trans rfl, HS5_, HS6_⟩ (fun hHeld => ?_)
            clear hK K
            refine norm_ (a' := ?_) ?_ ?_
            rotate_left
            ·show Act.put _ (some 51) _ = _
             simp only [Act.put, sA, i64_w, i32_w]
             rfl
            refine pure_ (i := 6) (N := some 45) (v := ?_) (a' := ?_) (tf 7 4) rfl rfl (any_of HT_.out (by kernel_rfl)) (fun _ _ _ h => h) (Or.inl ⟨by rfl, ?_⟩) ?_ ?_
            rotate_left
            ·intro w';go_simp;with_reducible rfl
            rotate_left
            ·simp only [Act.put, sA, i64_w, i32_w];rfl
            refine pure_ (i := 7) (N := some 52) (v := ?_) (a' := ?_) (tf 8 3) rfl rfl (any_of HT_.out (by kernel_rfl)) (fun _ _ _ h => h) (Or.inl ⟨by rfl, ?_⟩) ?_ ?_
            rotate_left
            ·intro w';go_simp;with_reducible rfl
            rotate_left
            ·simp only [Act.put, sA, i64_w, i32_w];rfl
            refine pure_ (i := 8) (N := some 53) (v := ?_) (a' := ?_) (tf 9 2) rfl rfl (any_of HT_.out (by kernel_rfl)) (fun _ _ _ h => h) (Or.inl ⟨by rfl, ?_⟩) ?_ ?_
            rotate_left
            ·intro w';go_simp;with_reducible rfl
            rotate_left
            ·simp only [Act.put, sA, i64_w, i32_w];rfl
            refine pure_ (i := 9) (N := some 13) (v := ?_) (a' := ?_) (tf 10 1) rfl rfl (any_of HT_.out (by kernel_rfl)) (fun _ _ _ h => h) (Or.inl ⟨by rfl, ?_⟩) ?_ ?_
            rotate_left
            ·intro w';go_simp;with_reducible rfl
            rotate_left
            ·simp only [Act.put, sA, i64_w, i32_w];rfl
            refine pure_ (i := 10) (N := some 14) (v := ?_) (a' := ?_) (tf 11 0) rfl rfl (any_of HT_.out (by kernel_rfl)) (fun _ _ _ h => h) (Or.inl ⟨by rfl, ?_⟩) ?_ ?_
            rotate_left
            ·intro w';go_simp;with_reducible rfl
            rotate_left
            ·simp only [Act.put, sA, i64_w, i32_w];rfl
            refine done_ (done_of HT_.out (by kernel_rfl)) ?_
            try go_wp2
            go_roundg k2
            case measure => have := HJ6.out; have := HK2.out; omega
            case rel => exact ⟨(wrap64 (x10_2 + 1)), (by first | rfl | (simp; done) | (simp [*]; done)), H', ⟨by have := HJ6.out; have := HK2.out; omega⟩, ⟨by (with_reducible repeat (first | apply Kd.R_alloc | apply Kd.R_drewN | apply Kd.R_drew)); exact HO_9.out⟩, ⟨by (with_reducible repeat (first | refine jY ?_ _ | refine jZ ?_ | refine jX ?_ _)); exact BK285.out⟩, ⟨by repeat (first | (with_reducible first | exact HB.out | apply jA | apply jN | apply jD | refine jS ?_ GE285.out) | exact HB.out)⟩⟩
          ·rw [if_neg c21] at H
           have c21b0 : (t292 == t295) = false := beq_eq_false_iff_ne.mpr c21
           have c21b1 : (t292 != t295) = true := bne_iff_ne.mpr c21
           exact absurd ((Option.some.inj H).trans HT.out) (by decide)
         ·rw [if_neg c19] at H
          exact absurd H (by simp)
        ·rw [if_neg c17] at H
         exact absurd H (by simp)
       ·rw [if_neg c16] at H
        have c16b0 : decide (x10_2 < (l1.length : Int)) = false := decide_eq_false c16
        clear c16
        replace H : ((states_Close.f l0_0 l0_1 l0_2 l0_3 a0_4 l1).bind fun t297 => ((syntagmlaw14_Row.f k2 t297).bind fun t300 => ((syntagmref14_Close.f k2 l0_0 l0_1 l0_2 l0_3 a0_4 t288).bind fun t303 => ((syntagmref14_Row.f k2 t300 t303).bind fun t306 => (if t306 = true then ((states_Step.f l0_0 l0_1 l0_2 l0_3 a0_4 l1 a2).bind fun t307 => ((syntagmlaw14_Row.f k2 t307).bind fun t310 => ((syntagmref14_Step.f k2 l0_0 l0_1 l0_2 l0_3 a0_4 t288 a2).bind fun t313 => ((syntagmref14_Row.f k2 t310 t313).bind fun t316 => (some t316))))) else (some false)))))) = some r := by first | (rw [if_pos rfl] at H; exact H) | (rw [if_pos trivial] at H; exact H)
        replace H := Option.bind_eq_some_iff.mp H
        obtain ⟨t297, A280, H⟩ := H
        replace H : ((syntagmlaw14_Row.f k2 t297).bind fun t300 => ((syntagmref14_Close.f k2 l0_0 l0_1 l0_2 l0_3 a0_4 t288).bind fun t303 => ((syntagmref14_Row.f k2 t300 t303).bind fun t306 => (if t306 = true then ((states_Step.f l0_0 l0_1 l0_2 l0_3 a0_4 l1 a2).bind fun t307 => ((syntagmlaw14_Row.f k2 t307).bind fun t310 => ((syntagmref14_Step.f k2 l0_0 l0_1 l0_2 l0_3 a0_4 t288 a2).bind fun t313 => ((syntagmref14_Row.f k2 t310 t313).bind fun t316 => (some t316))))) else (some false))))) = some r := H
        have A28 := jM A280
        clear A280
        replace H := Option.bind_eq_some_iff.mp H
        obtain ⟨t300, A290, H⟩ := H
        replace H : ((syntagmref14_Close.f k2 l0_0 l0_1 l0_2 l0_3 a0_4 t288).bind fun t303 => ((syntagmref14_Row.f k2 t300 t303).bind fun t306 => (if t306 = true then ((states_Step.f l0_0 l0_1 l0_2 l0_3 a0_4 l1 a2).bind fun t307 => ((syntagmlaw14_Row.f k2 t307).bind fun t310 => ((syntagmref14_Step.f k2 l0_0 l0_1 l0_2 l0_3 a0_4 t288 a2).bind fun t313 => ((syntagmref14_Row.f k2 t310 t313).bind fun t316 => (some t316))))) else (some false)))) = some r := H
        have A29 := jM A290
        clear A290
        replace H := Option.bind_eq_some_iff.mp H
        obtain ⟨t303, A300, H⟩ := H
        replace H : ((syntagmref14_Row.f k2 t300 t303).bind fun t306 => (if t306 = true then ((states_Step.f l0_0 l0_1 l0_2 l0_3 a0_4 l1 a2).bind fun t307 => ((syntagmlaw14_Row.f k2 t307).bind fun t310 => ((syntagmref14_Step.f k2 l0_0 l0_1 l0_2 l0_3 a0_4 t288 a2).bind fun t313 => ((syntagmref14_Row.f k2 t310 t313).bind fun t316 => (some t316))))) else (some false))) = some r := H
        have A30 := jM A300
        clear A300
        replace H := Option.bind_eq_some_iff.mp H
        obtain ⟨t306, A310, H⟩ := H
        replace H : (if t306 = true then ((states_Step.f l0_0 l0_1 l0_2 l0_3 a0_4 l1 a2).bind fun t307 => ((syntagmlaw14_Row.f k2 t307).bind fun t310 => ((syntagmref14_Step.f k2 l0_0 l0_1 l0_2 l0_3 a0_4 t288 a2).bind fun t313 => ((syntagmref14_Row.f k2 t310 t313).bind fun t316 => (some t316))))) else (some false)) = some r := H
        have A31 := jM A310
        clear A310
        by_cases c32 : t306 = true
        ·subst c32
         have H1 : ((states_Step.f l0_0 l0_1 l0_2 l0_3 a0_4 l1 a2).bind fun t307 => ((syntagmlaw14_Row.f k2 t307).bind fun t310 => ((syntagmref14_Step.f k2 l0_0 l0_1 l0_2 l0_3 a0_4 t288 a2).bind fun t313 => ((syntagmref14_Row.f k2 t310 t313).bind fun t316 => (some t316))))) = some r := by rw [if_pos rfl] at H; exact H
         clear H
         have H := H1
         clear H1
         replace H := Option.bind_eq_some_iff.mp H
         obtain ⟨t307, A330, H⟩ := H
         replace H : ((syntagmlaw14_Row.f k2 t307).bind fun t310 => ((syntagmref14_Step.f k2 l0_0 l0_1 l0_2 l0_3 a0_4 t288 a2).bind fun t313 => ((syntagmref14_Row.f k2 t310 t313).bind fun t316 => (some t316)))) = some r := H
         have A33 := jM A330
         clear A330
         replace H := Option.bind_eq_some_iff.mp H
         obtain ⟨t310, A340, H⟩ := H
         replace H : ((syntagmref14_Step.f k2 l0_0 l0_1 l0_2 l0_3 a0_4 t288 a2).bind fun t313 => ((syntagmref14_Row.f k2 t310 t313).bind fun t316 => (some t316))) = some r := H
         have A34 := jM A340
         clear A340
         replace H := Option.bind_eq_some_iff.mp H
         obtain ⟨t313, A350, H⟩ := H
         replace H : ((syntagmref14_Row.f k2 t310 t313).bind fun t316 => (some t316)) = some r := H
         have A35 := jM A350
         clear A350
         replace H := Option.bind_eq_some_iff.mp H
         obtain ⟨t316, A360, H⟩ := H
         replace H : (some t316) = some r := H
         have A36 := jM A360
         clear A360
         obtain rfl := Option.some.inj H
         try go_wp2
         have n0_ := jM (Kd.R_drew HO_9.out)
         have n1_ := jM (jZ BK285.out)
         have n2_ := jM (jD HB.out)
         clear HO_9
         clear BK285
         clear HB
         have HO_9 := n0_
         have BK285 := n1_
         have HB := n2_
         clear n0_ n1_ n2_
         refine start_ (n := 24) (S := fun w' => w'.cell? ⟨gb285, 0, none⟩ = some (.slice A0_0 l0_0.length c0_0) ∧ w'.cell? ⟨gb285, 1, none⟩ = some (.slice A0_1 l0_1.length c0_1) ∧ w'.cell? ⟨gb285, 2, none⟩ = some (.slice A0_2 l0_2.length c0_2) ∧ w'.cell? ⟨gb285, 3, none⟩ = some (.slice A0_3 l0_3.length c0_3) ∧ w'.cell? ⟨gb285, 4, none⟩ = some (.int .i64 a0_4)) (ds := []) (tf 0 24) (by kernel_rfl) rfl rfl ⟨(jC BK285.out 0).trans rfl, (jC BK285.out 1).trans rfl, (jC BK285.out 2).trans rfl, (jC BK285.out 3).trans rfl, (jC BK285.out 4).trans rfl⟩ (fun hHeld => ?_); refine with_tabW syntagmlaw14_StatesItems.tab15 syntagmlaw14_StatesItems.bits15 (fun HT_ HW_ => ?_)
         generalize wr.drew = w37 at HO_9 BK285 HB hHeld ⊢
         refine pure_ (i := 0) (N := some 62) (v := ?_) (a' := ?_) (tf 1 23) rfl rfl (any_of HT_.out (by kernel_rfl)) (fun _ _ _ h => h) (Or.inl ⟨by rfl, ?_⟩) ?_ ?_
         rotate_left
         ·intro w';go_simp;with_reducible rfl
         rotate_left
         ·simp only [Act.put, sA, i64_w, i32_w];rfl
         refine pure_ (i := 1) (N := some 63) (v := ?_) (a' := ?_) (tf 2 22) rfl rfl (any_of HT_.out (by kernel_rfl)) (fun _ _ _ h => h) (Or.inl ⟨by rfl, ?_⟩) ?_ ?_
         rotate_left
         ·intro w';go_simp;with_reducible rfl
         rotate_left
         ·simp only [Act.put, sA, i64_w, i32_w];rfl
         refine pure_ (i := 3) (N := some 65) (v := ?_) (a' := ?_) #[true, true, false, true, false, false, false, false, false, false, false, false, false, false, false, false, false, false, false, false, false, false, false, false] rfl rfl (any_of HT_.out (by kernel_rfl)) (fun _ _ _ h => h) (Or.inl ⟨by rfl, ?_⟩) ?_ ?_
         rotate_left
         ·intro w';go_simp;with_reducible rfl
         rotate_left
         ·simp only [Act.put, sA, i64_w, i32_w];rfl
         refine pure_ (i := 7) (N := some 69) (v := ?_) (a' := ?_) #[true, true, false, true, false, false, false, true, false, false, false, false, false, false, false, false, false, false, false, false, false, false, false, false] rfl rfl (any_of HT_.out (by kernel_rfl)) (fun _ _ _ h => h) (Or.inl ⟨by rfl, ?_⟩) ?_ ?_
         rotate_left
         ·intro w';go_simp;with_reducible rfl
         rotate_left
         ·simp only [Act.put, sA, i64_w, i32_w];rfl
         refine take_ (i := 2) (N := some 64) (v := ?_) (a' := ?_) #[true, true, true, true, false, false, false, true, false, false, false, false, false, false, false, false, false, false, false, false, false, false, false, false] rfl rfl (take_ofW HT_.out HW_.out (by kernel_rfl)) (fun _ _ _ h => h) (Or.inl ⟨by rfl, ?_⟩) hHeld ?_ ?_
         rotate_left
         ·rintro w' ⟨s0, s1, s2, s3, s4⟩;go_simp;with_reducible rfl
         rotate_left
         ·simp only [Act.put, sA, i64_w, i32_w];rfl
         refine take_ (i := 6) (N := some 68) (v := ?_) (a' := ?_) #[true, true, true, true, false, false, true, true, false, false, false, false, false, false, false, false, false, false, false, false, false, false, false, false] rfl rfl (take_ofW HT_.out HW_.out (by kernel_rfl)) (fun _ _ _ h => h) (Or.inl ⟨by rfl, ?_⟩) hHeld ?_ ?_
         rotate_left
         ·rintro w' ⟨s0, s1, s2, s3, s4⟩;go_simp;with_reducible rfl
         rotate_left
         ·simp only [Act.put, sA, i64_w, i32_w];rfl
         refine one_ (i := 4) (N := some 66) #[true, true, true, true, true, false, true, true, false, false, false, false, false, false, false, false, false, false, false, false, false, false, false, false] rfl rfl (one_of HT_.out (by kernel_rfl)) (by decide) (fun K hK => ?_)
         refine goes_ Tryd.func18 (by kernel_rfl) rfl #[.agg #[.slice A0_0 l0_0.length c0_0, .slice A0_1 l0_1.length c0_1, .slice A0_2 l0_2.length c0_2, .slice A0_3 l0_3.length c0_3, .int .i64 a0_4], .slice A1 l1.length c1] (by rfl) rfl rfl (by (try simp only [List.map_toArray, List.map_cons, List.map_nil]); first | done | rfl | (simp only [List.length_drop, List.length_take]; rfl)) ?_
         with_reducible refine (states_Close.calls _ _ l0_0 _ _ l0_1 _ _ l0_2 _ _ l0_3 a0_4 _ _ l1 t297 _ ?side1 ?side2 ?side3 ?side4 ?side5 ?side6 ?side7 ?side8 ?side9 ?side10 A28.out).mono ?_
         (case side1 => repeat (first | exact (jB HR0_0.out HB.out) | (with_reducible refine Kd.C_alloc ?_ _) | (with_reducible refine Kd.C_drewN ?_ _) | (with_reducible refine Kd.C_drew ?_)))
         (case side2 => exact HC0_0.out)
         (case side3 => repeat (first | exact (jB HR0_1.out HB.out) | (with_reducible refine Kd.C_alloc ?_ _) | (with_reducible refine Kd.C_drewN ?_ _) | (with_reducible refine Kd.C_drew ?_)))
         (case side4 => exact HC0_1.out)
         (case side5 => repeat (first | exact (jB HR0_2.out HB.out) | (with_reducible refine Kd.C_alloc ?_ _) | (with_reducible refine Kd.C_drewN ?_ _) | (with_reducible refine Kd.C_drew ?_)))
         (case side6 => exact HC0_2.out)
         (case side7 => repeat (first | exact (jB HR0_3.out HB.out) | (with_reducible refine Kd.C_alloc ?_ _) | (with_reducible refine Kd.C_drewN ?_ _) | (with_reducible refine Kd.C_drew ?_)))
         (case side8 => exact HC0_3.out)
         (case side9 => repeat (first | exact (jB HR1.out HB.out) | (with_reducible refine Kd.C_alloc ?_ _) | (with_reducible refine Kd.C_drewN ?_ _) | (with_reducible refine Kd.C_drew ?_)))
         (case side10 => exact HC1.out)
         rintro e w38 ⟨v298, rfl, ho0, hb⟩
         refine ⟨_, rfl, ?_⟩
         have n0_ := jM (Kd.R_below (by (with_reducible repeat (first | apply Kd.R_alloc | apply Kd.R_drewN | apply Kd.R_drew)); exact HO_9.out) hb)
         have n1_ := jM (Kd.R_lower ho0 (below_size (by repeat (first | (with_reducible first | exact HB.out | apply jA | apply jN | apply jD | refine jS ?_ GE285.out) | exact HB.out))))
         have n2_ := jM (jW (g := gb285) (o := .cells #[.slice A0_0 l0_0.length c0_0, .slice A0_1 l0_1.length c0_1, .slice A0_2 l0_2.length c0_2, .slice A0_3 l0_3.length c0_3, .int .i64 a0_4] 27 (0, 0)) (by (with_reducible repeat (first | refine jY ?_ _ | refine jZ ?_ | refine jX ?_ _)); exact BK285.out) hb)
         have n3_ := jM (jT (by repeat (first | (with_reducible first | exact HB.out | apply jA | apply jN | apply jD | refine jS ?_ GE285.out) | exact HB.out)) hb)
         clear HO_9
         clear BK285
         clear HB
         have HO_9 := n0_
         have HO299 := n1_
         have BK285 := n2_
         have HB := n3_
         clear n0_ n1_ n2_ n3_
         (try clear hb)
         (try clear hb2)
         (try clear hk)
         (try clear hi)
         (try clear ho0)
         obtain ⟨Ao39, co39, eo39⟩ := Kd.R_slice HO299.out
         (first | subst eo39 | (injection eo39 with f1_ f2_ f3_; have f4_ := f1_.symm; have f5_ := f3_.symm; clear f1_ f2_ f3_; subst f4_; subst f5_))
         refine hK.out _ _ ⟨(jC BK285.out 0).trans rfl, (jC BK285.out 1).trans rfl, (jC BK285.out 2).trans rfl, (jC BK285.out 3).trans rfl, (jC BK285.out 4).trans rfl⟩ (fun hHeld => ?_)
         clear hK K
         refine norm_ (a' := ?_) ?_ ?_
         rotate_left
         ·show Act.put _ (some 66) _ = _
          simp only [Act.put, sA, i64_w, i32_w]
          rfl
         refine one_ (i := 5) (N := some 67) (tf 8 16) rfl rfl (one_of HT_.out (by kernel_rfl)) (by decide) (fun K hK => ?_)
         refine goes_ Tryd.func14 (by kernel_rfl) rfl #[.slice Ao39 t297.length co39] (by rfl) rfl rfl (by (try simp only [List.map_toArray, List.map_cons, List.map_nil]); first | done | rfl | (simp only [List.length_drop, List.length_take]; rfl)) ?_
         with_reducible refine (syntagmlaw14_Row.calls k2 _ _ t297 t300 _ ?side1 ?side2 A29.out).mono ?_
         (case side1 => repeat (first | exact (Kd.R_reads' HO299.out).2.2 | (with_reducible refine Kd.C_alloc ?_ _) | (with_reducible refine Kd.C_drewN ?_ _) | (with_reducible refine Kd.C_drew ?_)))
         (case side2 => exact (Kd.R_reads' HO299.out).2.1)
         rintro e w40 ⟨v301, rfl, ho0, hb⟩
         refine ⟨_, rfl, ?_⟩
         have n0_ := jM (Kd.R_elder' (by (with_reducible repeat (first | apply Kd.R_alloc | apply Kd.R_drewN | apply Kd.R_drew)); exact HO_9.out) (Kd.R_base ho0) hb)
         have n1_ := jM (Kd.R_below (by (with_reducible repeat (first | apply Kd.R_alloc | apply Kd.R_drewN | apply Kd.R_drew)); exact HO299.out) hb)
         have n2_ := jM (Kd.R_lower (Kd.R_new' ho0 (Kd.R_lt (by (with_reducible repeat (first | apply Kd.R_alloc | apply Kd.R_drewN | apply Kd.R_drew)); exact HO_9.out))) (below_size (by repeat (first | (with_reducible first | exact HB.out | apply jA | apply jN | apply jD | refine jS ?_ GE285.out) | exact HB.out))))
         have n3_ := jM (jW (g := gb285) (o := .cells #[.slice A0_0 l0_0.length c0_0, .slice A0_1 l0_1.length c0_1, .slice A0_2 l0_2.length c0_2, .slice A0_3 l0_3.length c0_3, .int .i64 a0_4] 27 (0, 0)) (by (with_reducible repeat (first | refine jY ?_ _ | refine jZ ?_ | refine jX ?_ _)); exact BK285.out) hb)
         have n4_ := jM (jT (by repeat (first | (with_reducible first | exact HB.out | apply jA | apply jN | apply jD | refine jS ?_ GE285.out) | exact HB.out)) hb)
         clear HO_9
         clear HO299
         clear BK285
         clear HB
         have HO_9 := n0_
         have HO299 := n1_
         have HO302 := n2_
         have BK285 := n3_
         have HB := n4_
         clear n0_ n1_ n2_ n3_ n4_
         (try clear hb)
         (try clear hb2)
         (try clear hk)
         (try clear hi)
         (try clear ho0)
         obtain ⟨Ao41, co41, eo41⟩ := Kd.R_slice HO_9.out
         (first | subst eo41 | (injection eo41 with f1_ f2_ f3_; have f4_ := f1_.symm; have f5_ := f3_.symm; clear f1_ f2_ f3_; subst f4_; subst f5_))
         refine hK.out _ _ ⟨(jC BK285.out 0).trans rfl, (jC BK285.out 1).trans rfl, (jC BK285.out 2).trans rfl, (jC BK285.out 3).trans rfl, (jC BK285.out 4).trans rfl⟩ (fun hHeld => ?_)
         clear hK K
         refine norm_ (a' := ?_) ?_ ?_
         rotate_left
         ·show Act.put _ (some 67) _ = _
          simp only [Act.put, sA, i64_w, i32_w]
          rfl
         refine one_ (i := 8) (N := some 70) (tf 9 15) rfl rfl (one_of HT_.out (by kernel_rfl)) (by decide) (fun K hK => ?_)
         refine goes_ Tryd.func19 (by kernel_rfl) rfl #[.agg #[.slice A0_0 l0_0.length c0_0, .slice A0_1 l0_1.length c0_1, .slice A0_2 l0_2.length c0_2, .slice A0_3 l0_3.length c0_3, .int .i64 a0_4], .slice Ao41 t288.length co41] (by rfl) rfl rfl (by (try simp only [List.map_toArray, List.map_cons, List.map_nil]); first | done | rfl | (simp only [List.length_drop, List.length_take]; rfl)) ?_
         with_reducible refine (syntagmref14_Close.calls k2 _ _ l0_0 _ _ l0_1 _ _ l0_2 _ _ l0_3 a0_4 _ _ t288 t303 _ ?side1 ?side2 ?side3 ?side4 ?side5 ?side6 ?side7 ?side8 ?side9 ?side10 A30.out).mono ?_
         (case side1 => repeat (first | exact (jB HR0_0.out HB.out) | (with_reducible refine Kd.C_alloc ?_ _) | (with_reducible refine Kd.C_drewN ?_ _) | (with_reducible refine Kd.C_drew ?_)))
         (case side2 => exact HC0_0.out)
         (case side3 => repeat (first | exact (jB HR0_1.out HB.out) | (with_reducible refine Kd.C_alloc ?_ _) | (with_reducible refine Kd.C_drewN ?_ _) | (with_reducible refine Kd.C_drew ?_)))
         (case side4 => exact HC0_1.out)
         (case side5 => repeat (first | exact (jB HR0_2.out HB.out) | (with_reducible refine Kd.C_alloc ?_ _) | (with_reducible refine Kd.C_drewN ?_ _) | (with_reducible refine Kd.C_drew ?_)))
         (case side6 => exact HC0_2.out)
         (case side7 => repeat (first | exact (jB HR0_3.out HB.out) | (with_reducible refine Kd.C_alloc ?_ _) | (with_reducible refine Kd.C_drewN ?_ _) | (with_reducible refine Kd.C_drew ?_)))
         (case side8 => exact HC0_3.out)
         (case side9 => repeat (first | exact (Kd.R_reads' HO_9.out).2.2 | (with_reducible refine Kd.C_alloc ?_ _) | (with_reducible refine Kd.C_drewN ?_ _) | (with_reducible refine Kd.C_drew ?_)))
         (case side10 => exact (Kd.R_reads' HO_9.out).2.1)
         rintro e w42 ⟨v304, rfl, ho0, hb⟩
         refine ⟨_, rfl, ?_⟩
         have n0_ := jM (Kd.R_elder' (by (with_reducible repeat (first | apply Kd.R_alloc | apply Kd.R_drewN | apply Kd.R_drew)); exact HO_9.out) (Kd.R_base ho0) hb)
         have n1_ := jM (Kd.R_below (by (with_reducible repeat (first | apply Kd.R_alloc | apply Kd.R_drewN | apply Kd.R_drew)); exact HO299.out) hb)
         have n2_ := jM (Kd.R_elder' (by (with_reducible repeat (first | apply Kd.R_alloc | apply Kd.R_drewN | apply Kd.R_drew)); exact HO302.out) (Kd.R_base ho0) hb)
         have n3_ := jM (Kd.R_lower (Kd.R_new' (Kd.R_new' ho0 (Kd.R_lt (by (with_reducible repeat (first | apply Kd.R_alloc | apply Kd.R_drewN | apply Kd.R_drew)); exact HO_9.out))) (Kd.R_lt (by (with_reducible repeat (first | apply Kd.R_alloc | apply Kd.R_drewN | apply Kd.R_drew)); exact HO302.out))) (below_size (by repeat (first | (with_reducible first | exact HB.out | apply jA | apply jN | apply jD | refine jS ?_ GE285.out) | exact HB.out))))
         have n4_ := jM (jW (g := gb285) (o := .cells #[.slice A0_0 l0_0.length c0_0, .slice A0_1 l0_1.length c0_1, .slice A0_2 l0_2.length c0_2, .slice A0_3 l0_3.length c0_3, .int .i64 a0_4] 27 (0, 0)) (by (with_reducible repeat (first | refine jY ?_ _ | refine jZ ?_ | refine jX ?_ _)); exact BK285.out) hb)
         have n5_ := jM (jT (by repeat (first | (with_reducible first | exact HB.out | apply jA | apply jN | apply jD | refine jS ?_ GE285.out) | exact HB.out)) hb)
         clear HO_9
         clear HO299
         clear HO302
         clear BK285
         clear HB
         have HO_9 := n0_
         have HO299 := n1_
         have HO302 := n2_
         have HO305 := n3_
         have BK285 := n4_
         have HB := n5_
         clear n0_ n1_ n2_ n3_ n4_ n5_
         (try clear hb)
         (try clear hb2)
         (try clear hk)
         (try clear hi)
         (try clear ho0)
         obtain ⟨Ao43, co43, eo43⟩ := Kd.R_slice HO302.out
         (first | subst eo43 | (injection eo43 with f1_ f2_ f3_; have f4_ := f1_.symm; have f5_ := f3_.symm; clear f1_ f2_ f3_; subst f4_; subst f5_))
         obtain ⟨Ao44, co44, eo44⟩ := Kd.R_slice HO305.out
         (first | subst eo44 | (injection eo44 with f1_ f2_ f3_; have f4_ := f1_.symm; have f5_ := f3_.symm; clear f1_ f2_ f3_; subst f4_; subst f5_))
         refine hK.out _ _ ⟨(jC BK285.out 0).trans rfl, (jC BK285.out 1).trans rfl, (jC BK285.out 2).trans rfl, (jC BK285.out 3).trans rfl, (jC BK285.out 4).trans rfl⟩ (fun hHeld => ?_)
         clear hK K
         refine norm_ (a' := ?_) ?_ ?_
         rotate_left
         ·show Act.put _ (some 70) _ = _
          simp only [Act.put, sA, i64_w, i32_w]
          rfl
         refine one_ (i := 9) (N := some 71) (tf 10 14) rfl rfl (one_of HT_.out (by kernel_rfl)) (by decide) (fun K hK => ?_)
         refine goes_ Tryd.func17 (by kernel_rfl) rfl #[.slice Ao43 t300.length co43, .slice Ao44 t303.length co44] (by rfl) rfl rfl (by (try simp only [List.map_toArray, List.map_cons, List.map_nil]); first | done | rfl | (simp only [List.length_drop, List.length_take]; rfl)) ?_
         with_reducible refine (syntagmref14_Row.calls k2 _ _ t300 _ _ t303 true _ ?side1 ?side2 ?side3 ?side4 A31.out).mono ?_
         (case side1 => repeat (first | exact (Kd.R_reads' HO302.out).2.2 | (with_reducible refine Kd.C_alloc ?_ _) | (with_reducible refine Kd.C_drewN ?_ _) | (with_reducible refine Kd.C_drew ?_)))
         (case side2 => exact (Kd.R_reads' HO302.out).2.1)
         (case side3 => repeat (first | exact (Kd.R_reads' HO305.out).2.2 | (with_reducible refine Kd.C_alloc ?_ _) | (with_reducible refine Kd.C_drewN ?_ _) | (with_reducible refine Kd.C_drew ?_)))
         (case side4 => exact (Kd.R_reads' HO305.out).2.1)
         rintro e w' ⟨rfl, ⟨nd, rfl⟩⟩
         refine ⟨_, rfl, ?_⟩
         refine hK.out _ _ ⟨(jC BK285.out 0).trans rfl, (jC BK285.out 1).trans rfl, (jC BK285.out 2).trans rfl, (jC BK285.out 3).trans rfl, (jC BK285.out 4).trans rfl⟩ (fun hHeld => ?_)
         clear hK K
         refine norm_ (a' := ?_) ?_ ?_
         rotate_left
         ·show Act.put _ (some 71) _ = _
          simp only [Act.put, sA, i64_w, i32_w]
          rfl
         refine pure_ (i := 10) (N := some 72) (v := ?_) (a' := ?_) (tf 11 13) rfl rfl (any_of HT_.out (by kernel_rfl)) (fun _ _ _ h => h) (Or.inl ⟨by rfl, ?_⟩) ?_ ?_
         rotate_left
         ·intro w';go_simp;with_reducible rfl
         rotate_left
         ·simp only [Act.put, sA, i64_w, i32_w];rfl
         refine pure_ (i := 11) (N := some 73) (v := ?_) (a' := ?_) (tf 12 12) rfl rfl (any_of HT_.out (by kernel_rfl)) (fun _ _ _ h => h) (Or.inl ⟨by rfl, ?_⟩) ?_ ?_
         rotate_left
         ·intro w';go_simp;with_reducible rfl
         rotate_left
         ·simp only [Act.put, sA, i64_w, i32_w];rfl
         refine pure_ (i := 13) (N := some 75) (v := ?_) (a' := ?_) #[true, true, true, true, true, true, true, true, true, true, true, true, false, true, false, false, false, false, false, false, false, false, false, false] rfl rfl (any_of HT_.out (by kernel_rfl)) (fun _ _ _ h => h) (Or.inl ⟨by rfl, ?_⟩) ?_ ?_
         rotate_left
         ·intro w';go_simp;with_reducible rfl
         rotate_left
         ·simp only [Act.put, sA, i64_w, i32_w];rfl
         refine pure_ (i := 14) (N := some 76) (v := ?_) (a' := ?_) #[true, true, true, true, true, true, true, true, true, true, true, true, false, true, true, false, false, false, false, false, false, false, false, false] rfl rfl (any_of HT_.out (by kernel_rfl)) (fun _ _ _ h => h) (Or.inl ⟨by rfl, ?_⟩) ?_ ?_
         rotate_left
         ·intro w';go_simp;with_reducible rfl
         rotate_left
         ·simp only [Act.put, sA, i64_w, i32_w];rfl
         refine pure_ (i := 18) (N := some 80) (v := ?_) (a' := ?_) #[true, true, true, true, true, true, true, true, true, true, true, true, false, true, true, false, false, false, true, false, false, false, false, false] rfl rfl (any_of HT_.out (by kernel_rfl)) (fun _ _ _ h => h) (Or.inl ⟨by rfl, ?_⟩) ?_ ?_
         rotate_left
         ·intro w';go_simp;with_reducible rfl
         rotate_left
         ·simp only [Act.put, sA, i64_w, i32_w];rfl
         refine pure_ (i := 19) (N := some 81) (v := ?_) (a' := ?_) #[true, true, true, true, true, true, true, true, true, true, true, true, false, true, true, false, false, false, true, true, false, false, false, false] rfl rfl (any_of HT_.out (by kernel_rfl)) (fun _ _ _ h => h) (Or.inl ⟨by rfl, ?_⟩) ?_ ?_
         rotate_left
         ·intro w';go_simp;with_reducible rfl
         rotate_left
         ·simp only [Act.put, sA, i64_w, i32_w];rfl
         refine take_ (i := 12) (N := some 74) (v := ?_) (a' := ?_) #[true, true, true, true, true, true, true, true, true, true, true, true, true, true, true, false, false, false, true, true, false, false, false, false] rfl rfl (take_ofW HT_.out HW_.out (by kernel_rfl)) (fun _ _ _ h => h) (Or.inl ⟨by rfl, ?_⟩) hHeld ?_ ?_
         rotate_left
         ·rintro w' ⟨s0, s1, s2, s3, s4⟩;go_simp;with_reducible rfl
         rotate_left
         ·simp only [Act.put, sA, i64_w, i32_w];rfl
         refine take_ (i := 17) (N := some 79) (v := ?_) (a' := ?_) #[true, true, true, true, true, true, true, true, true, true, true, true, true, true, true, false, false, true, true, true, false, false, false, false] rfl rfl (take_ofW HT_.out HW_.out (by kernel_rfl)) (fun _ _ _ h => h) (Or.inl ⟨by rfl, ?_⟩) hHeld ?_ ?_
         rotate_left
         ·rintro w' ⟨s0, s1, s2, s3, s4⟩;go_simp;with_reducible rfl
         rotate_left
         ·simp only [Act.put, sA, i64_w, i32_w];rfl
         refine one_ (i := 15) (N := some 77) #[true, true, true, true, true, true, true, true, true, true, true, true, true, true, true, true, false, true, true, true, false, false, false, false] rfl rfl (one_of HT_.out (by kernel_rfl)) (by decide) (fun K hK => ?_)
         refine goes_ Tryd.func20 (by kernel_rfl) rfl #[.agg #[.slice A0_0 l0_0.length c0_0, .slice A0_1 l0_1.length c0_1, .slice A0_2 l0_2.length c0_2, .slice A0_3 l0_3.length c0_3, .int .i64 a0_4], .slice A1 l1.length c1, .int .i64 a2] (by rfl) rfl rfl (by (try simp only [List.map_toArray, List.map_cons, List.map_nil]); first | done | rfl | (simp only [List.length_drop, List.length_take]; rfl)) ?_
         with_reducible refine (states_Step.calls _ _ l0_0 _ _ l0_1 _ _ l0_2 _ _ l0_3 a0_4 _ _ l1 a2 t307 _ ?side1 ?side2 ?side3 ?side4 ?side5 ?side6 ?side7 ?side8 ?side9 ?side10 A33.out).mono ?_
         (case side1 => repeat (first | exact (jB HR0_0.out (by repeat (first | (with_reducible first | exact HB.out | apply jA | apply jN | apply jD | refine jS ?_ GE285.out) | exact HB.out))) | (with_reducible refine Kd.C_alloc ?_ _) | (with_reducible refine Kd.C_drewN ?_ _) | (with_reducible refine Kd.C_drew ?_)))
         (case side2 => exact HC0_0.out)
         (case side3 => repeat (first | exact (jB HR0_1.out (by repeat (first | (with_reducible first | exact HB.out | apply jA | apply jN | apply jD | refine jS ?_ GE285.out) | exact HB.out))) | (with_reducible refine Kd.C_alloc ?_ _) | (with_reducible refine Kd.C_drewN ?_ _) | (with_reducible refine Kd.C_drew ?_)))
         (case side4 => exact HC0_1.out)
         (case side5 => repeat (first | exact (jB HR0_2.out (by repeat (first | (with_reducible first | exact HB.out | apply jA | apply jN | apply jD | refine jS ?_ GE285.out) | exact HB.out))) | (with_reducible refine Kd.C_alloc ?_ _) | (with_reducible refine Kd.C_drewN ?_ _) | (with_reducible refine Kd.C_drew ?_)))
         (case side6 => exact HC0_2.out)
         (case side7 => repeat (first | exact (jB HR0_3.out (by repeat (first | (with_reducible first | exact HB.out | apply jA | apply jN | apply jD | refine jS ?_ GE285.out) | exact HB.out))) | (with_reducible refine Kd.C_alloc ?_ _) | (with_reducible refine Kd.C_drewN ?_ _) | (with_reducible refine Kd.C_drew ?_)))
         (case side8 => exact HC0_3.out)
         (case side9 => repeat (first | exact (jB HR1.out (by repeat (first | (with_reducible first | exact HB.out | apply jA | apply jN | apply jD | refine jS ?_ GE285.out) | exact HB.out))) | (with_reducible refine Kd.C_alloc ?_ _) | (with_reducible refine Kd.C_drewN ?_ _) | (with_reducible refine Kd.C_drew ?_)))
         (case side10 => exact HC1.out)
         rintro e w45 ⟨v308, rfl, ho0, hb⟩
         refine ⟨_, rfl, ?_⟩
         have n0_ := jM (Kd.R_below (by (with_reducible repeat (first | apply Kd.R_alloc | apply Kd.R_drewN | apply Kd.R_drew)); exact HO_9.out) hb)
         have n1_ := jM (Kd.R_elder' (by (with_reducible repeat (first | apply Kd.R_alloc | apply Kd.R_drewN | apply Kd.R_drew)); exact HO299.out) (Kd.R_base ho0) hb)
         have n2_ := jM (Kd.R_below (by (with_reducible repeat (first | apply Kd.R_alloc | apply Kd.R_drewN | apply Kd.R_drew)); exact HO302.out) hb)
         have n3_ := jM (Kd.R_below (by (with_reducible repeat (first | apply Kd.R_alloc | apply Kd.R_drewN | apply Kd.R_drew)); exact HO305.out) hb)
         have n4_ := jM (Kd.R_lower (Kd.R_new' ho0 (Kd.R_lt (by (with_reducible repeat (first | apply Kd.R_alloc | apply Kd.R_drewN | apply Kd.R_drew)); exact HO299.out))) (below_size (by repeat (first | (with_reducible first | exact HB.out | apply jA | apply jN | apply jD | refine jS ?_ GE285.out) | exact HB.out))))
         have n5_ := jM (jW (g := gb285) (o := .cells #[.slice A0_0 l0_0.length c0_0, .slice A0_1 l0_1.length c0_1, .slice A0_2 l0_2.length c0_2, .slice A0_3 l0_3.length c0_3, .int .i64 a0_4] 27 (0, 0)) (by (with_reducible repeat (first | refine jY ?_ _ | refine jZ ?_ | refine jX ?_ _)); exact BK285.out) hb)
         have n6_ := jM (jT (by repeat (first | (with_reducible first | exact HB.out | apply jA | apply jN | apply jD | refine jS ?_ GE285.out) | exact HB.out)) hb)
         clear HO_9
         clear HO299
         clear HO302
         clear HO305
         clear BK285
         clear HB
         have HO_9 := n0_
         have HO299 := n1_
         have HO302 := n2_
         have HO305 := n3_
         have HO309 := n4_
         have BK285 := n5_
         have HB := n6_
         clear n0_ n1_ n2_ n3_ n4_ n5_ n6_
         (try clear hb)
         (try clear hb2)
         (try clear hk)
         (try clear hi)
         (try clear ho0)
         obtain ⟨Ao46, co46, eo46⟩ := Kd.R_slice HO309.out
         (first | subst eo46 | (injection eo46 with f1_ f2_ f3_; have f4_ := f1_.symm; have f5_ := f3_.symm; clear f1_ f2_ f3_; subst f4_; subst f5_))
         refine hK.out _ _ ⟨(jC BK285.out 0).trans rfl, (jC BK285.out 1).trans rfl, (jC BK285.out 2).trans rfl, (jC BK285.out 3).trans rfl, (jC BK285.out 4).trans rfl⟩ (fun hHeld => ?_)
         clear hK K
         refine norm_ (a' := ?_) ?_ ?_
         rotate_left
         ·show Act.put _ (some 77) _ = _
          simp only [Act.put, sA, i64_w, i32_w]
          rfl
         refine one_ (i := 16) (N := some 78) (tf 20 4) rfl rfl (one_of HT_.out (by kernel_rfl)) (by decide) (fun K hK => ?_)
         refine goes_ Tryd.func14 (by kernel_rfl) rfl #[.slice Ao46 t307.length co46] (by rfl) rfl rfl (by (try simp only [List.map_toArray, List.map_cons, List.map_nil]); first | done | rfl | (simp only [List.length_drop, List.length_take]; rfl)) ?_
         with_reducible refine (syntagmlaw14_Row.calls k2 _ _ t307 t310 _ ?side1 ?side2 A34.out).mono ?_
         (case side1 => repeat (first | exact (Kd.R_reads' HO309.out).2.2 | (with_reducible refine Kd.C_alloc ?_ _) | (with_reducible refine Kd.C_drewN ?_ _) | (with_reducible refine Kd.C_drew ?_)))
         (case side2 => exact (Kd.R_reads' HO309.out).2.1)
         rintro e w47 ⟨v311, rfl, ho0, hb⟩
         refine ⟨_, rfl, ?_⟩
         have n0_ := jM (Kd.R_elder' (by (with_reducible repeat (first | apply Kd.R_alloc | apply Kd.R_drewN | apply Kd.R_drew)); exact HO_9.out) (Kd.R_base ho0) hb)
         have n1_ := jM (Kd.R_below (by (with_reducible repeat (first | apply Kd.R_alloc | apply Kd.R_drewN | apply Kd.R_drew)); exact HO299.out) hb)
         have n2_ := jM (Kd.R_elder' (by (with_reducible repeat (first | apply Kd.R_alloc | apply Kd.R_drewN | apply Kd.R_drew)); exact HO302.out) (Kd.R_base ho0) hb)
         have n3_ := jM (Kd.R_elder' (by (with_reducible repeat (first | apply Kd.R_alloc | apply Kd.R_drewN | apply Kd.R_drew)); exact HO305.out) (Kd.R_base ho0) hb)
         have n4_ := jM (Kd.R_below (by (with_reducible repeat (first | apply Kd.R_alloc | apply Kd.R_drewN | apply Kd.R_drew)); exact HO309.out) hb)
         have n5_ := jM (Kd.R_lower (Kd.R_new' (Kd.R_new' (Kd.R_new' ho0 (Kd.R_lt (by (with_reducible repeat (first | apply Kd.R_alloc | apply Kd.R_drewN | apply Kd.R_drew)); exact HO_9.out))) (Kd.R_lt (by (with_reducible repeat (first | apply Kd.R_alloc | apply Kd.R_drewN | apply Kd.R_drew)); exact HO302.out))) (Kd.R_lt (by (with_reducible repeat (first | apply Kd.R_alloc | apply Kd.R_drewN | apply Kd.R_drew)); exact HO305.out))) (below_size (by repeat (first | (with_reducible first | exact HB.out | apply jA | apply jN | apply jD | refine jS ?_ GE285.out) | exact HB.out))))
         have n6_ := jM (jW (g := gb285) (o := .cells #[.slice A0_0 l0_0.length c0_0, .slice A0_1 l0_1.length c0_1, .slice A0_2 l0_2.length c0_2, .slice A0_3 l0_3.length c0_3, .int .i64 a0_4] 27 (0, 0)) (by (with_reducible repeat (first | refine jY ?_ _ | refine jZ ?_ | refine jX ?_ _)); exact BK285.out) hb)
         have n7_ := jM (jT (by repeat (first | (with_reducible first | exact HB.out | apply jA | apply jN | apply jD | refine jS ?_ GE285.out) | exact HB.out)) hb)
         clear HO_9
         clear HO299
         clear HO302
         clear HO305
         clear HO309
         clear BK285
         clear HB
         have HO_9 := n0_
         have HO299 := n1_
         have HO302 := n2_
         have HO305 := n3_
         have HO309 := n4_
         have HO312 := n5_
         have BK285 := n6_
         have HB := n7_
         clear n0_ n1_ n2_ n3_ n4_ n5_ n6_ n7_
         (try clear hb)
         (try clear hb2)
         (try clear hk)
         (try clear hi)
         (try clear ho0)
         refine hK.out _ _ ⟨(jC BK285.out 0).trans rfl, (jC BK285.out 1).trans rfl, (jC BK285.out 2).trans rfl, (jC BK285.out 3).trans rfl, (jC BK285.out 4).trans rfl⟩ (fun hHeld => ?_)
         clear hK K
         refine norm_ (a' := ?_) ?_ ?_
         rotate_left
         ·show Act.put _ (some 78) _ = _
          simp only [Act.put, sA, i64_w, i32_w]
          rfl
         refine one_ (i := 20) (N := some 82) (tf 21 3) rfl rfl (one_of HT_.out (by kernel_rfl)) (by decide) (fun K hK => ?_)
         refine goes_ Tryd.func21 (by kernel_rfl) rfl #[.agg #[.slice A0_0 l0_0.length c0_0, .slice A0_1 l0_1.length c0_1, .slice A0_2 l0_2.length c0_2, .slice A0_3 l0_3.length c0_3, .int .i64 a0_4], .slice Ao41 t288.length co41, .int .i64 a2] (by rfl) rfl rfl (by (try simp only [List.map_toArray, List.map_cons, List.map_nil]); first | done | rfl | (simp only [List.length_drop, List.length_take]; rfl)) ?_
         with_reducible refine (syntagmref14_Step.calls k2 _ _ l0_0 _ _ l0_1 _ _ l0_2 _ _ l0_3 a0_4 _ _ t288 a2 t313 _ ?side1 ?side2 ?side3 ?side4 ?side5 ?side6 ?side7 ?side8 ?side9 ?side10 A35.out).mono ?_
         (case side1 => repeat (first | exact (jB HR0_0.out HB.out) | (with_reducible refine Kd.C_alloc ?_ _) | (with_reducible refine Kd.C_drewN ?_ _) | (with_reducible refine Kd.C_drew ?_)))
         (case side2 => exact HC0_0.out)
         (case side3 => repeat (first | exact (jB HR0_1.out HB.out) | (with_reducible refine Kd.C_alloc ?_ _) | (with_reducible refine Kd.C_drewN ?_ _) | (with_reducible refine Kd.C_drew ?_)))
         (case side4 => exact HC0_1.out)
         (case side5 => repeat (first | exact (jB HR0_2.out HB.out) | (with_reducible refine Kd.C_alloc ?_ _) | (with_reducible refine Kd.C_drewN ?_ _) | (with_reducible refine Kd.C_drew ?_)))
         (case side6 => exact HC0_2.out)
         (case side7 => repeat (first | exact (jB HR0_3.out HB.out) | (with_reducible refine Kd.C_alloc ?_ _) | (with_reducible refine Kd.C_drewN ?_ _) | (with_reducible refine Kd.C_drew ?_)))
         (case side8 => exact HC0_3.out)
         (case side9 => repeat (first | exact (Kd.R_reads' HO_9.out).2.2 | (with_reducible refine Kd.C_alloc ?_ _) | (with_reducible refine Kd.C_drewN ?_ _) | (with_reducible refine Kd.C_drew ?_)))
         (case side10 => exact (Kd.R_reads' HO_9.out).2.1)
         rintro e w48 ⟨v314, rfl, ho0, hb⟩
         refine ⟨_, rfl, ?_⟩
         have n0_ := jM (Kd.R_elder' (by (with_reducible repeat (first | apply Kd.R_alloc | apply Kd.R_drewN | apply Kd.R_drew)); exact HO_9.out) (Kd.R_base ho0) hb)
         have n1_ := jM (Kd.R_below (by (with_reducible repeat (first | apply Kd.R_alloc | apply Kd.R_drewN | apply Kd.R_drew)); exact HO299.out) hb)
         have n2_ := jM (Kd.R_elder' (by (with_reducible repeat (first | apply Kd.R_alloc | apply Kd.R_drewN | apply Kd.R_drew)); exact HO302.out) (Kd.R_base ho0) hb)
         have n3_ := jM (Kd.R_elder' (by (with_reducible repeat (first | apply Kd.R_alloc | apply Kd.R_drewN | apply Kd.R_drew)); exact HO305.out) (Kd.R_base ho0) hb)
         have n4_ := jM (Kd.R_below (by (with_reducible repeat (first | apply Kd.R_alloc | apply Kd.R_drewN | apply Kd.R_drew)); exact HO309.out) hb)
         have n5_ := jM (Kd.R_elder' (by (with_reducible repeat (first | apply Kd.R_alloc | apply Kd.R_drewN | apply Kd.R_drew)); exact HO312.out) (Kd.R_base ho0) hb)
         have n6_ := jM (Kd.R_lower (Kd.R_new' (Kd.R_new' (Kd.R_new' (Kd.R_new' ho0 (Kd.R_lt (by (with_reducible repeat (first | apply Kd.R_alloc | apply Kd.R_drewN | apply Kd.R_drew)); exact HO_9.out))) (Kd.R_lt (by (with_reducible repeat (first | apply Kd.R_alloc | apply Kd.R_drewN | apply Kd.R_drew)); exact HO302.out))) (Kd.R_lt (by (with_reducible repeat (first | apply Kd.R_alloc | apply Kd.R_drewN | apply Kd.R_drew)); exact HO305.out))) (Kd.R_lt (by (with_reducible repeat (first | apply Kd.R_alloc | apply Kd.R_drewN | apply Kd.R_drew)); exact HO312.out))) (below_size (by repeat (first | (with_reducible first | exact HB.out | apply jA | apply jN | apply jD | refine jS ?_ GE285.out) | exact HB.out))))
         have n7_ := jM (jW (g := gb285) (o := .cells #[.slice A0_0 l0_0.length c0_0, .slice A0_1 l0_1.length c0_1, .slice A0_2 l0_2.length c0_2, .slice A0_3 l0_3.length c0_3, .int .i64 a0_4] 27 (0, 0)) (by (with_reducible repeat (first | refine jY ?_ _ | refine jZ ?_ | refine jX ?_ _)); exact BK285.out) hb)
         have n8_ := jM (jT (by repeat (first | (with_reducible first | exact HB.out | apply jA | apply jN | apply jD | refine jS ?_ GE285.out) | exact HB.out)) hb)
         clear HO_9
         clear HO299
         clear HO302
         clear HO305
         clear HO309
         clear HO312
         clear BK285
         clear HB
         have HO_9 := n0_
         have HO299 := n1_
         have HO302 := n2_
         have HO305 := n3_
         have HO309 := n4_
         have HO312 := n5_
         have HO315 := n6_
         have BK285 := n7_
         have HB := n8_
         clear n0_ n1_ n2_ n3_ n4_ n5_ n6_ n7_ n8_
         (try clear hb)
         (try clear hb2)
         (try clear hk)
         (try clear hi)
         (try clear ho0)
         obtain ⟨Ao49, co49, eo49⟩ := Kd.R_slice HO312.out
         (first | subst eo49 | (injection eo49 with f1_ f2_ f3_; have f4_ := f1_.symm; have f5_ := f3_.symm; clear f1_ f2_ f3_; subst f4_; subst f5_))
         obtain ⟨Ao50, co50, eo50⟩ := Kd.R_slice HO315.out
         (first | subst eo50 | (injection eo50 with f1_ f2_ f3_; have f4_ := f1_.symm; have f5_ := f3_.symm; clear f1_ f2_ f3_; subst f4_; subst f5_))
         refine hK.out _ _ ⟨(jC BK285.out 0).trans rfl, (jC BK285.out 1).trans rfl, (jC BK285.out 2).trans rfl, (jC BK285.out 3).trans rfl, (jC BK285.out 4).trans rfl⟩ (fun hHeld => ?_)
         clear hK K
         refine norm_ (a' := ?_) ?_ ?_
         rotate_left
         ·show Act.put _ (some 82) _ = _
          simp only [Act.put, sA, i64_w, i32_w]
          rfl
         refine one_ (i := 21) (N := some 83) (tf 22 2) rfl rfl (one_of HT_.out (by kernel_rfl)) (by decide) (fun K hK => ?_)
         refine goes_ Tryd.func17 (by kernel_rfl) rfl #[.slice Ao49 t310.length co49, .slice Ao50 t313.length co50] (by rfl) rfl rfl (by (try simp only [List.map_toArray, List.map_cons, List.map_nil]); first | done | rfl | (simp only [List.length_drop, List.length_take]; rfl)) ?_
         with_reducible refine (syntagmref14_Row.calls k2 _ _ t310 _ _ t313 t316 _ ?side1 ?side2 ?side3 ?side4 A36.out).mono ?_
         (case side1 => repeat (first | exact (Kd.R_reads' HO312.out).2.2 | (with_reducible refine Kd.C_alloc ?_ _) | (with_reducible refine Kd.C_drewN ?_ _) | (with_reducible refine Kd.C_drew ?_)))
         (case side2 => exact (Kd.R_reads' HO312.out).2.1)
         (case side3 => repeat (first | exact (Kd.R_reads' HO315.out).2.2 | (with_reducible refine Kd.C_alloc ?_ _) | (with_reducible refine Kd.C_drewN ?_ _) | (with_reducible refine Kd.C_drew ?_)))
         (case side4 => exact (Kd.R_reads' HO315.out).2.1)
         rintro e w' ⟨rfl, ⟨nd, rfl⟩⟩
         refine ⟨_, rfl, ?_⟩
         refine hK.out _ _ ⟨(jC BK285.out 0).trans rfl, (jC BK285.out 1).trans rfl, (jC BK285.out 2).trans rfl, (jC BK285.out 3).trans rfl, (jC BK285.out 4).trans rfl⟩ (fun hHeld => ?_)
         clear hK K
         refine norm_ (a' := ?_) ?_ ?_
         rotate_left
         ·show Act.put _ (some 83) _ = _
          simp only [Act.put, sA, i64_w, i32_w]
          rfl
         refine pure_ (i := 22) (N := some 84) (v := ?_) (a' := ?_) (tf 23 1) rfl rfl (any_of HT_.out (by kernel_rfl)) (fun _ _ _ h => h) (Or.inl ⟨by rfl, ?_⟩) ?_ ?_
         rotate_left
         ·intro w';go_simp;with_reducible rfl
         rotate_left
         ·simp only [Act.put, sA, i64_w, i32_w];rfl
         refine pure_ (i := 23) (N := some 6) (v := ?_) (a' := ?_) (tf 24 0) rfl rfl (any_of HT_.out (by kernel_rfl)) (fun _ _ _ h => h) (Or.inl ⟨by rfl, ?_⟩) ?_ ?_
         rotate_left
         ·intro w';go_simp;with_reducible rfl
         rotate_left
         ·simp only [Act.put, sA, i64_w, i32_w];rfl
         refine done_ (done_of HT_.out (by kernel_rfl)) ?_
         try go_wp2
         go_ret
         exact ⟨by first | rfl | (simp [errW_none, errW_some] <;> rfl) | (simp [*, errW_none, errW_some] <;> rfl), by repeat (first | (with_reducible first | exact HB.out | apply jA | apply jN | apply jD | refine jS ?_ GE285.out) | exact HB.out)⟩
        ·replace c32 := Bool.eq_false_iff.mpr c32
         subst c32
         have H1 : (some false) = some r := by rw [if_neg (show ¬ (false = true) by decide)] at H; exact H
         clear H
         have H := H1
         clear H1
         exact absurd ((Option.some.inj H).trans HT.out) (by decide)
 ·replace c5 := Bool.eq_false_iff.mpr c5
  subst c5
  have H1 : (some false) = some r := by rw [if_neg (show ¬ (false = true) by decide)] at H; exact H
  clear H
  have H := H1
  clear H1
  exact absurd ((Option.some.inj H).trans HT.out) (by decide)

end Go.Proofs.YtclollnicbcooaaDoor.P
end

section
namespace Go.Proofs.YtclollnicbcooaaDoor.Open
open Go Go.RowKit Go.ChangeShapes Go.WideShapes Go.Deep Go.Proofs.YtclollnicbcooaaDoorW.PrintWords

/-- What reads as data of type t is told by the kind d; 'wf': what is known of its numbers and texts. -/
structure Opens (P : Program) (t : TypeId) {α : Type} (d : Kd α) (wf : α → Prop) : Prop where
 sz : P.cellsOf t = d.sz
 down : ∀ {H : Type} {enc : TypeId × Value → H} {w : World} {base : Nat} {spare : Nat → Bool} {held : Bool} {fuel : Nat} {cs : List Value} {x : DataW H × List MemPlace},
  DataW.trod enc P w base spare held fuel t cs = some x → ∃ a : α, d.K w a cs ∧ wf a

variable {P : Program} {t e : TypeId} {α β : Type}

theorem opens_int {k : IntKind} (hc : P.cellsOf t = 1) (ht : P.underlying t = some (.int k)) : Opens P t (Kd.int k) (fun n => (Lit.int k n).wf = true) :=
 ⟨hc, fun h => by
  obtain ⟨n, rfl, _, hw⟩ := DataW.trod_int ht h
  exact ⟨n, rfl, hw⟩⟩
theorem opens_bool (hc : P.cellsOf t = 1) (ht : P.underlying t = some .bool) : Opens P t Kd.bool (fun _ => True) :=
 ⟨hc, fun h => by
  obtain ⟨b, rfl, _⟩ := DataW.trod_bool ht h
  exact ⟨b, rfl, trivial⟩⟩
theorem opens_string (hc : P.cellsOf t = 1) (ht : P.underlying t = some .string) : Opens P t Kd.string (fun s => s.size ≤ maxLen) :=
 ⟨hc, fun h => by
  obtain ⟨s, rfl, _, hs⟩ := DataW.trod_string ht h
  exact ⟨s, rfl, hs⟩⟩

theorem cells_at {w : World} {base n : Nat} {a : Addr} {cs : List Value} (h : w.cells? base a n = some cs) : cs.length = n ∧ ∀ i u, cs[i]? = some u → w.cell? (a.add i) = some u := by
 unfold World.cells? at h
 split at h
 ·have hl := mapM_some_length h
  rw [List.length_range] at hl
  refine ⟨hl, fun i u hu => ?_⟩
  have hi : i < n := by rw [← hl]; exact (List.getElem?_eq_some_iff.1 hu).1
  have := mapM_some_get h i i (by simp [hi])
  rw [this, hu]
 ·cases h

/-- A slice's elements, by the element's law. -/
theorem opens_slice {d : Kd α} {wf : α → Prop} (hc : P.cellsOf t = 1) (ht : P.underlying t = some (.slice e)) (he : Opens P e d wf) : Opens P t (Kd.slice e d) (fun xs => xs.length ≤ 9223372036854775807 ∧ ∀ x ∈ xs, wf x) :=
 ⟨hc, fun {H enc w base spare held fuel cs x} h => by
  rcases open_slice ht h with ⟨rfl, _⟩ | ⟨a, len, cap, m, n, D, Pl, rfl, hb, hl, hm, hmd, _, hel⟩
  ·exact ⟨[], ⟨none, 0, rfl, Nat.le_refl _, rfl, Nat.zero_le _, fun h => absurd h (Nat.lt_irrefl 0)⟩, Nat.zero_le _, fun x hx => by cases hx⟩
  ·have hlm : len ≤ m := by rw [hmd]; split <;> omega
   have hex : ∀ i, i < len → ∃ y : α, ∃ cs', w.cells? base (a.add (i * P.cellsOf e)) (P.cellsOf e) = some cs' ∧ d.K w y cs' ∧ wf y := fun i hi => by
    obtain ⟨cs', h1, h2⟩ := hel i (by omega)
    obtain ⟨y, hk, hw⟩ := he.down h2
    exact ⟨y, cs', h1, hk, hw⟩
   obtain ⟨f, hf⟩ : ∃ f : (i : Nat) → i < len → α, ∀ i hi, ∃ cs', w.cells? base (a.add (i * P.cellsOf e)) (P.cellsOf e) = some cs' ∧ d.K w (f i hi) cs' ∧ wf (f i hi) :=
    ⟨fun i hi => Classical.choose (hex i hi), fun i hi => Classical.choose_spec (hex i hi)⟩
   let xs : List α := List.ofFn (fun i : Fin len => f i.1 i.2)
   have hxl : xs.length = len := by simp [xs]
   refine ⟨xs, ⟨some a, cap, by rw [hxl], by rw [hxl]; exact hl, rfl, by rw [hxl]; unfold maxLen at hm; omega, fun _ => ⟨a, rfl, fun j p hj => ?_⟩⟩, by rw [hxl]; unfold maxLen at hm; omega, fun x hx => ?_⟩
   ·have hjl : j < len := by rw [← hxl]; exact (List.getElem?_eq_some_iff.1 hj).1
    obtain ⟨cs', h1, h2, _⟩ := hf j hjl
    have hp : p = f j hjl := by
     have := (List.getElem?_eq_some_iff.1 hj).2
     rw [← this]
     simp [xs]
    subst hp
    refine ⟨cs', d.K_len h2, h2, fun i u hu => ?_⟩
    have h3 := (cells_at h1).2 i u hu
    rw [Deep.add_add, he.sz] at h3
    exact h3
   ·obtain ⟨i, rfl⟩ := (List.mem_ofFn).1 hx
    exact (hf i.1 i.2).elim fun _ h => h.2.2⟩

/-- A struct's fields from one on. -/
structure OpensFs (P : Program) (fs : List Field) (off : Nat) {α : Type} (d : Kd α) (wf : α → Prop) : Prop where
 down : ∀ {H : Type} {enc : TypeId × Value → H} {w : World} {base : Nat} {spare : Nat → Bool} {held : Bool} {n : Nat} {cs : List Value}, cs.length = off + d.sz →
  (∀ f ∈ fs, ∃ y : DataW H × List MemPlace, DataW.trod enc P w base spare held n f.type ((cs.drop f.offset).take (P.cellsOf f.type)) = some y) → ∃ a : α, d.K w a (cs.drop off) ∧ wf a

theorem fields_one {f : Field} {off : Nat} {d : Kd α} {wf : α → Prop} (ho : f.offset = off) (hf : Opens P f.type d wf) : OpensFs P [f] off d wf :=
 ⟨fun {H enc w base spare held n cs} hl h => by
  obtain ⟨y, hy⟩ := h f (List.mem_singleton.2 rfl)
  rw [ho, hf.sz, List.take_of_length_le (by rw [List.length_drop]; omega)] at hy
  exact hf.down hy⟩
theorem fields_cons {f : Field} {fs : List Field} {off : Nat} {d : Kd α} {d' : Kd β} {wf : α → Prop} {wf' : β → Prop} (ho : f.offset = off) (hf : Opens P f.type d wf) (hr : OpensFs P fs (off + d.sz) d' wf') :
  OpensFs P (f :: fs) off (Kd.pair d d') (fun x => wf x.1 ∧ wf' x.2) :=
 ⟨fun {H enc w base spare held n cs} hl h => by
  have hl' : cs.length = off + (d.sz + d'.sz) := hl
  obtain ⟨y, hy⟩ := h f List.mem_cons_self
  rw [ho, hf.sz] at hy
  obtain ⟨a, ka, wa⟩ := hf.down hy
  obtain ⟨b, kb, wb⟩ := hr.down (by omega) (fun g hg => h g (List.mem_cons_of_mem _ hg))
  refine ⟨(a, b), ⟨_, _, ?_, ka, kb⟩, wa, wb⟩
  rw [← List.drop_drop, List.take_append_drop]⟩

theorem opens_struct {fs : Array Field} {d : Kd α} {wf : α → Prop} {f : β → α} (g : α → β) (hfg : ∀ a, f (g a) = a) (hc : P.cellsOf t = d.sz) (ht : P.underlying t = some (.struct fs)) (hf : OpensFs P fs.toList 0 d wf) :
  Opens P t (Kd.iso d f) (fun b => wf (f b)) :=
 ⟨hc, fun h => by
  obtain ⟨xs, n, rfl, _, hl, hx, hel⟩ := DataW.trod_struct ht h
  obtain ⟨a, ka, wa⟩ := hf.down (by rw [hl, hc]; simp) (fun q hq => by
   obtain ⟨i, hi, rfl⟩ := List.getElem_of_mem hq
   have h1 := hel i (fs.toList[i]) (by simp)
   have hi2 : i < xs.length := by rw [hx]; simpa using hi
   exact ⟨xs[i], by rw [h1]; exact List.getElem?_eq_getElem hi2⟩)
  exact ⟨g a, by show d.K _ (f (g a)) _; rw [hfg]; simpa using ka, by rw [hfg]; exact wa⟩⟩

/-- An array of two. -/
theorem opens_two {d : Kd α} {wf : α → Prop} {f : β → α × α} (g : α × α → β) (hfg : ∀ a, f (g a) = a) (hc : P.cellsOf t = d.sz + d.sz) (ht : P.underlying t = some (.array 2 e)) (he : Opens P e d wf) :
  Opens P t (Kd.iso (Kd.pair d d) f) (fun b => wf (f b).1 ∧ wf (f b).2) :=
 ⟨hc, fun {H enc w base spare held fuel cs x} h => by
  obtain ⟨xs, n, rfl, _, hl, hx, hel⟩ := DataW.trod_array ht h
  have h0 := hel 0 (by omega)
  have h1 := hel 1 (by omega)
  rw [List.getElem?_eq_getElem (by omega)] at h0 h1
  rw [he.sz] at h0 h1
  rw [Nat.zero_mul, List.drop_zero] at h0
  rw [Nat.one_mul, List.take_of_length_le (by rw [List.length_drop]; omega)] at h1
  obtain ⟨a, ka, wa⟩ := he.down h0
  obtain ⟨b, kb, wb⟩ := he.down h1
  refine ⟨g (a, b), ?_, by rw [hfg]; exact ⟨wa, wb⟩⟩
  show (Kd.pair d d).K w (f (g (a, b))) cs
  rw [hfg]
  exact ⟨_, _, (List.take_append_drop _ _).symm, ka, kb⟩⟩

/-- A value of more cells than one is written out. -/
theorem agg_of {v : Value} {cs : List Value} (h : v.cells.toList = cs) (hl : cs.length ≠ 1) : v = .agg cs.toArray := by
 subst h
 cases v <;> first | rfl | exact absurd rfl hl

end Go.Proofs.YtclollnicbcooaaDoor.Open
end

section
namespace Go.Proofs.YtclollnicbcooaaDoor.P
open Go.RowKit Go.Proofs.YtclollnicbcooaaDoor.Open Go.Proofs.YtclollnicbcooaaDoorW.PrintWords
def wf82 (x : S82) : Prop := (x.f0.size ≤ maxLen) ∧ ((x.f1.size ≤ maxLen) ∧ ((True) ∧ (((Lit.int .i64 x.f3).wf = true))))
theorem opens82 : Opens Tryd.prog 82 k82 wf82 := opens_struct (fun a => ⟨a.1, a.2.1, a.2.2.1, a.2.2.2⟩) (fun _ => rfl) (by kernel_rfl) Tryd.underlying82 (fields_cons rfl (opens_string (by kernel_rfl) Tryd.underlying9) (fields_cons rfl (opens_string (by kernel_rfl) Tryd.underlying9) (fields_cons rfl (opens_bool (by kernel_rfl) Tryd.underlying4) (fields_one rfl (opens_int (by kernel_rfl) Tryd.underlying3)))))
def wf101 (x : S101) : Prop := ((Lit.int .i64 x.f0).wf = true) ∧ (((Lit.int .i64 x.f1).wf = true))
theorem opens101 : Opens Tryd.prog 101 k101 wf101 := opens_two (fun a => ⟨a.1, a.2⟩) (fun _ => rfl) (by kernel_rfl) Tryd.underlying101 (opens_int (by kernel_rfl) Tryd.underlying3)
def wf64 (x : S64) : Prop := (x.f0.size ≤ maxLen) ∧ (((Lit.int .i64 x.f1).wf = true) ∧ ((x.f2.length ≤ 9223372036854775807 ∧ ∀ y ∈ x.f2, (Lit.int .i64 y).wf = true) ∧ (((Lit.int .i64 x.f3).wf = true))))
theorem opens64 : Opens Tryd.prog 64 k64 wf64 := opens_struct (fun a => ⟨a.1, a.2.1, a.2.2.1, a.2.2.2⟩) (fun _ => rfl) (by kernel_rfl) Tryd.underlying64 (fields_cons rfl (opens_string (by kernel_rfl) Tryd.underlying9) (fields_cons rfl (opens_int (by kernel_rfl) Tryd.underlying3) (fields_cons rfl (opens_slice (by kernel_rfl) Tryd.underlying62 (opens_int (by kernel_rfl) Tryd.underlying29)) (fields_one rfl (opens_int (by kernel_rfl) Tryd.underlying3)))))
def wf27 (x : S27) : Prop := (x.f0.length ≤ 9223372036854775807 ∧ ∀ y ∈ x.f0, wf82 y) ∧ ((x.f1.length ≤ 9223372036854775807 ∧ ∀ y ∈ x.f1, wf101 y) ∧ ((x.f2.length ≤ 9223372036854775807 ∧ ∀ y ∈ x.f2, y.size ≤ maxLen) ∧ ((x.f3.length ≤ 9223372036854775807 ∧ ∀ y ∈ x.f3, wf64 y) ∧ (((Lit.int .i64 x.f4).wf = true)))))
theorem opens27 : Opens Tryd.prog 27 k27 wf27 := opens_struct (fun a => ⟨a.1, a.2.1, a.2.2.1, a.2.2.2.1, a.2.2.2.2⟩) (fun _ => rfl) (by kernel_rfl) Tryd.underlying27 (fields_cons rfl (opens_slice (by kernel_rfl) Tryd.underlying22 opens82) (fields_cons rfl (opens_slice (by kernel_rfl) Tryd.underlying23 opens101) (fields_cons rfl (opens_slice (by kernel_rfl) Tryd.underlying24 (opens_string (by kernel_rfl) Tryd.underlying9)) (fields_cons rfl (opens_slice (by kernel_rfl) Tryd.underlying25 opens64) (fields_one rfl (opens_int (by kernel_rfl) Tryd.underlying3))))))
def wf37 (x : S37) : Prop := ((Lit.int .i64 x.f0).wf = true) ∧ (((Lit.int .i64 x.f1).wf = true))
theorem opens37 : Opens Tryd.prog 37 k37 wf37 := opens_struct (fun a => ⟨a.1, a.2⟩) (fun _ => rfl) (by kernel_rfl) Tryd.underlying37 (fields_cons rfl (opens_int (by kernel_rfl) Tryd.underlying3) (fields_one rfl (opens_int (by kernel_rfl) Tryd.underlying3)))
end Go.Proofs.YtclollnicbcooaaDoor.P
end

section
namespace Go.Proofs.YtclollnicbcooaaDoor.P
open Go.RowKit Go.Proofs.YtclollnicbcooaaDoorW.PrintWords Go.Proofs.YtclollnicbcooaaDoorW.PrintLast Go.Proofs.YtclollnicbcooaaDoorW.PrintMore St

def toJ (x : S39) : Itm := (x.f0, x.f1)
def ofJ (x : Itm) : S39 := ⟨x.1, x.2⟩
theorem toJ_ofJ (x : Itm) : toJ (ofJ x) = x := rfl
theorem ofJ_toJ (x : S39) : ofJ (toJ x) = x := rfl
theorem map_ofJ_toJ (l : List S39) : (l.map toJ).map ofJ = l := by
 rw [List.map_map]
 exact (List.map_congr_left (fun x _ => ofJ_toJ x)).trans (List.map_id l)
theorem map_toJ_ofJ (l : List Itm) : (l.map ofJ).map toJ = l := by
 rw [List.map_map]
 exact (List.map_congr_left (fun x _ => toJ_ofJ x)).trans (List.map_id l)
theorem rd39 (l : List S39) (i : Nat) (h : i < l.length) : rd_T39 l (i : Int) = l[i] := by
 unfold rd_T39
 rw [Int.toNat_natCast, List.getD_eq_getElem?_getD, List.getElem?_eq_getElem h]
 rfl
theorem wrap_up (i : Nat) (h : i < 9223372036854775807) : wrap64 ((i : Int) + 1) = ((i + 1 : Nat) : Int) := by unfold wrap64; omega

theorem has_l0 (l : List S39) (a b : Int) (hl : l.length < 4611686018427387904) : ∀ (m i : Nat), i + m = l.length → Ev (fun k => syntagmref14_has.l0 k l i a b) (decide ((a, b) ∈ (l.drop i).map toJ))
 | 0, i, hi => by
  refine Ev.step (f := fun _ => some (decide ((a, b) ∈ (l.drop i).map toJ))) (fun k => ?_) (Ev.now _)
  rw [syntagmref14_has.l0, if_neg (by omega), List.drop_eq_nil_of_le (by omega)]
  rfl
 | m + 1, i, hi => by
  have hlt : i < l.length := by omega
  have ih := has_l0 l a b hl m (i + 1) (by omega)
  rw [List.drop_eq_getElem_cons hlt, List.map_cons]
  by_cases h : (a, b) = toJ l[i]
  ·rw [decide_eq_true (show (a, b) ∈ toJ l[i] :: (l.drop (i + 1)).map toJ by rw [h]; exact List.mem_cons_self)]
   refine Ev.step (f := fun _ => some true) (fun k => ?_) (Ev.now _)
   have h1 : a = l[i].f0 := congrArg Prod.fst h
   have h2 : b = l[i].f1 := congrArg Prod.snd h
   rw [syntagmref14_has.l0, if_pos (by omega), if_pos (by omega), rd39 l i hlt, if_pos (by rw [h1, h2]; simp)]
  ·have e : decide ((a, b) ∈ toJ l[i] :: (l.drop (i + 1)).map toJ) = decide ((a, b) ∈ (l.drop (i + 1)).map toJ) := by
    rw [decide_eq_decide, List.mem_cons]
    exact ⟨fun hh => hh.resolve_left h, .inr⟩
   rw [e]
   refine Ev.step (fun k => ?_) ih
   rw [syntagmref14_has.l0, if_pos (by omega), if_pos (by omega), rd39 l i hlt, if_neg, wrap_up i (by omega)]
   intro hh
   rw [Bool.and_eq_true, beq_iff_eq, beq_iff_eq] at hh
   exact h (Prod.ext hh.1.symm hh.2.symm)
theorem has_ev (l : List S39) (a b : Int) (hl : l.length < 4611686018427387904) : Ev (fun k => syntagmref14_has.f k l a b) (decide ((a, b) ∈ l.map toJ)) := has_l0 l a b hl l.length 0 (by omega)
theorem less_is (a b c d : Int) : syntagmref14_less.f a b c d = some (decide (lt (a, b) (c, d))) := by
 have hl : lt (a, b) (c, d) ↔ (a < c ∨ a = c ∧ b < d) := Iff.rfl
 unfold syntagmref14_less.f
 by_cases h : a < c
 ·rw [if_pos h, decide_eq_true (hl.2 (by omega))]
 ·rw [if_neg h]
  by_cases h2 : a = c
  ·rw [if_pos h2]
   congr 1
   rw [decide_eq_decide, hl]
   omega
  ·rw [if_neg h2, decide_eq_false (fun hh => by have := hl.1 hh; omega)]

def AtR (l : List S39) (a : Int) (r : Option Itm) : Prop := (a = -1 ∧ r = none) ∨ ∃ (j : Nat) (h : j < l.length), a = (j : Int) ∧ r = some (toJ l[j])
theorem rising_l1 (l out : List S39) (hl : l.length ≤ 4000000000000) (ho : out.length ≤ 4000000000000) (n : Nat) (hn : n ≤ l.length) (R : List S39)
  (hE : ∀ p, p = pickL (out.map toJ) (l.map toJ) none → Ev (fun k => syntagmref14_rising.l0 k l (match p with | none => out | some x => out ++ [ofJ x]) ((n + 1 : Nat) : Int)) R) :
  ∀ (m i : Nat) (a : Int) (r : Option Itm), i + m = l.length → AtR l a r → pickL (out.map toJ) ((l.drop i).map toJ) r = pickL (out.map toJ) (l.map toJ) none → Ev (fun k => syntagmref14_rising.l1 k l out n a i) R
 | 0, i, a, r, hi, hA, hp => by
  rw [List.drop_eq_nil_of_le (by omega), List.map_nil, pickL] at hp
  have h := hE r hp
  rcases hA with ⟨rfl, rfl⟩ | ⟨j, hj, rfl, rfl⟩
  ·refine Ev.step (fun k => ?_) h
   rw [syntagmref14_rising.l1, if_neg (by omega), if_neg (by decide), wrap_up n (by omega)]
  ·refine Ev.step (fun k => ?_) h
   rw [syntagmref14_rising.l1, if_neg (by omega), if_pos (by omega), if_pos (by omega), if_pos (by omega), if_pos (by omega), rd39 l j hj, wrap_up n (by omega)]
   rfl
 | m + 1, i, a, r, hi, hA, hp => by
  have hlt : i < l.length := by omega
  obtain ⟨K1, h1⟩ := has_ev out (l[i].f0) (l[i].f1) (by omega)
  rw [List.drop_eq_getElem_cons hlt, List.map_cons, pickL] at hp
  have hw := wrap_up i (by omega)
  by_cases hin : toJ l[i] ∈ out.map toJ
  ·rw [if_neg (fun h => h.1 hin)] at hp
   obtain ⟨K2, h2⟩ := rising_l1 l out hl ho n hn R hE m (i + 1) a r (by omega) hA hp
   refine ⟨max K1 K2 + 1, fun k hk => ?_⟩
   obtain ⟨k, rfl⟩ : ∃ j, k = j + 1 := ⟨k - 1, by omega⟩
   first | dsimp only at h1 h2 ⊢ | dsimp only at h2 ⊢
   rw [syntagmref14_rising.l1, if_pos (by omega), if_pos (by omega), rd39 l i hlt, h1 k (by omega), Option.bind_some, decide_eq_true (show (l[i].f0, l[i].f1) ∈ out.map toJ from hin), if_pos rfl, hw]
   exact h2 k (by omega)
  ·have hd : decide ((l[i].f0, l[i].f1) ∈ out.map toJ) = false := decide_eq_false hin
   rcases hA with ⟨rfl, rfl⟩ | ⟨j, hj, rfl, rfl⟩
   ·rw [if_pos ⟨hin, rfl⟩] at hp
    obtain ⟨K2, h2⟩ := rising_l1 l out hl ho n hn R hE m (i + 1) i (some (toJ l[i])) (by omega) (.inr ⟨i, hlt, rfl, rfl⟩) hp
    refine ⟨max K1 K2 + 1, fun k hk => ?_⟩
    obtain ⟨k, rfl⟩ : ∃ j, k = j + 1 := ⟨k - 1, by omega⟩
    first | dsimp only at h1 h2 ⊢ | dsimp only at h2 ⊢
    rw [syntagmref14_rising.l1, if_pos (by omega), if_pos (by omega), rd39 l i hlt, h1 k (by omega), Option.bind_some, hd, if_neg (by decide), if_pos (by decide), hw]
    exact h2 k (by omega)
   ·have hls : syntagmref14_less.f l[i].f0 l[i].f1 l[j].f0 l[j].f1 = some (St.less (toJ l[i]) (some (toJ l[j]))) := less_is _ _ _ _
    cases hb : St.less (toJ l[i]) (some (toJ l[j])) with
    | true =>
     rw [if_pos ⟨hin, hb⟩] at hp
     rw [hb] at hls
     obtain ⟨K2, h2⟩ := rising_l1 l out hl ho n hn R hE m (i + 1) i (some (toJ l[i])) (by omega) (.inr ⟨i, hlt, rfl, rfl⟩) hp
     refine ⟨max K1 K2 + 1, fun k hk => ?_⟩
     obtain ⟨k, rfl⟩ : ∃ j, k = j + 1 := ⟨k - 1, by omega⟩
     first | dsimp only at h1 h2 ⊢ | dsimp only at h2 ⊢
     rw [syntagmref14_rising.l1, if_pos (by omega), if_pos (by omega), rd39 l i hlt, h1 k (by omega), Option.bind_some, hd, if_neg (by decide), if_neg (by omega), if_pos (by omega), if_pos (by omega), rd39 l j hj, hls, Option.bind_some, if_pos rfl, hw]
     exact h2 k (by omega)
    | false =>
     rw [if_neg (fun h => by rw [hb] at h; exact absurd h.2 (by decide))] at hp
     rw [hb] at hls
     obtain ⟨K2, h2⟩ := rising_l1 l out hl ho n hn R hE m (i + 1) j (some (toJ l[j])) (by omega) (.inr ⟨j, hj, rfl, rfl⟩) hp
     refine ⟨max K1 K2 + 1, fun k hk => ?_⟩
     obtain ⟨k, rfl⟩ : ∃ j, k = j + 1 := ⟨k - 1, by omega⟩
     first | dsimp only at h1 h2 ⊢ | dsimp only at h2 ⊢
     rw [syntagmref14_rising.l1, if_pos (by omega), if_pos (by omega), rd39 l i hlt, h1 k (by omega), Option.bind_some, hd, if_neg (by decide), if_neg (by omega), if_pos (by omega), if_pos (by omega), rd39 l j hj, hls, Option.bind_some, if_neg (by decide), hw]
     exact h2 k (by omega)
theorem rising_l0 (l : List S39) (hl : l.length ≤ 4000000000000) : ∀ (m n : Nat) (out : List S39), n + m = l.length → out.length ≤ n → Ev (fun k => syntagmref14_rising.l0 k l out n) ((riseR (l.map toJ) m (out.map toJ)).map ofJ)
 | 0, n, out, hn, ho => by
  rw [riseR, map_ofJ_toJ]
  refine Ev.step (f := fun _ => some out) (fun k => ?_) (Ev.now _)
  rw [syntagmref14_rising.l0, if_neg (by omega)]
 | m + 1, n, out, hn, ho => by
  have h := rising_l1 l out hl (by omega) n (by omega) ((riseR (l.map toJ) (m + 1) (out.map toJ)).map ofJ) (fun p hp => by
   rw [riseR, ← hp]
   cases p with
   | none => exact rising_l0 l hl m (n + 1) out (by omega) (by omega)
   | some x =>
    have := rising_l0 l hl m (n + 1) (out ++ [ofJ x]) (by omega) (by rw [List.length_append, List.length_singleton]; omega)
    rw [List.map_append, List.map_singleton, toJ_ofJ] at this
    exact this) l.length 0 (-1) none (by omega) (.inl ⟨rfl, rfl⟩) rfl
  refine Ev.step (fun k => ?_) h
  rw [syntagmref14_rising.l0, if_pos (by omega)]
  rfl
theorem rising_ev (l : List S39) (hl : l.length ≤ 4000000000000) : Ev (fun k => syntagmref14_rising.f k l) ((riseR (l.map toJ) l.length []).map ofJ) := rising_l0 l hl l.length 0 [] (by omega) (Nat.zero_le _)

/-! ### of a grammar that may be -/
theorem refv_ok {l0 : List S82} {l1 : List S101} {l2 : List ByteArray} {l3 : List S64} {st : Int} (h : ∀ p ∈ l3, ∀ s ∈ p.f2, -9223372036854775808 ≤ s ∧ s ≤ 9223372036854775807) : syntagmref12_Valid.f l0 l1 l2 l3 st = some (validB l0 l1 l2 l3 st) := by
 unfold syntagmref12_Valid.f
 rw [if_pos h]
theorem addL_app : ∀ (a b out : List Itm), addL (a ++ b) out = addL b (addL a out)
 | [], b, out => rfl
 | x :: a, b, out => by rw [List.cons_append, addL, addL, addL_app a b]
section
variable {l0 : List S82} {l1 : List S101} {l2 : List ByteArray} {l3 : List S64} {st : Int} (h : Fits l2 l3 st) (hv : validB l0 l1 l2 l3 st = true) (hr : ∀ p ∈ l3, ∀ s ∈ p.f2, -9223372036854775808 ≤ s ∧ s ≤ 9223372036854775807)
include h hv hr
theorem refright_is (a : Int) (r : List Int) (hq : rightL (gr st l3) a = some r) : syntagmref14_Right.f l0 l1 l2 l3 st a = some r := by
 unfold syntagmref14_Right.f
 unfold rightL at hq
 rw [gr_len] at hq
 rw [wrap_start h]
 by_cases h1 : a = -1
 ·rw [if_pos h1] at hq ⊢; exact hq
 ·rw [if_neg h1] at hq ⊢
  split at hq
  ·rename_i h2
   rw [if_pos h2.1, if_pos (by omega)]
   rw [gr_at st l3 a h2.1 h2.2] at hq
   exact hq
  ·cases hq
theorem refis_is (a b : Int) : syntagmref14_Is.f l0 l1 l2 l3 st a b = some (isI (gr st l3) (a, b)) := by
 unfold syntagmref14_Is.f isI
 rw [refv_ok hr, Option.bind_some, hv, if_pos rfl]
 cases hq : rightL (gr st l3) a with
 | none =>
  simp only
  unfold rightL at hq
  rw [gr_len] at hq
  split at hq
  ·cases hq
  ·split at hq
   ·cases hq
   ·by_cases h1 : a ≥ -1
    ·rw [if_pos h1, if_neg (by omega)]
    ·rw [if_neg h1]
 | some r =>
  simp only
  have h1 : a ≥ -1 ∧ a < (l3.length : Int) := by
   unfold rightL at hq
   rw [gr_len] at hq
   split at hq
   ·omega
   ·split at hq
    ·omega
    ·cases hq
  rw [if_pos h1.1, if_pos h1.2]
  by_cases h2 : b ≥ 0
  ·rw [if_pos h2, refright_is h hv hr a r hq, Option.bind_some]; simp [h2]
  ·rw [if_neg h2]; simp [h2]
theorem refbehind_is (a b : Int) : syntagmref14_Behind.f l0 l1 l2 l3 st a b = some (match behindL (gr st l3) (a, b) with | some s => (s, true) | none => (0, false)) := by
 unfold syntagmref14_Behind.f
 rw [refis_is h hv hr, Option.bind_some]
 unfold isI behindL
 cases hq : rightL (gr st l3) a with
 | none => simp
 | some r =>
  simp only
  by_cases h1 : 0 ≤ b ∧ b ≤ r.length
  ·rw [if_pos (decide_eq_true h1), refright_is h hv hr a r hq, Option.bind_some]
   by_cases h2 : b = (r.length : Int)
   ·rw [if_pos (by omega), if_neg (by omega)]
   ·rw [if_neg (by omega), Option.bind_some, if_pos h1.1, if_pos (by omega), if_pos (by omega)]
    rfl
  ·rw [if_neg (by simpa using h1), if_neg (by omega)]

theorem close_l2 (i : Nat) (hi : i < 4000000000000) (s : Int) (hs : s < 0) (hs2 : -9223372036854775808 ≤ s) (o0 : List Itm) (R : List S39) (hE : ∀ out : List S39, out.map toJ = addL (ofSort (gr st l3) (-1 - s) l3.length) o0 → Ev (fun k => syntagmref14_Close.l1 k out ((i + 1 : Nat) : Int) l0 l1 l2 l3 st) R) :
  ∀ (m p : Nat) (out : List S39), p + m = l3.length → out.length ≤ 1000000 + p → out.map toJ = addL (ofSort (gr st l3) (-1 - s) p) o0 → Ev (fun k => syntagmref14_Close.l2 k out i s true p l0 l1 l2 l3 st) R
 | 0, p, out, hp, ho, he => by
  have hpl : p = l3.length := by omega
  rw [hpl] at he
  have hj : Ev (fun k => syntagmref14_Close.j3 k out i s true p false l0 l1 l2 l3 st) R := by
   refine Ev.step (fun k => ?_) (hE out he)
   rw [syntagmref14_Close.j3, if_neg (by decide), wrap_up i (by omega)]
  refine Ev.step (fun k => ?_) hj
  rw [syntagmref14_Close.l2, if_neg (by omega)]
 | m + 1, p, out, hp, ho, he => by
  have hlt : p < l3.length := by omega
  have hf := h.few
  have hps : (rd_T64 l3 (p : Int)).f1 = ((gr st l3).ps.getD p (0, [])).1 := by
   have := gr_at st l3 (p : Int) (by omega) (by omega)
   rw [Int.toNat_natCast] at this
   rw [this]
  have hwp := wrap_up p (by omega)
  have hws : wrap64 ((-1) - s) = -1 - s := IntWalk.wrap64_in _ (by omega)
  have main : Ev (fun k => syntagmref14_Close.j3 k out i s true p true l0 l1 l2 l3 st) R := by
   have hsc := ofSort_succ (gr st l3) (-1 - s) p
   by_cases hq : ((gr st l3).ps.getD p (0, [])).1 = -1 - s
   ·rw [if_pos hq] at hsc
    obtain ⟨K1, h1⟩ := has_ev out (p : Int) 0 (by omega)
    by_cases hin : ((p : Int), (0 : Int)) ∈ out.map toJ
    ·have he2 : out.map toJ = addL (ofSort (gr st l3) (-1 - s) (p + 1)) o0 := by
      rw [hsc, addL_app, ← he, addL, if_pos hin, addL]
     obtain ⟨K2, h2⟩ := close_l2 i hi s hs hs2 o0 R hE m (p + 1) out (by omega) (by omega) he2
     refine ⟨max K1 K2 + 1, fun k hk => ?_⟩
     obtain ⟨k, rfl⟩ : ∃ j, k = j + 1 := ⟨k - 1, by omega⟩
     first | dsimp only at h1 h2 ⊢ | dsimp only at h2 ⊢
     rw [syntagmref14_Close.j3, if_pos rfl, if_pos (by omega), if_pos (by omega), hps, hws, if_pos hq, h1 k (by omega), Option.bind_some, decide_eq_true hin, if_pos rfl, hwp]
     exact h2 k (by omega)
    ·have he2 : (out ++ [(⟨(p : Int), 0⟩ : S39)]).map toJ = addL (ofSort (gr st l3) (-1 - s) (p + 1)) o0 := by
      rw [hsc, addL_app, ← he, addL, if_neg hin, addL, List.map_append]
      rfl
     obtain ⟨K2, h2⟩ := close_l2 i hi s hs hs2 o0 R hE m (p + 1) _ (by omega) (by rw [List.length_append, List.length_singleton]; omega) he2
     refine ⟨max K1 K2 + 1, fun k hk => ?_⟩
     obtain ⟨k, rfl⟩ : ∃ j, k = j + 1 := ⟨k - 1, by omega⟩
     first | dsimp only at h1 h2 ⊢ | dsimp only at h2 ⊢
     rw [syntagmref14_Close.j3, if_pos rfl, if_pos (by omega), if_pos (by omega), hps, hws, if_pos hq, h1 k (by omega), Option.bind_some, decide_eq_false hin, if_neg (by decide), if_pos (by omega), hwp]
     exact h2 k (by omega)
   ·rw [if_neg hq, List.append_nil] at hsc
    obtain ⟨K2, h2⟩ := close_l2 i hi s hs hs2 o0 R hE m (p + 1) out (by omega) (by omega) (by rw [hsc]; exact he)
    refine ⟨K2 + 1, fun k hk => ?_⟩
    obtain ⟨k, rfl⟩ : ∃ j, k = j + 1 := ⟨k - 1, by omega⟩
    first | dsimp only at h1 h2 ⊢ | dsimp only at h2 ⊢
    rw [syntagmref14_Close.j3, if_pos rfl, if_pos (by omega), if_pos (by omega), hps, hws, if_neg hq, hwp]
    exact h2 k (by omega)
  refine Ev.step (fun k => ?_) main
  rw [syntagmref14_Close.l2, if_pos (by omega), if_pos rfl, decide_eq_true hs]
theorem close_l1 : ∀ (K i : Nat) (out : List S39) (r : List Itm), growL (gr st l3) K i (out.map toJ) = some r → (out.map toJ).Nodup → (∀ x ∈ out.map toJ, isI (gr st l3) x = true) → i ≤ out.length → Ev (fun k => syntagmref14_Close.l1 k out i l0 l1 l2 l3 st) ((riseR r r.length []).map ofJ)
 | 0, i, out, r, hg, hd, ha, hi => by cases hg
 | K + 1, i, out, r, hg, hd, ha, hi => by
  have hlen : out.length ≤ 1562 := by
   have h1 := few_of (allI (gr st l3)) (out.map toJ) hd (fun x hx => allI_has _ x (ha x hx))
   have h2 := allI_len h
   rw [List.length_map] at h1
   omega
  rw [growL, List.getElem?_map] at hg
  by_cases hlt : i < out.length
  ·rw [List.getElem?_eq_getElem hlt, Option.map_some] at hg
   simp only at hg
   have hbh := refbehind_is h hv hr out[i].f0 out[i].f1
   obtain ⟨⟨M, a1⟩, a2, a3⟩ := addL_is (nexts (gr st l3) (toJ out[i])) (out.map toJ)
   have hil : i < 4000000000000 := by omega
   -- what comes after
   have hE : ∀ out' : List S39, out'.map toJ = addL (nexts (gr st l3) (toJ out[i])) (out.map toJ) → Ev (fun k => syntagmref14_Close.l1 k out' ((i + 1 : Nat) : Int) l0 l1 l2 l3 st) ((riseR r r.length []).map ofJ) := fun out' he => by
    refine close_l1 K (i + 1) out' r (by rw [he]; exact hg) (by rw [he]; exact a3 hd) (fun x hx => ?_) ?_
    ·rw [he] at hx
     rcases (a2 x).1 hx with e | e
     ·exact ha x e
     ·exact nexts_is _ _ x e
    ·have e := congrArg List.length he
     rw [a1, List.length_append, List.length_map, List.length_map] at e
     omega
   have stop : ∀ (s : Int) (ok : Bool), (ok && decide (s < 0)) = false → addL (nexts (gr st l3) (toJ out[i])) (out.map toJ) = out.map toJ → Ev (fun k => syntagmref14_Close.l2 k out i s ok 0 l0 l1 l2 l3 st) ((riseR r r.length []).map ofJ) := fun s ok hsk he => by
    have hj : Ev (fun k => syntagmref14_Close.j3 k out i s ok 0 false l0 l1 l2 l3 st) ((riseR r r.length []).map ofJ) := by
     refine Ev.step (fun k => ?_) (hE out he.symm)
     rw [syntagmref14_Close.j3, if_neg (by decide), wrap_up i (by omega)]
    refine Ev.step (fun k => ?_) hj
    rw [syntagmref14_Close.l2]
    split
    ·cases ok with
     | true =>
      rw [Bool.true_and] at hsk
      rw [if_pos rfl, hsk]
     | false => rw [if_neg (by decide)]
    ·rfl
   cases hb : behindL (gr st l3) (out[i].f0, out[i].f1) with
   | none =>
    rw [hb] at hbh
    have hn : nexts (gr st l3) (toJ out[i]) = [] := by
     unfold nexts toJ
     rw [hb]
    have hz := stop 0 false rfl (by rw [hn]; rfl)
    refine Ev.step (fun k => ?_) hz
    rw [syntagmref14_Close.l1, if_pos (by omega), if_pos (by omega), rd39 out i hlt, hbh, Option.bind_some]
   | some s =>
    rw [hb] at hbh
    have hsr : -9223372036854775808 ≤ s := behind_rng h (fun p hp s hs => (hr p hp s hs).1) hb
    by_cases hs : s < 0
    ·have hn : nexts (gr st l3) (toJ out[i]) = ofSort (gr st l3) (-1 - s) l3.length := by
      rw [nexts_ofSort _ (toJ out[i]) s hb hs, gr_len]
     rw [hn] at hE
     have hz := close_l2 h hv hr i hil s hs hsr (out.map toJ) _ hE l3.length 0 out (by omega) (by omega) rfl
     refine Ev.step (fun k => ?_) hz
     rw [syntagmref14_Close.l1, if_pos (by omega), if_pos (by omega), rd39 out i hlt, hbh, Option.bind_some]
     rfl
    ·have hn : nexts (gr st l3) (toJ out[i]) = [] := by
      unfold nexts toJ
      rw [hb]
      simp only
      rw [if_neg hs]
     have hz := stop s true (by rw [Bool.true_and]; exact decide_eq_false hs) (by rw [hn]; rfl)
     refine Ev.step (fun k => ?_) hz
     rw [syntagmref14_Close.l1, if_pos (by omega), if_pos (by omega), rd39 out i hlt, hbh, Option.bind_some]
  ·rw [List.getElem?_eq_none (by omega), Option.map_none] at hg
   simp only at hg
   have hg := Option.some.inj hg
   have hz := rising_ev out (by omega)
   rw [hg, show out.length = r.length by rw [← hg, List.length_map]] at hz
   obtain ⟨K2, h2⟩ := hz
   refine ⟨K2 + 1, fun k hk => ?_⟩
   obtain ⟨k, rfl⟩ : ∃ j, k = j + 1 := ⟨k - 1, by omega⟩
   first | dsimp only at h1 h2 ⊢ | dsimp only at h2 ⊢
   rw [syntagmref14_Close.l1, if_neg (by omega), h2 k (by omega), Option.bind_some]
end
end Go.Proofs.YtclollnicbcooaaDoor.P
end

section
namespace Go.Proofs.YtclollnicbcooaaDoor.P
open Go.RowKit Go.Proofs.YtclollnicbcooaaDoorW.PrintWords Go.Proofs.YtclollnicbcooaaDoorW.PrintLast Go.Proofs.YtclollnicbcooaaDoorW.PrintMore St

theorem rd37 (l : List S37) (i : Nat) (h : i < l.length) : rd_T37 l (i : Int) = l[i] := by
 unfold rd_T37
 rw [Int.toNat_natCast, List.getD_eq_getElem?_getD, List.getElem?_eq_getElem h]
 rfl
theorem lawrow_l0 (l : List S37) (hl : l.length ≤ 4000000000000) : ∀ (m i : Nat) (out : List S39), i + m = l.length → out.length = i → Ev (fun k => syntagmlaw14_Row.l0 k l out i) (out ++ ((l.drop i).map toI).map ofJ)
 | 0, i, out, hi, ho => by
  refine Ev.step (f := fun _ => some out) (fun k => ?_) ?_
  ·rw [syntagmlaw14_Row.l0, if_neg (by omega)]
  ·rw [List.drop_eq_nil_of_le (by omega), List.map_nil, List.map_nil, List.append_nil]
   exact Ev.now _
 | m + 1, i, out, hi, ho => by
  have hlt : i < l.length := by omega
  have ih := lawrow_l0 l hl m (i + 1) (out ++ [(⟨l[i].f0, l[i].f1⟩ : S39)]) (by omega) (by rw [List.length_append, List.length_singleton]; omega)
  rw [List.append_assoc] at ih
  rw [List.drop_eq_getElem_cons hlt]
  refine Ev.step (fun k => ?_) ih
  rw [syntagmlaw14_Row.l0, if_pos (by omega), if_pos (by omega), if_pos (by omega), rd37 l i hlt, wrap_up i (by omega)]
theorem lawrow_ev (l : List S37) (hl : l.length ≤ 4000000000000) : Ev (fun k => syntagmlaw14_Row.f k l) ((l.map toI).map ofJ) := by
 have := lawrow_l0 l hl l.length 0 [] (by omega) rfl
 rw [List.nil_append, List.drop_zero] at this
 exact this
theorem refrow_l0 (a b : List S39) (hl : a.length = b.length) (hs : a.length ≤ 4000000000000) : ∀ (m i : Nat), i + m = a.length → Ev (fun k => syntagmref14_Row.l0 k a b i) (decide ((a.drop i).map toJ = (b.drop i).map toJ))
 | 0, i, hi => by
  refine Ev.step (f := fun _ => some true) (fun k => ?_) ?_
  ·rw [syntagmref14_Row.l0, if_neg (by omega)]
  ·rw [List.drop_eq_nil_of_le (by omega), List.drop_eq_nil_of_le (by omega)]
   exact Ev.now _
 | m + 1, i, hi => by
  have hla : i < a.length := by omega
  have hlb : i < b.length := by omega
  have ih := refrow_l0 a b hl hs m (i + 1) (by omega)
  rw [List.drop_eq_getElem_cons hla, List.drop_eq_getElem_cons hlb, List.map_cons, List.map_cons]
  by_cases he : toJ a[i] = toJ b[i]
  ·have e : decide (toJ a[i] :: (a.drop (i + 1)).map toJ = toJ b[i] :: (b.drop (i + 1)).map toJ) = decide ((a.drop (i + 1)).map toJ = (b.drop (i + 1)).map toJ) := by
    rw [decide_eq_decide, List.cons.injEq]
    exact ⟨fun h => h.2, fun h => ⟨he, h⟩⟩
   rw [e]
   have h0 : a[i].f0 = b[i].f0 := congrArg Prod.fst he
   have h1 : a[i].f1 = b[i].f1 := congrArg Prod.snd he
   refine Ev.step (fun k => ?_) ih
   rw [syntagmref14_Row.l0, if_pos (by omega), if_pos (by omega), if_pos (by omega), rd39 a i hla, rd39 b i hlb, h0, h1, if_neg (by simp), wrap_up i (by omega)]
  ·rw [decide_eq_false (fun h => he (List.cons.inj h).1)]
   refine Ev.step (f := fun _ => some false) (fun k => ?_) (Ev.now _)
   rw [syntagmref14_Row.l0, if_pos (by omega), if_pos (by omega), if_pos (by omega), rd39 a i hla, rd39 b i hlb, if_pos]
   rw [Bool.or_eq_true, Bool.not_eq_true', Bool.not_eq_true', beq_eq_false_iff_ne, beq_eq_false_iff_ne]
   by_cases h0 : a[i].f0 = b[i].f0
   ·exact .inr fun h1 => he (Prod.ext h0 h1)
   ·exact .inl h0
theorem refrow_ev (a b : List Itm) (hs : a.length ≤ 4000000000000) : Ev (fun k => syntagmref14_Row.f k (a.map ofJ) (b.map ofJ)) (decide (a = b)) := by
 by_cases hl : a.length = b.length
 ·have hz := refrow_l0 (a.map ofJ) (b.map ofJ) (by rw [List.length_map, List.length_map]; exact hl) (by rw [List.length_map]; exact hs) (a.map ofJ).length 0 (by omega)
  rw [List.drop_zero, List.drop_zero, map_toJ_ofJ, map_toJ_ofJ] at hz
  refine Ev.congr (fun k => ?_) hz
  unfold syntagmref14_Row.f
  rw [if_pos (by rw [List.length_map, List.length_map, hl])]
  rfl
 ·rw [decide_eq_false (fun h => hl (congrArg List.length h))]
  refine Ev.congr (f := fun _ => some false) (fun k => ?_) (Ev.now _)
  unfold syntagmref14_Row.f
  rw [if_neg (by rw [List.length_map, List.length_map]; omega)]

section
variable {l0 : List S82} {l1 : List S101} {l2 : List ByteArray} {l3 : List S64} {st : Int} (h : Fits l2 l3 st) (hv : validB l0 l1 l2 l3 st = true) (hr : ∀ p ∈ l3, ∀ s ∈ p.f2, -9223372036854775808 ≤ s ∧ s ≤ 9223372036854775807)
include h hv hr
theorem close_l0 (l : List S39) (hl : l.length ≤ 1000000) (K : Nat) (r : List Itm) (hg : growL (gr st l3) K 0 (baseL (gr st l3) (l.map toJ)) = some r) : ∀ (m i : Nat) (out : List S39), i + m = l.length → out.length ≤ i → addL (((l.drop i).map toJ).filter fun x => isI (gr st l3) x) (out.map toJ) = baseL (gr st l3) (l.map toJ) → Ev (fun k => syntagmref14_Close.l0 k l out i l0 l1 l2 l3 st) ((riseR r r.length []).map ofJ)
 | 0, i, out, hi, ho, he => by
  rw [List.drop_eq_nil_of_le (by omega), List.map_nil, List.filter_nil, addL] at he
  obtain ⟨b1, b2, b3⟩ := baseL_is (gr st l3) (l.map toJ)
  refine Ev.step (fun k => ?_) (close_l1 h hv hr K 0 out r (by rw [he]; exact hg) (by rw [he]; exact b1) (by rw [he]; exact b2) (Nat.zero_le _))
  rw [syntagmref14_Close.l0, if_neg (by omega)]
  rfl
 | m + 1, i, out, hi, ho, he => by
  have hlt : i < l.length := by omega
  have hw := wrap_up i (by omega)
  rw [List.drop_eq_getElem_cons hlt, List.map_cons] at he
  have his := refis_is h hv hr l[i].f0 l[i].f1
  cases hI : isI (gr st l3) (l[i].f0, l[i].f1) with
  | false =>
   rw [List.filter_cons_of_neg (by rw [show toJ l[i] = (l[i].f0, l[i].f1) from rfl, hI]; decide)] at he
   rw [hI] at his
   refine Ev.step (fun k => ?_) (close_l0 l hl K r hg m (i + 1) out (by omega) (by omega) he)
   rw [syntagmref14_Close.l0, if_pos (by omega), if_pos (by omega), rd39 l i hlt, his, Option.bind_some, if_neg (by decide), hw]
  | true =>
   rw [List.filter_cons_of_pos (by rw [show toJ l[i] = (l[i].f0, l[i].f1) from rfl, hI]), addL] at he
   rw [hI] at his
   obtain ⟨K1, h1⟩ := has_ev out l[i].f0 l[i].f1 (by omega)
   by_cases hin : toJ l[i] ∈ out.map toJ
   ·rw [if_pos hin] at he
    obtain ⟨K2, h2⟩ := close_l0 l hl K r hg m (i + 1) out (by omega) (by omega) he
    refine ⟨max K1 K2 + 1, fun k hk => ?_⟩
    obtain ⟨k, rfl⟩ : ∃ j, k = j + 1 := ⟨k - 1, by omega⟩
    first | dsimp only at h1 h2 ⊢ | dsimp only at h2 ⊢
    rw [syntagmref14_Close.l0, if_pos (by omega), if_pos (by omega), rd39 l i hlt, his, Option.bind_some, if_pos rfl, h1 k (by omega), Option.bind_some, decide_eq_true (show (l[i].f0, l[i].f1) ∈ out.map toJ from hin), if_pos rfl, hw]
    exact h2 k (by omega)
   ·rw [if_neg hin] at he
    obtain ⟨K2, h2⟩ := close_l0 l hl K r hg m (i + 1) (out ++ [(⟨l[i].f0, l[i].f1⟩ : S39)]) (by omega) (by rw [List.length_append, List.length_singleton]; omega) (by rw [List.map_append]; exact he)
    refine ⟨max K1 K2 + 1, fun k hk => ?_⟩
    obtain ⟨k, rfl⟩ : ∃ j, k = j + 1 := ⟨k - 1, by omega⟩
    first | dsimp only at h1 h2 ⊢ | dsimp only at h2 ⊢
    rw [syntagmref14_Close.l0, if_pos (by omega), if_pos (by omega), rd39 l i hlt, his, Option.bind_some, if_pos rfl, h1 k (by omega), Option.bind_some, decide_eq_false (show ¬ (l[i].f0, l[i].f1) ∈ out.map toJ from hin), if_neg (by decide), if_pos (by omega), hw]
    exact h2 k (by omega)
theorem refclose_ev (l : List Itm) (hl : l.length ≤ 1000000) : Ev (fun k => syntagmref14_Close.f k l0 l1 l2 l3 st (l.map ofJ)) ((risen (closedL (gr st l3) l)).map ofJ) := by
 obtain ⟨r, hg, hR⟩ := refClose_is (gr st l3) l ((allI (gr st l3)).length + 1) (Nat.lt_succ_self _)
 have e := hR.one (closedL_rise h l) (fun _ => Iff.rfl)
 rw [← e]
 exact close_l0 h hv hr (l.map ofJ) (by rw [List.length_map]; exact hl) _ r (by rw [map_toJ_ofJ]; exact hg) (l.map ofJ).length 0 [] (by omega) (Nat.zero_le _) (by rw [List.drop_zero]; rfl)
theorem refstep_l0 (c : List S39) (s : Int) (hc : c.length ≤ 1562) (hci : ∀ x ∈ c, isI (gr st l3) (toJ x) = true) (T : List Itm) : ∀ (m i : Nat) (out : List S39), i + m = c.length → out.length ≤ i → out.map toJ ++ stepL (gr st l3) ((c.drop i).map toJ) s = T → Ev (fun k => syntagmref14_Step.l0 k s out c i l0 l1 l2 l3 st) ((riseR T T.length []).map ofJ)
 | 0, i, out, hi, ho, he => by
  rw [List.drop_eq_nil_of_le (by omega), List.map_nil, show stepL (gr st l3) [] s = [] from rfl, List.append_nil] at he
  obtain ⟨K2, h2⟩ := rising_ev out (by omega)
  rw [he, show out.length = T.length by rw [← he, List.length_map]] at h2
  refine ⟨K2 + 1, fun k hk => ?_⟩
  obtain ⟨k, rfl⟩ : ∃ j, k = j + 1 := ⟨k - 1, by omega⟩
  first | dsimp only at h1 h2 ⊢ | dsimp only at h2 ⊢
  rw [syntagmref14_Step.l0, if_neg (by omega), h2 k (by omega), Option.bind_some]
 | m + 1, i, out, hi, ho, he => by
  have hlt : i < c.length := by omega
  have hw := wrap_up i (by omega)
  rw [List.drop_eq_getElem_cons hlt, List.map_cons] at he
  have hb := refbehind_is h hv hr c[i].f0 c[i].f1
  have hi2 := isI_rng h (hci _ (List.getElem_mem hlt))
  have hu : wrap64 (c[i].f1 + 1) = c[i].f1 + 1 := IntWalk.wrap64_in _ (by have e : (toJ c[i]).2 = c[i].f1 := rfl; rw [e] at hi2; omega)
  have go (he' : out.map toJ ++ stepL (gr st l3) ((c.drop (i + 1)).map toJ) s = T) := refstep_l0 c s hc hci T m (i + 1) out (by omega) (by omega) he'
  cases hB : behindL (gr st l3) (c[i].f0, c[i].f1) with
  | none =>
   rw [hB] at hb
   have e : stepL (gr st l3) (toJ c[i] :: (c.drop (i + 1)).map toJ) s = stepL (gr st l3) ((c.drop (i + 1)).map toJ) s := by
    unfold stepL
    rw [List.filterMap_cons_none]
    rw [show toJ c[i] = (c[i].f0, c[i].f1) from rfl, hB]
    rfl
   rw [e] at he
   refine Ev.step (fun k => ?_) (go he)
   rw [syntagmref14_Step.l0, if_pos (by omega), if_pos (by omega), rd39 c i hlt, hb, Option.bind_some]
   simp only
   rw [if_neg (by decide), hw]
  | some t =>
   rw [hB] at hb
   by_cases ht : t = s
   ·have e : stepL (gr st l3) (toJ c[i] :: (c.drop (i + 1)).map toJ) s = (c[i].f0, c[i].f1 + 1) :: stepL (gr st l3) ((c.drop (i + 1)).map toJ) s := by
     unfold stepL
     rw [List.filterMap_cons_some]
     rw [show toJ c[i] = (c[i].f0, c[i].f1) from rfl, hB, ht, if_pos rfl]
    rw [e] at he
    have ih := refstep_l0 c s hc hci T m (i + 1) (out ++ [(⟨c[i].f0, c[i].f1 + 1⟩ : S39)]) (by omega) (by rw [List.length_append, List.length_singleton]; omega) (by rw [List.map_append, List.append_assoc]; exact he)
    refine Ev.step (fun k => ?_) ih
    rw [syntagmref14_Step.l0, if_pos (by omega), if_pos (by omega), rd39 c i hlt, hb, Option.bind_some]
    simp only
    rw [if_pos trivial, if_pos ht, if_pos (by omega), hw, hu]
   ·have e : stepL (gr st l3) (toJ c[i] :: (c.drop (i + 1)).map toJ) s = stepL (gr st l3) ((c.drop (i + 1)).map toJ) s := by
     unfold stepL
     rw [List.filterMap_cons_none]
     rw [show toJ c[i] = (c[i].f0, c[i].f1) from rfl, hB, if_neg (fun e => ht (Option.some.inj e))]
    rw [e] at he
    refine Ev.step (fun k => ?_) (go he)
    rw [syntagmref14_Step.l0, if_pos (by omega), if_pos (by omega), rd39 c i hlt, hb, Option.bind_some]
    simp only
    rw [if_pos trivial, if_neg ht, hw]
theorem refstep_ev (l : List Itm) (s : Int) (hl : l.length ≤ 1000000) : Ev (fun k => syntagmref14_Step.f k l0 l1 l2 l3 st (l.map ofJ) s) ((Sg (gr st l3) l s).map ofJ) := by
 unfold syntagmref14_Step.f
 refine Ev.bind (f := fun k t => syntagmref14_Step.l0 k s ([] : List S39) t 0 l0 l1 l2 l3 st) (refclose_ev h hv hr l hl) ?_
 have hz := refstep_l0 h hv hr ((risen (closedL (gr st l3) l)).map ofJ) s (by rw [List.length_map]; exact closed_small h l) (fun x hx => by
  obtain ⟨y, hy, rfl⟩ := List.mem_map.1 hx
  exact cl_is _ _ _ ((closedL_rise h l).mem y |>.1 hy)) _ _ 0 [] (Nat.zero_add _) (Nat.zero_le _) rfl
 rw [List.drop_zero, map_toJ_ofJ, List.map_nil, List.nil_append] at hz
 unfold Sg
 rw [← risen_one (riseR_all (stepL (gr st l3) (risen (closedL (gr st l3) l)) s))]
 exact hz
end

/-! ### of a grammar that may not be -/
section
variable {l0 : List S82} {l1 : List S101} {l2 : List ByteArray} {l3 : List S64} {st : Int} (hv : validB l0 l1 l2 l3 st = false) (hr : ∀ p ∈ l3, ∀ s ∈ p.f2, -9223372036854775808 ≤ s ∧ s ≤ 9223372036854775807)
include hv hr
theorem refis_not (a b : Int) : syntagmref14_Is.f l0 l1 l2 l3 st a b = some false := by
 unfold syntagmref14_Is.f
 rw [refv_ok hr, Option.bind_some, hv, if_neg (by decide)]
theorem refbehind_not (a b : Int) : syntagmref14_Behind.f l0 l1 l2 l3 st a b = some (0, false) := by
 unfold syntagmref14_Behind.f
 rw [refis_not hv hr, Option.bind_some, if_neg (by decide)]
theorem close_l0_not (l : List S39) (hl : l.length ≤ 1000000) : ∀ (m i : Nat), i + m = l.length → Ev (fun k => syntagmref14_Close.l0 k l [] i l0 l1 l2 l3 st) []
 | 0, i, hi => by
  have hz := rising_ev [] (by simp)
  have h1 : Ev (fun k => syntagmref14_Close.l1 k [] 0 l0 l1 l2 l3 st) [] := by
   obtain ⟨K2, h2⟩ := hz
   refine ⟨K2 + 1, fun k hk => ?_⟩
   obtain ⟨k, rfl⟩ : ∃ j, k = j + 1 := ⟨k - 1, by omega⟩
   first | dsimp only at h1 h2 ⊢ | dsimp only at h2 ⊢
   rw [syntagmref14_Close.l1, if_neg (by simp), h2 k (by omega), Option.bind_some]
   rfl
  refine Ev.step (fun k => ?_) h1
  rw [syntagmref14_Close.l0, if_neg (by omega)]
 | m + 1, i, hi => by
  have hlt : i < l.length := by omega
  refine Ev.step (fun k => ?_) (close_l0_not l hl m (i + 1) (by omega))
  rw [syntagmref14_Close.l0, if_pos (by omega), if_pos (by omega), rd39 l i hlt, refis_not hv hr, Option.bind_some, if_neg (by decide), wrap_up i (by omega)]
theorem refclose_not (l : List S39) (hl : l.length ≤ 1000000) : Ev (fun k => syntagmref14_Close.f k l0 l1 l2 l3 st l) [] := close_l0_not hv hr l hl l.length 0 (by omega)
theorem refstep_not (l : List S39) (s : Int) (hl : l.length ≤ 1000000) : Ev (fun k => syntagmref14_Step.f k l0 l1 l2 l3 st l s) [] := by
 unfold syntagmref14_Step.f
 refine Ev.bind (f := fun k t => syntagmref14_Step.l0 k s ([] : List S39) t 0 l0 l1 l2 l3 st) (refclose_not hv hr l hl) ?_
 have hz := rising_ev [] (by simp)
 obtain ⟨K2, h2⟩ := hz
 refine ⟨K2 + 1, fun k hk => ?_⟩
 obtain ⟨k, rfl⟩ : ∃ j, k = j + 1 := ⟨k - 1, by omega⟩
 first | dsimp only at h1 h2 ⊢ | dsimp only at h2 ⊢
 show syntagmref14_Step.l0 (k + 1) s ([] : List S39) [] 0 l0 l1 l2 l3 st = _
 rw [syntagmref14_Step.l0, if_neg (by simp), h2 k (by omega), Option.bind_some]
 rfl
end
end Go.Proofs.YtclollnicbcooaaDoor.P
end

section
namespace Go.Proofs.YtclollnicbcooaaDoor.P
open Go.RowKit Go.Proofs.YtclollnicbcooaaDoorW.PrintWords Go.Proofs.YtclollnicbcooaaDoorW.PrintLast Go.Proofs.YtclollnicbcooaaDoorW.PrintMore

theorem few_end (l0 : List S82) (l1 : List S101) (l2 : List ByteArray) (l3 : List S64) (st : Int) (k : Nat) (i : Int) :
  ∃ b, syntagmlaw13_Few.j1 (k + 1) i false l0 l1 l2 l3 st = some b ∧ (b = true → l0.length ≤ 10 ∧ l2.length ≤ 8 ∧ l3.length ≤ 14 ∧ l1.length ≤ 30) := by
 unfold syntagmlaw13_Few.j1
 rw [if_neg (by decide)]
 split
 ·split
  ·split
   ·exact ⟨_, rfl, fun h => by have := of_decide_eq_true h; omega⟩
   ·exact ⟨_, rfl, fun h => by cases h⟩
  ·exact ⟨_, rfl, fun h => by cases h⟩
 ·exact ⟨_, rfl, fun h => by cases h⟩

theorem few_l0 (l0 : List S82) (l1 : List S101) (l2 : List ByteArray) (l3 : List S64) (st : Int) : ∀ (m i : Nat), i + m = 15 → ∀ k, 2 * m + 2 ≤ k →
  ∃ b, syntagmlaw13_Few.l0 k i l0 l1 l2 l3 st = some b ∧ (b = true → l0.length ≤ 10 ∧ l2.length ≤ 8 ∧ l3.length ≤ 14 ∧ l1.length ≤ 30)
 | m, i, hi, 0, hk => by omega
 | m, i, hi, 1, hk => by omega
 | 0, i, hi, k + 2, hk => by
  unfold syntagmlaw13_Few.l0
  have e : decide ((i : Int) < 15) = false := decide_eq_false (by omega)
  rw [e]
  split
  ·exact few_end l0 l1 l2 l3 st k i
  ·exact few_end l0 l1 l2 l3 st k i
 | m + 1, i, hi, k + 2, hk => by
  unfold syntagmlaw13_Few.l0
  have e : decide ((i : Int) < 15) = true := decide_eq_true (by omega)
  rw [e]
  split
  ·unfold syntagmlaw13_Few.j1
   rw [if_pos rfl, if_pos (by omega), if_pos (by assumption)]
   split
   ·exact ⟨_, rfl, fun h => by cases h⟩
   ·have w : wrap64 ((i : Int) + 1) = ((i + 1 : Nat) : Int) := by unfold wrap64; omega
    rw [w]
    exact few_l0 l0 l1 l2 l3 st m (i + 1) (by omega) k (by omega)
  ·exact few_end l0 l1 l2 l3 st k i

theorem few_is (l0 : List S82) (l1 : List S101) (l2 : List ByteArray) (l3 : List S64) (st : Int) (k : Nat) (hk : 32 ≤ k) :
  ∃ b, syntagmlaw13_Few.f k l0 l1 l2 l3 st = some b ∧ (b = true → l0.length ≤ 10 ∧ l2.length ≤ 8 ∧ l3.length ≤ 14 ∧ l1.length ≤ 30) :=
 few_l0 l0 l1 l2 l3 st 15 0 rfl k (by omega)

end Go.Proofs.YtclollnicbcooaaDoor.P
end

section
namespace Go.Proofs.YtclollnicbcooaaDoor.P
open Go.RowKit Go.Proofs.YtclollnicbcooaaDoorW.PrintWords Go.Proofs.YtclollnicbcooaaDoorW.PrintLast Go.Proofs.YtclollnicbcooaaDoorW.PrintMore St

theorem i64_range {x : Int} (h : (Lit.int .i64 x).wf = true) : -9223372036854775808 ≤ x ∧ x ≤ 9223372036854775807 := by
 have := bounds_i64 h
 omega
theorem prods_range {x : S27} (h : wf27 x) : ∀ p ∈ x.f3, ∀ s ∈ p.f2, -9223372036854775808 ≤ s ∧ s ≤ 9223372036854775807 :=
 fun p hp s hs => i64_range ((h.2.2.2.1.2 p hp).2.2.1.2 s hs)
theorem okP_of {l3 : List S64} (hr : ∀ p ∈ l3, ∀ s ∈ p.f2, -9223372036854775808 ≤ s ∧ s ≤ 9223372036854775807) : l3.all okP = true :=
 List.all_eq_true.2 fun p hp => List.all_eq_true.2 fun s hs => decide_eq_true (hr p hp s hs).1
theorem okI_of {l : List S37} (h : ∀ x ∈ l, wf37 x) : l.all okI = true :=
 List.all_eq_true.2 fun x hx => by
  have := h x hx
  exact decide_eq_true ⟨i64_range this.1, i64_range this.2⟩
/-! ### the program and the document -/
section
variable {l0 : List S82} {l1 : List S101} {l2 : List ByteArray} {l3 : List S64} {st : Int} (hr : ∀ p ∈ l3, ∀ s ∈ p.f2, -9223372036854775808 ≤ s ∧ s ≤ 9223372036854775807)
include hr
theorem close_ok (hv : validB l0 l1 l2 l3 st = true) (l : List S37) (hl : l.length ≤ 1000000) (hok : l.all okI = true) : states_Close.f l0 l1 l2 l3 st l = some ((risen (closedL (gr st l3) (l.map toI))).map ofI) := by
 unfold states_Close.f inst_Valid.f states_closed.f
 rw [hv, Option.bind_some, if_pos rfl, if_pos ⟨rfl, okP_of hr, hl, hok⟩, Option.bind_some]
theorem step_ok (hv : validB l0 l1 l2 l3 st = true) (l : List S37) (s : Int) (hl : l.length ≤ 1000000) (hok : l.all okI = true) : states_Step.f l0 l1 l2 l3 st l s = some ((Sg (gr st l3) (l.map toI) s).map ofI) := by
 unfold states_Step.f inst_Valid.f states_closed.f
 rw [hv, Option.bind_some, if_pos rfl, if_pos ⟨rfl, okP_of hr, hl, hok⟩, Option.bind_some, step_is hv, Option.bind_some]
omit hr in
theorem close_not (hv : validB l0 l1 l2 l3 st = false) (l : List S37) : states_Close.f l0 l1 l2 l3 st l = some [] := by
 unfold states_Close.f inst_Valid.f
 rw [hv, Option.bind_some, if_neg (by decide)]
omit hr in
theorem step_not (hv : validB l0 l1 l2 l3 st = false) (l : List S37) (s : Int) : states_Step.f l0 l1 l2 l3 st l s = some [] := by
 unfold states_Step.f inst_Valid.f
 rw [hv, Option.bind_some, if_neg (by decide)]
omit hr in
theorem Behind_ok (hv : validB l0 l1 l2 l3 st = true) (a b : Int) : states_Behind.f l0 l1 l2 l3 st a b = some (match behindL (gr st l3) (a, b) with | some s => (s, true) | none => (0, false)) := by
 unfold states_Behind.f inst_Valid.f
 rw [hv, Option.bind_some, if_pos rfl, behind_is (fits_of hv), Option.bind_some]
 cases behindL (gr st l3) (a, b) <;> rfl
theorem close_both (l : List S37) (hl : l.length ≤ 1000000) (hok : l.all okI = true) : ∃ C : List Itm, C.length ≤ 1562 ∧ states_Close.f l0 l1 l2 l3 st l = some (C.map ofI) ∧ Ev (fun k => syntagmref14_Close.f k l0 l1 l2 l3 st ((l.map toI).map ofJ)) (C.map ofJ) := by
 cases hv : validB l0 l1 l2 l3 st with
 | true => exact ⟨_, closed_small (fits_of hv) _, close_ok hr hv l hl hok, refclose_ev (fits_of hv) hv hr _ (by rw [List.length_map]; exact hl)⟩
 | false => exact ⟨[], Nat.zero_le _, close_not hv l, refclose_not hv hr _ (by rw [List.length_map, List.length_map]; exact hl)⟩
theorem step_both (l : List S37) (s : Int) (hl : l.length ≤ 1000000) (hok : l.all okI = true) : ∃ C : List Itm, C.length ≤ 1562 ∧ states_Step.f l0 l1 l2 l3 st l s = some (C.map ofI) ∧ Ev (fun k => syntagmref14_Step.f k l0 l1 l2 l3 st ((l.map toI).map ofJ) s) (C.map ofJ) := by
 cases hv : validB l0 l1 l2 l3 st with
 | true => exact ⟨_, (Sg_small (fits_of hv) _ _).1, step_ok hr hv l s hl hok, refstep_ev (fits_of hv) hv hr _ s (by rw [List.length_map]; exact hl)⟩
 | false => exact ⟨[], Nat.zero_le _, step_not hv l s, refstep_not hv hr _ s (by rw [List.length_map, List.length_map]; exact hl)⟩
theorem behind_both (a b : Int) : ∃ v : Int × Bool, states_Behind.f l0 l1 l2 l3 st a b = some v ∧ syntagmref14_Behind.f l0 l1 l2 l3 st a b = some v := by
 cases hv : validB l0 l1 l2 l3 st with
 | true => exact ⟨_, Behind_ok hv a b, refbehind_is (fits_of hv) hv hr a b⟩
 | false =>
  refine ⟨(0, false), ?_, refbehind_not hv hr a b⟩
  unfold states_Behind.f inst_Valid.f
  rw [hv, Option.bind_some, if_neg (by decide)]
end
end Go.Proofs.YtclollnicbcooaaDoor.P
end

section
namespace Go.Proofs.YtclollnicbcooaaDoor.P
open Go.RowKit Go.Proofs.YtclollnicbcooaaDoorW.PrintWords Go.Proofs.YtclollnicbcooaaDoorW.PrintLast Go.Proofs.YtclollnicbcooaaDoorW.PrintMore St

theorem works_true : syntagmlaw14_works.f = some true := by
 have h1 := e_build
 have h2 := e_close
 have h3 := e_step
 have h4 : states_Behind.f e0 [] e2 e3 0 0 0 = some (0, true) := by kernel_rfl
 unfold e0 e2 e3 at h1 h2 h3 h4
 unfold syntagmlaw14_works.f
 rw [Option.bind_some, Option.bind_some, Option.bind_some, h1, Option.bind_some, h2, Option.bind_some, h3, Option.bind_some, h4, Option.bind_some]
 show _ = some true
 kernel_rfl

end Go.Proofs.YtclollnicbcooaaDoor.P
end

section
namespace Go.Proofs.YtclollnicbcooaaDoor.Pure
open Go.RowKit Go.Proofs.YtclollnicbcooaaDoor.P Go.Proofs.YtclollnicbcooaaDoorW.PrintWords Go.Proofs.YtclollnicbcooaaDoorW.PrintLast Go.Proofs.YtclollnicbcooaaDoorW.PrintMore St

theorem rdrow (l : List S37) (i : Nat) (h : i < l.length) : rd_T39 ((l.map toI).map ofJ) (i : Int) = ⟨l[i].f0, l[i].f1⟩ := by
 rw [rd39 _ i (by rw [List.length_map, List.length_map]; exact h), List.getElem_map, List.getElem_map]
 rfl
section
variable {l0 : List S82} {l1 : List S101} {l2 : List ByteArray} {l3 : List S64} {st : Int} (hr : ∀ p ∈ l3, ∀ s ∈ p.f2, -9223372036854775808 ≤ s ∧ s ≤ 9223372036854775807)
include hr
theorem items_l0 (l : List S37) (s : Int) (hl : l.length ≤ 30) (hok : l.all okI = true) : ∀ (m i : Nat), i + m = l.length → Ev (fun k => syntagmlaw14_StatesItems.l0 k l s true ((l.map toI).map ofJ) i l0 l1 l2 l3 st) true
 | 0, i, hi => by
  obtain ⟨C, hC, h1, K1, h2⟩ := close_both (l0 := l0) (l1 := l1) (l2 := l2) (st := st) hr l (by omega) hok
  obtain ⟨D, hD, h3, K2, h4⟩ := step_both (l0 := l0) (l1 := l1) (l2 := l2) (st := st) hr l s (by omega) hok
  obtain ⟨K3, h5⟩ := lawrow_ev (C.map ofI) (by rw [List.length_map]; omega)
  obtain ⟨K4, h6⟩ := lawrow_ev (D.map ofI) (by rw [List.length_map]; omega)
  obtain ⟨K5, h7⟩ := refrow_ev C C (by omega)
  obtain ⟨K6, h8⟩ := refrow_ev D D (by omega)
  dsimp only at h2 h4 h5 h6 h7 h8
  rw [map_toI_ofI] at h5 h6
  rw [decide_eq_true rfl] at h7 h8
  refine ⟨K1 + K2 + K3 + K4 + K5 + K6 + 1, fun k hk => ?_⟩
  obtain ⟨k, rfl⟩ : ∃ j, k = j + 1 := ⟨k - 1, by omega⟩
  dsimp only
  rw [syntagmlaw14_StatesItems.l0, if_neg (by omega), if_pos rfl, h1, Option.bind_some, h5 k (by omega), Option.bind_some, h2 k (by omega), Option.bind_some, h7 k (by omega), Option.bind_some, if_pos rfl, h3, Option.bind_some, h6 k (by omega), Option.bind_some, h4 k (by omega), Option.bind_some, h8 k (by omega), Option.bind_some]
 | m + 1, i, hi => by
  have hlt : i < l.length := by omega
  obtain ⟨v, h1, h2⟩ := behind_both (l0 := l0) (l1 := l1) (l2 := l2) (st := st) hr l[i].f0 l[i].f1
  refine Ev.step (fun k => ?_) (items_l0 l s hl hok m (i + 1) (by omega))
  rw [syntagmlaw14_StatesItems.l0, if_pos (by omega), if_pos (by omega), rd37 l i hlt, h1, Option.bind_some, if_pos (by rw [List.length_map, List.length_map]; omega), rdrow l i hlt]
  dsimp only
  rw [h2, Option.bind_some, if_pos rfl, if_neg (by simp), wrap_up i (by omega)]
end
theorem StatesItems (x0 : S27) (l1 : List S37) (a2 : Int) (w0 : wf27 x0) (w1 : l1.length ≤ 9223372036854775807 ∧ ∀ x ∈ l1, wf37 x) (w2 : (Lit.int .i64 a2).wf = true) : ∃ k, syntagmlaw14_StatesItems.f k x0.f0 x0.f1 x0.f2 x0.f3 x0.f4 l1 a2 = some true := by
 have hr := prods_range w0
 obtain ⟨b, hf, -⟩ := few_is x0.f0 x0.f1 x0.f2 x0.f3 x0.f4 32 (Nat.le_refl _)
 have hout : Ev (fun k => syntagmlaw14_StatesItems.j0 k l1 a2 true true x0.f0 x0.f1 x0.f2 x0.f3 x0.f4) true := by
  refine Ev.step (f := fun _ => some true) (fun k => ?_) (Ev.now _)
  rw [syntagmlaw14_StatesItems.j0, if_pos rfl]
 have hj : Ev (fun k => if b = true then syntagmlaw14_StatesItems.j0 k l1 a2 true (decide ((l1.length : Int) > 30)) x0.f0 x0.f1 x0.f2 x0.f3 x0.f4 else syntagmlaw14_StatesItems.j0 k l1 a2 true true x0.f0 x0.f1 x0.f2 x0.f3 x0.f4) true := by
  cases b with
  | false => exact hout
  | true =>
   by_cases hl : (l1.length : Int) > 30
   ·exact Ev.congr (fun k => by rw [if_pos rfl, decide_eq_true hl]) hout
   ·obtain ⟨K1, h1⟩ := lawrow_ev l1 (by omega)
    obtain ⟨K2, h2⟩ := items_l0 (l0 := x0.f0) (l1 := x0.f1) (l2 := x0.f2) (st := x0.f4) hr l1 a2 (by omega) (okI_of w1.2) l1.length 0 (by omega)
    refine ⟨K1 + K2 + 1, fun k hk => ?_⟩
    obtain ⟨k, rfl⟩ : ∃ j, k = j + 1 := ⟨k - 1, by omega⟩
    dsimp only at h1 h2 ⊢
    rw [if_pos rfl, decide_eq_false hl, syntagmlaw14_StatesItems.j0, if_neg (by decide), h1 k (by omega), Option.bind_some]
    exact h2 k (by omega)
 obtain ⟨K, hK⟩ := hj
 refine ⟨max K 61, ?_⟩
 have hk := hK (max K 61) (by omega)
 unfold syntagmlaw14_StatesItems.f
 rw [works_true, Option.bind_some, if_pos rfl, at_rounds (fun k => syntagmlaw13_Few.mono _ _ _ _ _ k) (by omega : 32 ≤ max K 61) hf, Option.bind_some]
 exact hk
end Go.Proofs.YtclollnicbcooaaDoor.Pure
end

section
namespace Go.Proofs.YtclollnicbcooaaDoor.Glob
open Go.ChangeShapes Go.WideShapes Go.ChangeAt Go.RowKit

def laidL : List (String × DataW Unit) := [("math/bits.deBruijn32tab", Rows.laid_math_bits_deBruijn32tab), ("math/bits.deBruijn64tab", Rows.laid_math_bits_deBruijn64tab), ("internal/strconv.uint64pow10", Rows.laid_internal_strconv_uint64pow10)]
theorem named : Tryd.prog.globalNamed "internal/strconv.uint64pow10" = some 0 := by kernel_rfl
theorem typed : (Tryd.prog.globals[0]?).map (·.type) = some 172 := by kernel_rfl
theorem und172 : Tryd.prog.underlying 172 = some (.array 20 75) := by kernel_rfl
theorem und75 : Tryd.prog.underlying 75 = some (.int .u64) := by kernel_rfl
theorem cells172 : Tryd.prog.cellsOf 172 = 20 := by kernel_rfl
theorem cells75 : Tryd.prog.cellsOf 75 = 1 := by kernel_rfl
theorem table_is : (Rows.laid_internal_strconv_uint64pow10 : DataW Unit) = Lib.tabData .u64 Lib.pow10Tab := by rfl
theorem of_laid {W : World} (h : laidMet Tryd.prog laidL W) : P.GTab W := by
 obtain ⟨g', t', cs, fuel, p, hg', ht', hvar, hd⟩ := Lib.laidMet.reads h (n := "internal/strconv.uint64pow10") (d := Rows.laid_internal_strconv_uint64pow10) (List.mem_cons_of_mem _ (List.mem_cons_of_mem _ List.mem_cons_self))
 obtain rfl := Option.some.inj (named.symm.trans hg')
 obtain rfl := Option.some.inj (typed.symm.trans ht')
 rw [table_is] at hd
 unfold P.GTab Lib.TabIs
 rw [hvar, ← Lib.cells_of_tab und172 und75 cells75 cells172 hd]

/-- A row of literals as cells. -/
def litCells : DataW Unit → Array Value
 | .agg l => (l.map fun | .lit (.int k z) => Value.int k z | _ => Value.int .i64 0).toArray
 | _ => #[]
noncomputable def laidWorld (os : Os) : World :=
 let w := World.holding Tryd.prog os ⟨#[], #[], []⟩
 let put (b : Nat) (cs : Array Value) (h : Array Obj) : Array Obj := h.modify b fun
   | .cells _ t frozen => .cells cs t frozen
   | o => o
 { w with heap := put 0 (litCells Rows.laid_internal_strconv_uint64pow10) (put 1 (litCells Rows.laid_math_bits_deBruijn32tab) (put 2 (litCells Rows.laid_math_bits_deBruijn64tab) w.heap)) }
theorem laid_met (os : Os) (args : Array Value) : laidMet Tryd.prog laidL ((laidWorld os).forCall (fun _ _ => 0) ⟨#[], args, []⟩).memory :=
 laidMet_of_run' 8 (by kernel_rfl) (by kernel_rfl)
end Go.Proofs.YtclollnicbcooaaDoor.Glob
end
