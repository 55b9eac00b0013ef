/- Texts of this claim put together: Px23. -/
import Derived.Test.YtclollnicbcooaaDoorVm0
import Derived.Test.YtclollnicbcooaaDoorVm2
set_option linter.unusedVariables false
set_option linter.unusedSimpArgs false
set_option linter.unusedSectionVars false
section
namespace Go.Proofs.YtclollnicbcooaaDoor.P
open Go.RowKit Go.Proofs.YtclollnicbcooaaDoorW.PrintWords Go.Proofs.YtclollnicbcooaaDoorW.PrintLast Go.Proofs.YtclollnicbcooaaDoorW.PrintMore
attribute [local go_sem] max2_int min2_int max_two min_two max_three min_three max_four min_four

attribute [local go_sem high] eqA37
/-! ### sl14_StatesMore: function 8 -/
mutual
def sl14_StatesMore.j0 : Nat → Bool → Bool → List (S82) → List (S101) → List ByteArray → List (S64) → Int → ByteArray → Int → List Int → Int → Option (Bool)
 | 0, _, _, _, _, _, _, _, _, _, _, _ => none
 | k + 1, x5, x37, xA, xB, xC, xD, xE, xF, xG, xH, xI => if x37 = true then (some x5) else ((some (([] : List (S64)) : List (S64))).bind fun y499 => (if y499.length + xD.length < 2513169434916 then ((some (y499 ++ xD : List (S64))).bind fun y502 => ((some (([(⟨(⟨#[122, 122]⟩ : ByteArray), xG, xH, xI⟩ : S64)] : List (S64)) : List (S64))).bind fun y505 => (if y502.length + y505.length < 2513169434916 then ((states_Build.f xA xB xC xD xE).bind fun bt511 => ((states_Build.f xA xB xC (y502 ++ y505) xE).bind fun bt519 => (if bt511.2.2 = 0 then (sl14_StatesMore.j1 k x5 (bt519.2.2 != 0) bt511.1 bt511.2.1 bt519.1 bt519.2.1) else (sl14_StatesMore.j1 k x5 true bt511.1 bt511.2.1 bt519.1 bt519.2.1)))) else (none)))) else (none)))
def sl14_StatesMore.j1 : Nat → Bool → Bool → List (List (S37)) → List (List Int) → List (List (S37)) → List (List Int) → Option (Bool)
 | 0, _, _, _, _, _, _ => none
 | k + 1, x5, x64, xJ, xK, xL, xM => if x64 = true then (some x5) else (sl14_StatesMore.l0 k x5 0 xJ xK xL xM)
def sl14_StatesMore.l0 : Nat → Bool → Int → List (List (S37)) → List (List Int) → List (List (S37)) → List (List Int) → Option (Bool)
 | 0, _, _, _, _, _, _ => none
 | k + 1, x5, x12, xJ, xK, xL, xM => if x12 < (xJ.length : Int) then (sl14_StatesMore.l1 k x5 x12 false 0 xJ xK xL xM) else (some x5)
def sl14_StatesMore.l1 : Nat → Bool → Int → Bool → Int → List (List (S37)) → List (List Int) → List (List (S37)) → List (List Int) → Option (Bool)
 | 0, _, _, _, _, _, _, _, _ => none
 | k + 1, x5, x12, x13, x14, xJ, xK, xL, xM => if x14 < (xL.length : Int) then (sl14_StatesMore.l2 k x5 x12 x13 x14 true 0 xJ xK xL xM) else (if x13 = true then (sl14_StatesMore.l0 k x5 (wrap64 (x12 + 1)) xJ xK xL xM) else (some false))
def sl14_StatesMore.l2 : Nat → Bool → Int → Bool → Int → Bool → Int → List (List (S37)) → List (List Int) → List (List (S37)) → List (List Int) → Option (Bool)
 | 0, _, _, _, _, _, _, _, _, _, _ => none
 | k + 1, x5, x12, x13, x14, x15, x16, xJ, xK, xL, xM => if 0 ≤ x12 then (if x12 < (xJ.length : Int) then (if x16 < ((rd_L15 xJ x12).length : Int) then (sl14_StatesMore.l3 k x5 x12 x13 x14 x15 x16 false 0 xJ xK xL xM) else (if x13 = true then (sl14_StatesMore.l1 k x5 x12 true (wrap64 (x14 + 1)) xJ xK xL xM) else (sl14_StatesMore.l1 k x5 x12 x15 (wrap64 (x14 + 1)) xJ xK xL xM))) else (none)) else (none)
def sl14_StatesMore.l3 : Nat → Bool → Int → Bool → Int → Bool → Int → Bool → Int → List (List (S37)) → List (List Int) → List (List (S37)) → List (List Int) → Option (Bool)
 | 0, _, _, _, _, _, _, _, _, _, _, _, _ => none
 | k + 1, x5, x12, x13, x14, x15, x16, x17, x18, xJ, xK, xL, xM => if 0 ≤ x14 then (if x14 < (xL.length : Int) then (if x18 < ((rd_L15 xL x14).length : Int) then (if x17 = true then (sl14_StatesMore.l3 k x5 x12 x13 x14 x15 x16 true (wrap64 (x18 + 1)) xJ xK xL xM) else (if 0 ≤ x18 then (if 0 ≤ x12 then (if x12 < (xJ.length : Int) then (if 0 ≤ x16 then (if x16 < ((rd_L15 xJ x12).length : Int) then (sl14_StatesMore.l3 k x5 x12 x13 x14 x15 x16 (((rd_T37 (rd_L15 xL x14) x18).f0) == ((rd_T37 (rd_L15 xJ x12) x16).f0) && (((rd_T37 (rd_L15 xL x14) x18).f1) == ((rd_T37 (rd_L15 xJ x12) x16).f1))) (wrap64 (x18 + 1)) xJ xK xL xM) else (none)) else (none)) else (none)) else (none)) else (none))) else (if x15 = true then (sl14_StatesMore.l2 k x5 x12 x13 x14 x17 (wrap64 (x16 + 1)) xJ xK xL xM) else (sl14_StatesMore.l2 k x5 x12 x13 x14 false (wrap64 (x16 + 1)) xJ xK xL xM))) else (none)) else (none)
end
def sl14_StatesMore.f (k : Nat) (l0_0 : List (S82)) (l0_1 : List (S101)) (l0_2 : List ByteArray) (l0_3 : List (S64)) (a0_4 : Int) (a1_0 : ByteArray) (a1_1 : Int) (l1_2 : List Int) (a1_3 : Int) : Option (Bool) := (sl14_works.f).bind fun t496 => (if t496 = true then ((sl14_Little.f k l0_0 l0_1 l0_2 l0_3 a0_4).bind fun t497 => (if t497 = true then (if (l1_2.length : Int) > 5 then (sl14_StatesMore.j0 k t496 true l0_0 l0_1 l0_2 l0_3 a0_4 a1_0 a1_1 l1_2 a1_3) else (sl14_StatesMore.j0 k t496 (decide ((l0_3.length : Int) > 8)) l0_0 l0_1 l0_2 l0_3 a0_4 a1_0 a1_1 l1_2 a1_3)) else (sl14_StatesMore.j0 k t496 true l0_0 l0_1 l0_2 l0_3 a0_4 a1_0 a1_1 l1_2 a1_3))) else (some false))
def sl14_StatesMore.T9 : Bool × List (List Nat × List Nat) := (true, [([], []), ([], []), ([1], [1]), ([0, 2], [0, 2]), ([], []), ([4], [4]), ([3, 5, 3], [3, 5]), ([0, 1, 2, 3, 4, 5, 6], []), ([7, 6, 6, 0, 1, 2, 3, 4, 5, 6], [6, 7])])
def sl14_StatesMore.B9 : List Nat := [0, 0, 2, 7, 0, 16, 63, 127, 255]
theorem sl14_StatesMore.tab9 : rtab .any (opsOf Tryd.f8 9) = sl14_StatesMore.T9 := by kernel_rfl
theorem sl14_StatesMore.bits9 : waitsOk sl14_StatesMore.T9.2 sl14_StatesMore.B9 = true := by kernel_rfl
def sl14_StatesMore.T29 : Bool × List (List Nat × List Nat) := (true, [([], []), ([0], [0]), ([1], [1]), ([2, 1], [1, 2]), ([1], [1]), ([3, 4, 1], [1, 3, 4]), ([5, 1], [1, 5]), ([1], [1]), ([6, 7, 1], [1, 6, 7]), ([8, 1], [1, 8]), ([1], [1]), ([10, 1], [1, 10]), ([1], [1]), ([11, 12, 1], [1, 11, 12]), ([13, 1], [1, 13]), ([1], [1]), ([14, 15, 1], [1, 14, 15]), ([16, 1], [1, 16]), ([9, 17, 1], [1, 9, 17]), ([1, 18], [1, 18]), ([19, 1, 0, 1, 2, 3, 4, 5, 6, 7, 8, 9, 10, 11, 12, 13, 14, 15, 16, 17, 18, 19], [0, 19])])
def sl14_StatesMore.B29 : List Nat := [0, 1, 3, 7, 3, 31, 63, 3, 255, 511, 3, 1027, 3, 7171, 15363, 3, 64515, 130051, 262143, 524287, 1048575]
theorem sl14_StatesMore.tab29 : rtab .any (opsOf Tryd.f8 29) = sl14_StatesMore.T29 := by kernel_rfl
theorem sl14_StatesMore.bits29 : waitsOk sl14_StatesMore.T29.2 sl14_StatesMore.B29 = true := by kernel_rfl
set_option maxHeartbeats 8000000 in
set_option maxRecDepth 100000 in
theorem sl14_StatesMore.calls (k : Nat) (A0_0 : Option Addr) (c0_0 : Nat) (l0_0 : List (S82)) (A0_1 : Option Addr) (c0_1 : Nat) (l0_1 : List (S101)) (A0_2 : Option Addr) (c0_2 : Nat) (l0_2 : List ByteArray) (P0_3_ : Nat → Prop) (A0_3 : Option Addr) (c0_3 : Nat) (l0_3 : List (S64)) (a0_4 : Int) (a1_0 : ByteArray) (a1_1 : Int) (P1_2_ : Nat → Prop) (A1_2 : Option Addr) (c1_2 : Nat) (l1_2 : List Int) (a1_3 : Int) (r : Bool) (w : World) (hG : GTab w) (hT : r = true) (hr0_0 : Kd.C k82 w A0_0 l0_0.length l0_0) (hc0_0 : l0_0.length ≤ c0_0) (hr0_1 : Kd.C k101 w A0_1 l0_1.length l0_1) (hc0_1 : l0_1.length ≤ c0_1) (hr0_2 : Kd.C Kd.string w A0_2 l0_2.length l0_2) (hc0_2 : l0_2.length ≤ c0_2) (hs0_3 : Kd.V k64 64 w w.heap.size (fun k_ => P0_3_ k_) (.slice A0_3 l0_3.length c0_3) l0_3) (hs1_2 : Kd.V (Kd.int .i64) 29 w w.heap.size (fun k_ => P1_2_ k_) (.slice A1_2 l1_2.length c1_2) l1_2) (h : sl14_StatesMore.f k l0_0 l0_1 l0_2 l0_3 a0_4 a1_0 a1_1 l1_2 a1_3 = some r) :
  Calls Tryd.prog 8 #[.agg #[.slice A0_0 l0_0.length c0_0, .slice A0_1 l0_1.length c0_1, .slice A0_2 l0_2.length c0_2, .slice A0_3 l0_3.length c0_3, .int .i64 a0_4], .agg #[.string a1_0, .int .i64 a1_1, .slice A1_2 l1_2.length c1_2, .int .i64 a1_3]] w fun e w' => e = .returned (.bool r) ∧ Below w.heap.size w w' := by
 have hu27 := Tryd.underlying27
 have hu64 := Tryd.underlying64
 have hu49 := Tryd.underlying49
 have hu37 := Tryd.underlying37
 have HG := jM hG
 clear hG
 have HT := jM hT
 clear hT
 have HR0_0 := jM hr0_0
 have HC0_0 := jM hc0_0
 clear hr0_0 hc0_0
 have HR0_1 := jM hr0_1
 have HC0_1 := jM hc0_1
 clear hr0_1 hc0_1
 have HR0_2 := jM hr0_2
 have HC0_2 := jM hc0_2
 clear hr0_2 hc0_2
 have HO0_3 := jM (show Kd.V k64 64 w w.heap.size (fun k_ => ((P0_3_ k_ ∨ P1_2_ k_) ∨ w.heap.size ≤ k_)) (.slice A0_3 l0_3.length c0_3) l0_3 from Kd.V_mono hs0_3 (fun k_ hk => .inl (.inl hk)))
 have HO1_2 := jM (show Kd.V (Kd.int .i64) 29 w w.heap.size (fun k_ => ((P0_3_ k_ ∨ P1_2_ k_) ∨ w.heap.size ≤ k_)) (.slice A1_2 l1_2.length c1_2) l1_2 from Kd.V_mono hs1_2 (fun k_ hk => .inl (.inr hk)))
 have HB := jM (Below.refl w.heap.size w)
 have H : ((sl14_works.f).bind fun t496 => (if t496 = true then ((sl14_Little.f k l0_0 l0_1 l0_2 l0_3 a0_4).bind fun t497 => (if t497 = true then (if (l1_2.length : Int) > 5 then (sl14_StatesMore.j0 k t496 true l0_0 l0_1 l0_2 l0_3 a0_4 a1_0 a1_1 l1_2 a1_3) else (sl14_StatesMore.j0 k t496 (decide ((l0_3.length : Int) > 8)) l0_0 l0_1 l0_2 l0_3 a0_4 a1_0 a1_1 l1_2 a1_3)) else (sl14_StatesMore.j0 k t496 true l0_0 l0_1 l0_2 l0_3 a0_4 a1_0 a1_1 l1_2 a1_3))) else (some false))) = some r := h
 clear h
 replace H := Option.bind_eq_some_iff.mp H
 obtain ⟨t496, A30, H⟩ := H
 replace H : (if t496 = true then ((sl14_Little.f k l0_0 l0_1 l0_2 l0_3 a0_4).bind fun t497 => (if t497 = true then (if (l1_2.length : Int) > 5 then (sl14_StatesMore.j0 k t496 true l0_0 l0_1 l0_2 l0_3 a0_4 a1_0 a1_1 l1_2 a1_3) else (sl14_StatesMore.j0 k t496 (decide ((l0_3.length : Int) > 8)) l0_0 l0_1 l0_2 l0_3 a0_4 a1_0 a1_1 l1_2 a1_3)) else (sl14_StatesMore.j0 k t496 true l0_0 l0_1 l0_2 l0_3 a0_4 a1_0 a1_1 l1_2 a1_3))) else (some false)) = some r := H
 have A3 := jM A30
 clear A30
 by_cases c4 : t496 = true
 ·subst c4
  have H1 : ((sl14_Little.f k l0_0 l0_1 l0_2 l0_3 a0_4).bind fun t497 => (if t497 = true then (if (l1_2.length : Int) > 5 then (sl14_StatesMore.j0 k true true l0_0 l0_1 l0_2 l0_3 a0_4 a1_0 a1_1 l1_2 a1_3) else (sl14_StatesMore.j0 k true (decide ((l0_3.length : Int) > 8)) l0_0 l0_1 l0_2 l0_3 a0_4 a1_0 a1_1 l1_2 a1_3)) else (sl14_StatesMore.j0 k true true l0_0 l0_1 l0_2 l0_3 a0_4 a1_0 a1_1 l1_2 a1_3))) = some r := by rw [if_pos rfl] at H; exact H
  clear H
  have H := H1
  clear H1
  replace H := Option.bind_eq_some_iff.mp H
  obtain ⟨t497, A50, H⟩ := H
  replace H : (if t497 = true then (if (l1_2.length : Int) > 5 then (sl14_StatesMore.j0 k true true l0_0 l0_1 l0_2 l0_3 a0_4 a1_0 a1_1 l1_2 a1_3) else (sl14_StatesMore.j0 k true (decide ((l0_3.length : Int) > 8)) l0_0 l0_1 l0_2 l0_3 a0_4 a1_0 a1_1 l1_2 a1_3)) else (sl14_StatesMore.j0 k true true l0_0 l0_1 l0_2 l0_3 a0_4 a1_0 a1_1 l1_2 a1_3)) = some r := H
  have A5 := jM A50
  clear A50
  have HC6 := jM H
  clear H
  go_enter Tryd.func8, Tryd.ntmps8
  go_upto_region 5 with (first | ((with_reducible refine gate_dst (N := 2) rfl ?_); (try (refine gate_guard (by rfl) ?_; dsimp only)); refine box_event ?hg (N := 2) ?hd (cs := #[.slice A0_0 l0_0.length c0_0, .slice A0_1 l0_1.length c0_1, .slice A0_2 l0_2.length c0_2, .slice A0_3 l0_3.length c0_3, .int .i64 a0_4]) (t := 27) ?hr ?_; (case hd => rfl); (case hg => rfl); (case hr => first | (go_simp; done) | (go_simp; rfl)); intro gb494 hg w7 hbox hb; have n0_ := jM (Kd.V_below (Kd.V_elderB (by (with_reducible repeat (first | apply jt | apply ju | apply jv)); exact HO0_3.out) gb494 (Nat.le_of_eq hg.symm)) hb); have n1_ := jM (Kd.V_below (Kd.V_elderB (by (with_reducible repeat (first | apply jt | apply ju | apply jv)); exact HO1_2.out) gb494 (Nat.le_of_eq hg.symm)) hb); have n2_ := jM (jT (by repeat (first | (with_reducible first | exact HB.out | apply jA | apply jN | apply jD) | exact HB.out)) hb); have n3_ := jM (hbox); have n4_ := jM ((by rw [hg]; exact (below_size (by repeat (first | (with_reducible first | exact HB.out | apply jA | apply jN | apply jD) | exact HB.out))) : w.heap.size ≤ gb494)); have n5_ := jM ((by rw [hg]; exact (below_size (by repeat (first | (with_reducible first | exact HB.out | apply jA | apply jN | apply jD) | exact HB.out))) : w.heap.size ≤ gb494)); clear HO0_3; clear HO1_2; clear HB; have HO0_3 := n0_; have HO1_2 := n1_; have HB := n2_; have BK494 := n3_; have GW494 := n4_; have GE494 := n5_; clear n0_ n1_ n2_ n3_ n4_ n5_; clear hb hbox hg) | ((with_reducible refine gate_dst (N := 3) rfl ?_); (try (refine gate_guard (by rfl) ?_; dsimp only)); refine box_event ?hg (N := 3) ?hd (cs := #[.string a1_0, .int .i64 a1_1, .slice A1_2 l1_2.length c1_2, .int .i64 a1_3]) (t := 64) ?hr ?_; (case hd => rfl); (case hg => rfl); (case hr => first | (go_simp; done) | (go_simp; rfl)); intro gb495 hg w8 hbox hb; have n0_ := jM (Kd.V_below (Kd.V_elderB (by (with_reducible repeat (first | apply jt | apply ju | apply jv)); exact HO0_3.out) gb495 (Nat.le_of_eq hg.symm)) hb); have n1_ := jM (Kd.V_below (Kd.V_elderB (by (with_reducible repeat (first | apply jt | apply ju | apply jv)); exact HO1_2.out) gb495 (Nat.le_of_eq hg.symm)) hb); have n2_ := jM (jW (g := gb494) (o := .cells #[.slice A0_0 l0_0.length c0_0, .slice A0_1 l0_1.length c0_1, .slice A0_2 l0_2.length c0_2, .slice A0_3 l0_3.length c0_3, .int .i64 a0_4] 27 (0, 0)) (by (with_reducible repeat (first | refine jY ?_ _ | refine jZ ?_ | refine jX ?_ _)); exact BK494.out) hb); have n3_ := jM (jT (by repeat (first | (with_reducible first | exact HB.out | apply jA | apply jN | apply jD | refine jS ?_ GE494.out) | exact HB.out)) hb); have n4_ := jM (hbox); have n5_ := jM ((by rw [hg]; exact (below_size (by repeat (first | (with_reducible first | exact HB.out | apply jA | apply jN | apply jD | refine jS ?_ GE494.out) | exact HB.out))) : w.heap.size ≤ gb495)); have n6_ := jM ((by rw [hg]; exact (below_size (by repeat (first | (with_reducible first | exact HB.out | apply jA | apply jN | apply jD | refine jS ?_ GE494.out) | exact HB.out))) : w.heap.size ≤ gb495)); have n7_ := jM ((by rw [hg]; exact Nat.ne_of_lt (blk_lt (g := gb494) (o := .cells #[.slice A0_0 l0_0.length c0_0, .slice A0_1 l0_1.length c0_1, .slice A0_2 l0_2.length c0_2, .slice A0_3 l0_3.length c0_3, .int .i64 a0_4] 27 (0, 0)) (by (with_reducible repeat (first | refine jY ?_ _ | refine jZ ?_ | refine jX ?_ _)); exact BK494.out)) : gb494 ≠ gb495)); have n8_ := jM ((by rw [hg]; exact Nat.ne_of_gt (blk_lt (g := gb494) (o := .cells #[.slice A0_0 l0_0.length c0_0, .slice A0_1 l0_1.length c0_1, .slice A0_2 l0_2.length c0_2, .slice A0_3 l0_3.length c0_3, .int .i64 a0_4] 27 (0, 0)) (by (with_reducible repeat (first | refine jY ?_ _ | refine jZ ?_ | refine jX ?_ _)); exact BK494.out)) : gb495 ≠ gb494)); clear HO0_3; clear HO1_2; clear BK494; clear HB; have HO0_3 := n0_; have HO1_2 := n1_; have BK494 := n2_; have HB := n3_; have BK495 := n4_; have GW495 := n5_; have GE495 := n6_; have NB494_495 := n7_; have NB495_494 := n8_; clear n0_ n1_ n2_ n3_ n4_ n5_ n6_ n7_ n8_; clear hb hbox hg) | ((with_reducible refine gate_callee (f := 12) rfl ?_); refine goesL_ (some 19) rfl rfl Tryd.func12 (by kernel_rfl) rfl #[] rfl (by (try simp only [List.map_toArray, List.map_cons, List.map_nil]); first | done | rfl | (simp only [List.length_drop, List.length_take]; rfl)) ?_; (with_reducible refine (sl14_works.calls  true _ ?side1 ?side2 A3.out).mono ?_); (case side1 => exact GTab.below HG.out (by repeat (first | (with_reducible first | exact HB.out | apply jA | apply jN | apply jD | refine jS ?_ GE494.out | refine jS ?_ GE495.out) | exact HB.out))); (case side2 => rfl); rintro e w9 ⟨rfl, hb⟩; refine ⟨_, rfl, ?_⟩; have n0_ := jM (Kd.V_below (by (with_reducible repeat (first | apply jt | apply ju | apply jv)); exact HO0_3.out) hb); have n1_ := jM (Kd.V_below (by (with_reducible repeat (first | apply jt | apply ju | apply jv)); exact HO1_2.out) hb); have n2_ := jM (jW (g := gb494) (o := .cells #[.slice A0_0 l0_0.length c0_0, .slice A0_1 l0_1.length c0_1, .slice A0_2 l0_2.length c0_2, .slice A0_3 l0_3.length c0_3, .int .i64 a0_4] 27 (0, 0)) (by (with_reducible repeat (first | refine jY ?_ _ | refine jZ ?_ | refine jX ?_ _)); exact BK494.out) hb); have n3_ := jM (jW (g := gb495) (o := .cells #[.string a1_0, .int .i64 a1_1, .slice A1_2 l1_2.length c1_2, .int .i64 a1_3] 64 (0, 0)) (by (with_reducible repeat (first | refine jY ?_ _ | refine jZ ?_ | refine jX ?_ _)); exact BK495.out) hb); have n4_ := jM (jT (by repeat (first | (with_reducible first | exact HB.out | apply jA | apply jN | apply jD | refine jS ?_ GE494.out | refine jS ?_ GE495.out) | exact HB.out)) hb); clear HO0_3; clear HO1_2; clear BK494; clear BK495; clear HB; have HO0_3 := n0_; have HO1_2 := n1_; have BK494 := n2_; have BK495 := n3_; have HB := n4_; clear n0_ n1_ n2_ n3_ n4_; (try clear hb); (try clear hb2); (try clear hk); (try clear hi); have hnb10 := NB494_495.out; have hnc10 := NB495_494.out; have hcz11_0 : w9.cell? ⟨gb494, 0, none⟩ = some (.slice A0_0 l0_0.length c0_0) := (jC BK494.out 0).trans rfl; have hcz11_1 : w9.cell? ⟨gb494, 1, none⟩ = some (.slice A0_1 l0_1.length c0_1) := (jC BK494.out 1).trans rfl; have hcz11_2 : w9.cell? ⟨gb494, 2, none⟩ = some (.slice A0_2 l0_2.length c0_2) := (jC BK494.out 2).trans rfl; have hcz11_3 : w9.cell? ⟨gb494, 3, none⟩ = some (.slice A0_3 l0_3.length c0_3) := (jC BK494.out 3).trans rfl; have hcz11_4 : w9.cell? ⟨gb494, 4, none⟩ = some (.int .i64 a0_4) := (jC BK494.out 4).trans rfl; have hfz11_0 := jF BK494.out 0; have hfz11_1 := jF BK494.out 1; have hfz11_2 := jF BK494.out 2; have hfz11_3 := jF BK494.out 3; have hfz11_4 := jF BK494.out 4) | ((with_reducible refine gate_callee (f := 22) rfl ?_); refine goesL_ (some 23) rfl rfl Tryd.func22 (by kernel_rfl) rfl #[.agg #[.slice A0_0 l0_0.length c0_0, .slice A0_1 l0_1.length c0_1, .slice A0_2 l0_2.length c0_2, .slice A0_3 l0_3.length c0_3, .int .i64 a0_4]] rfl (by (try simp only [List.map_toArray, List.map_cons, List.map_nil]); first | done | rfl | (simp only [List.length_drop, List.length_take]; rfl)) ?_; (with_reducible refine (sl14_Little.calls k _ _ l0_0 _ _ l0_1 _ _ l0_2 _ _ l0_3 a0_4 t497 _ ?side1 ?side2 ?side3 ?side4 ?side5 ?side6 ?side7 ?side8 A5.out).mono ?_); (case side1 => repeat (first | exact (jB HR0_0.out HB.out) | (with_reducible refine Kd.C_alloc ?_ _) | (with_reducible refine Kd.C_drewN ?_ _) | (with_reducible refine Kd.C_drew ?_))); (case side2 => exact HC0_0.out); (case side3 => repeat (first | exact (jB HR0_1.out HB.out) | (with_reducible refine Kd.C_alloc ?_ _) | (with_reducible refine Kd.C_drewN ?_ _) | (with_reducible refine Kd.C_drew ?_))); (case side4 => exact HC0_1.out); (case side5 => repeat (first | exact (jB HR0_2.out HB.out) | (with_reducible refine Kd.C_alloc ?_ _) | (with_reducible refine Kd.C_drewN ?_ _) | (with_reducible refine Kd.C_drew ?_))); (case side6 => exact HC0_2.out); (case side7 => repeat (first | exact (Kd.V_reads' HO0_3.out).2.2 | (with_reducible refine Kd.C_alloc ?_ _) | (with_reducible refine Kd.C_drewN ?_ _) | (with_reducible refine Kd.C_drew ?_))); (case side8 => exact (Kd.V_reads' HO0_3.out).2.1); rintro e w12 ⟨rfl, hb⟩; refine ⟨_, rfl, ?_⟩; have n0_ := jM (Kd.V_below (by (with_reducible repeat (first | apply jt | apply ju | apply jv)); exact HO0_3.out) hb); have n1_ := jM (Kd.V_below (by (with_reducible repeat (first | apply jt | apply ju | apply jv)); exact HO1_2.out) hb); have n2_ := jM (jW (g := gb494) (o := .cells #[.slice A0_0 l0_0.length c0_0, .slice A0_1 l0_1.length c0_1, .slice A0_2 l0_2.length c0_2, .slice A0_3 l0_3.length c0_3, .int .i64 a0_4] 27 (0, 0)) (by (with_reducible repeat (first | refine jY ?_ _ | refine jZ ?_ | refine jX ?_ _)); exact BK494.out) hb); have n3_ := jM (jW (g := gb495) (o := .cells #[.string a1_0, .int .i64 a1_1, .slice A1_2 l1_2.length c1_2, .int .i64 a1_3] 64 (0, 0)) (by (with_reducible repeat (first | refine jY ?_ _ | refine jZ ?_ | refine jX ?_ _)); exact BK495.out) hb); have n4_ := jM (jT (by repeat (first | (with_reducible first | exact HB.out | apply jA | apply jN | apply jD | refine jS ?_ GE494.out | refine jS ?_ GE495.out) | exact HB.out)) hb); clear HO0_3; clear HO1_2; clear BK494; clear BK495; clear HB; have HO0_3 := n0_; have HO1_2 := n1_; have BK494 := n2_; have BK495 := n3_; have HB := n4_; clear n0_ n1_ n2_ n3_ n4_; (try clear hb); (try clear hb2); (try clear hk); (try clear hi)))
  (try simp only [Act.put, sA])
  go_cut [37] (fun v37 wc => ∃ (kq : Nat) (x37_5 : Bool), v37 = .bool x37_5 ∧ Aside0 (sl14_StatesMore.j0 kq true x37_5 l0_0 l0_1 l0_2 l0_3 a0_4 a1_0 a1_1 l1_2 a1_3 = some r) ∧ Aside0 (kq ≤ k) ∧ Aside0 (Kd.V k64 64 wc w.heap.size (fun k_ => ((P0_3_ k_ ∨ P1_2_ k_) ∨ w.heap.size ≤ k_) ∧ k_ ≠ gb494 ∧ k_ ≠ gb495) (.slice A0_3 l0_3.length c0_3) l0_3) ∧ Aside0 (Kd.V (Kd.int .i64) 29 wc w.heap.size (fun k_ => ((P0_3_ k_ ∨ P1_2_ k_) ∨ w.heap.size ≤ k_) ∧ k_ ≠ gb494 ∧ k_ ≠ gb495) (.slice A1_2 l1_2.length c1_2) l1_2) ∧ Aside0 (wc.heap[gb494]? = some (.cells #[(.slice A0_0 l0_0.length c0_0), (.slice A0_1 l0_1.length c0_1), (.slice A0_2 l0_2.length c0_2), (.slice A0_3 l0_3.length c0_3), .int .i64 a0_4] 27 (0, 0))) ∧ Aside0 (wc.heap[gb495]? = some (.cells #[.string a1_0, .int .i64 a1_1, (.slice A1_2 l1_2.length c1_2), .int .i64 a1_3] 64 (0, 0))) ∧ Aside0 (Below w.heap.size w wc))
  case first =>
   have H := HC6.out
   clear HC6
   by_cases c13 : t497 = true
   ·subst c13
    have H1 : (if (l1_2.length : Int) > 5 then (sl14_StatesMore.j0 k true true l0_0 l0_1 l0_2 l0_3 a0_4 a1_0 a1_1 l1_2 a1_3) else (sl14_StatesMore.j0 k true (decide ((l0_3.length : Int) > 8)) l0_0 l0_1 l0_2 l0_3 a0_4 a1_0 a1_1 l1_2 a1_3)) = some r := by rw [if_pos rfl] at H; exact H
    clear H
    have H := H1
    clear H1
    by_cases c14 : (l1_2.length : Int) > 5
    ·rw [if_pos c14] at H
     have c14b0 : decide (5 < (l1_2.length : Int)) = true := decide_eq_true c14
     have c14b1 : decide (5 < l1_2.length) = true := decide_eq_true (by omega)
     clear c14
     (first | rw [c14b0] | (simp only [i64_w, i32_w]; rw [c14b0]) | skip)
     have H' := jM H
     clear H
     have hnb15 := NB495_494.out
     have hnc15 := NB494_495.out
     have hcz16_0 : w12.cell? ⟨gb495, 0, none⟩ = some (.string a1_0) := (jC BK495.out 0).trans rfl
     have hcz16_1 : w12.cell? ⟨gb495, 1, none⟩ = some (.int .i64 a1_1) := (jC BK495.out 1).trans rfl
     have hcz16_2 : w12.cell? ⟨gb495, 2, none⟩ = some (.slice A1_2 l1_2.length c1_2) := (jC BK495.out 2).trans rfl
     have hcz16_3 : w12.cell? ⟨gb495, 3, none⟩ = some (.int .i64 a1_3) := (jC BK495.out 3).trans rfl
     have hfz16_0 := jF BK495.out 0
     have hfz16_1 := jF BK495.out 1
     have hfz16_2 := jF BK495.out 2
     have hfz16_3 := jF BK495.out 3
     go_wp2
     go_meet
     case rel => exact ⟨_, (true), (by first | rfl | (simp; done) | (simp [*]; done)), H', ⟨by first | omega | exact Nat.le_refl _⟩, ⟨by (with_reducible repeat (first | apply jt | apply ju | apply jv)); exact Kd.V_mono HO0_3.out (fun _ hk => ⟨hk.1.1, ⟨hk.1.2, hk.2⟩⟩)⟩, ⟨by (with_reducible repeat (first | apply jt | apply ju | apply jv)); exact Kd.V_mono HO1_2.out (fun _ hk => ⟨hk.1.1, ⟨hk.1.2, hk.2⟩⟩)⟩, ⟨by (with_reducible repeat (first | refine jY ?_ _ | refine jZ ?_ | refine jX ?_ _)); exact BK494.out⟩, ⟨by (with_reducible repeat (first | refine jY ?_ _ | refine jZ ?_ | refine jX ?_ _)); exact BK495.out⟩, ⟨by repeat (first | (with_reducible first | exact HB.out | apply jA | apply jN | apply jD | refine jS ?_ GE494.out | refine jS ?_ GE495.out) | exact HB.out)⟩⟩
    ·rw [if_neg c14] at H
     have c14b0 : decide (5 < (l1_2.length : Int)) = false := decide_eq_false c14
     have c14b1 : decide (5 < l1_2.length) = false := decide_eq_false (by omega)
     clear c14
     (first | rw [c14b0] | (simp only [i64_w, i32_w]; rw [c14b0]) | skip)
     have H' := jM H
     clear H
     have hnb17 := NB495_494.out
     have hnc17 := NB494_495.out
     have hcz18_0 : w12.cell? ⟨gb495, 0, none⟩ = some (.string a1_0) := (jC BK495.out 0).trans rfl
     have hcz18_1 : w12.cell? ⟨gb495, 1, none⟩ = some (.int .i64 a1_1) := (jC BK495.out 1).trans rfl
     have hcz18_2 : w12.cell? ⟨gb495, 2, none⟩ = some (.slice A1_2 l1_2.length c1_2) := (jC BK495.out 2).trans rfl
     have hcz18_3 : w12.cell? ⟨gb495, 3, none⟩ = some (.int .i64 a1_3) := (jC BK495.out 3).trans rfl
     have hfz18_0 := jF BK495.out 0
     have hfz18_1 := jF BK495.out 1
     have hfz18_2 := jF BK495.out 2
     have hfz18_3 := jF BK495.out 3
     have hcz19_0 : w12.cell? ⟨gb494, 0, none⟩ = some (.slice A0_0 l0_0.length c0_0) := (jC BK494.out 0).trans rfl
     have hcz19_1 : w12.cell? ⟨gb494, 1, none⟩ = some (.slice A0_1 l0_1.length c0_1) := (jC BK494.out 1).trans rfl
     have hcz19_2 : w12.cell? ⟨gb494, 2, none⟩ = some (.slice A0_2 l0_2.length c0_2) := (jC BK494.out 2).trans rfl
     have hcz19_3 : w12.cell? ⟨gb494, 3, none⟩ = some (.slice A0_3 l0_3.length c0_3) := (jC BK494.out 3).trans rfl
     have hcz19_4 : w12.cell? ⟨gb494, 4, none⟩ = some (.int .i64 a0_4) := (jC BK494.out 4).trans rfl
     have hfz19_0 := jF BK494.out 0
     have hfz19_1 := jF BK494.out 1
     have hfz19_2 := jF BK494.out 2
     have hfz19_3 := jF BK494.out 3
     have hfz19_4 := jF BK494.out 4
     go_wp2
     go_meet
     case rel => exact ⟨_, (decide ((l0_3.length : Int) > 8)), (by first | rfl | (simp; done) | (simp [*]; done)), H', ⟨by first | omega | exact Nat.le_refl _⟩, ⟨by (with_reducible repeat (first | apply jt | apply ju | apply jv)); exact Kd.V_mono HO0_3.out (fun _ hk => ⟨hk.1.1, ⟨hk.1.2, hk.2⟩⟩)⟩, ⟨by (with_reducible repeat (first | apply jt | apply ju | apply jv)); exact Kd.V_mono HO1_2.out (fun _ hk => ⟨hk.1.1, ⟨hk.1.2, hk.2⟩⟩)⟩, ⟨by (with_reducible repeat (first | refine jY ?_ _ | refine jZ ?_ | refine jX ?_ _)); exact BK494.out⟩, ⟨by (with_reducible repeat (first | refine jY ?_ _ | refine jZ ?_ | refine jX ?_ _)); exact BK495.out⟩, ⟨by repeat (first | (with_reducible first | exact HB.out | apply jA | apply jN | apply jD | refine jS ?_ GE494.out | refine jS ?_ GE495.out) | exact HB.out)⟩⟩
   ·replace c13 := Bool.eq_false_iff.mpr c13
    subst c13
    have H1 : (sl14_StatesMore.j0 k true true l0_0 l0_1 l0_2 l0_3 a0_4 a1_0 a1_1 l1_2 a1_3) = some r := by rw [if_neg (show ¬ (false = true) by decide)] at H; exact H
    clear H
    have H := H1
    clear H1
    have H' := jM H
    clear H
    go_wp2
    go_meet
    case rel => exact ⟨_, (true), (by first | rfl | (simp; done) | (simp [*]; done)), H', ⟨by first | omega | exact Nat.le_refl _⟩, ⟨by (with_reducible repeat (first | apply jt | apply ju | apply jv)); exact Kd.V_mono HO0_3.out (fun _ hk => ⟨hk.1.1, ⟨hk.1.2, hk.2⟩⟩)⟩, ⟨by (with_reducible repeat (first | apply jt | apply ju | apply jv)); exact Kd.V_mono HO1_2.out (fun _ hk => ⟨hk.1.1, ⟨hk.1.2, hk.2⟩⟩)⟩, ⟨by (with_reducible repeat (first | refine jY ?_ _ | refine jZ ?_ | refine jX ?_ _)); exact BK494.out⟩, ⟨by (with_reducible repeat (first | refine jY ?_ _ | refine jZ ?_ | refine jX ?_ _)); exact BK495.out⟩, ⟨by repeat (first | (with_reducible first | exact HB.out | apply jA | apply jN | apply jD | refine jS ?_ GE494.out | refine jS ?_ GE495.out) | exact HB.out)⟩⟩
  case rest =>
   clear HC6
   try clear c1
   try clear c2
   try clear p2
   try clear c4
   try clear c8
   try clear c10
   try clear c12
   try clear c13
   try clear c14
   try clear c14b0
   try clear c14b1
   try clear c15
   try clear c17
   try clear hcz11_0
   try clear hcz11_1
   try clear hcz11_2
   try clear hcz11_3
   try clear hcz11_4
   try clear hcz16_0
   try clear hcz16_1
   try clear hcz16_2
   try clear hcz16_3
   try clear hcz18_0
   try clear hcz18_1
   try clear hcz18_2
   try clear hcz18_3
   try clear hcz19_0
   try clear hcz19_1
   try clear hcz19_2
   try clear hcz19_3
   try clear hcz19_4
   try clear hfz11_0
   try clear hfz11_1
   try clear hfz11_2
   try clear hfz11_3
   try clear hfz11_4
   try clear hfz16_0
   try clear hfz16_1
   try clear hfz16_2
   try clear hfz16_3
   try clear hfz18_0
   try clear hfz18_1
   try clear hfz18_2
   try clear hfz18_3
   try clear hfz19_0
   try clear hfz19_1
   try clear hfz19_2
   try clear hfz19_3
   try clear hfz19_4
   obtain ⟨kq, x37_5, rfl, HA, HJ5, HO_495003, HO_496002, BK494, BK495, HB⟩ := hcut
   cases kq with
   | zero => exact absurd HA.out (by simp [sl14_StatesMore.j0])
   | succ kj5 =>
    have H := HA.out
    clear HA
    simp only [sl14_StatesMore.j0] at H
    by_cases c20 : x37_5 = true
    ·subst c20
     have H1 : (some true) = some r := by rw [if_pos rfl] at H; exact H
     clear H
     have H := H1
     clear H1
     obtain rfl := Option.some.inj H
     go_wp2
     go_ret
     exact ⟨by first | rfl | (simp [errW_none, errW_some] <;> rfl) | (simp [*, errW_none, errW_some] <;> rfl), by repeat (first | (with_reducible first | exact HB.out | apply jA | apply jN | apply jD | refine jS ?_ GE494.out | refine jS ?_ GE495.out) | exact HB.out)⟩
    ·replace c20 := Bool.eq_false_iff.mpr c20
     subst c20
     have H1 : ((some (([] : List (S64)) : List (S64))).bind fun y499 => (if y499.length + l0_3.length < 2513169434916 then ((some (y499 ++ l0_3 : List (S64))).bind fun y502 => ((some (([(⟨(⟨#[122, 122]⟩ : ByteArray), a1_1, l1_2, a1_3⟩ : S64)] : List (S64)) : List (S64))).bind fun y505 => (if y502.length + y505.length < 2513169434916 then ((states_Build.f l0_0 l0_1 l0_2 l0_3 a0_4).bind fun bt511 => ((states_Build.f l0_0 l0_1 l0_2 (y502 ++ y505) a0_4).bind fun bt519 => (if bt511.2.2 = 0 then (sl14_StatesMore.j1 kj5 true (bt519.2.2 != 0) bt511.1 bt511.2.1 bt519.1 bt519.2.1) else (sl14_StatesMore.j1 kj5 true true bt511.1 bt511.2.1 bt519.1 bt519.2.1)))) else (none)))) else (none))) = some r := by rw [if_neg (show ¬ (false = true) by decide)] at H; exact H
     clear H
     have H := H1
     clear H1
     obtain ⟨y499, hy499⟩ : ∃ y_ : List (S64), y_ = (([] : List (S64))) := ⟨_, rfl⟩
     replace H : (if y499.length + l0_3.length < 2513169434916 then ((some (y499 ++ l0_3 : List (S64))).bind fun y502 => ((some (([(⟨(⟨#[122, 122]⟩ : ByteArray), a1_1, l1_2, a1_3⟩ : S64)] : List (S64)) : List (S64))).bind fun y505 => (if y502.length + y505.length < 2513169434916 then ((states_Build.f l0_0 l0_1 l0_2 l0_3 a0_4).bind fun bt511 => ((states_Build.f l0_0 l0_1 l0_2 (y502 ++ y505) a0_4).bind fun bt519 => (if bt511.2.2 = 0 then (sl14_StatesMore.j1 kj5 true (bt519.2.2 != 0) bt511.1 bt511.2.1 bt519.1 bt519.2.1) else (sl14_StatesMore.j1 kj5 true true bt511.1 bt511.2.1 bt519.1 bt519.2.1)))) else (none)))) else (none)) = some r := by first | (rw [hy499]; with_reducible exact H) | (have H2_ := (Option.bind_some _ _).symm.trans H; rw [hy499]; with_reducible exact H2_) | (have H2_ := (Option.bind_some _ _).symm.trans H; with_reducible exact H2_) | with_reducible exact H | (rw [hy499]; exact H) | exact H
     have Ny499 := jM hy499
     clear hy499
     by_cases c21 : y499.length + l0_3.length < 2513169434916
     ·rw [if_pos c21] at H
      have LMc21 := jM c21
      clear c21
      obtain ⟨y502, hy502⟩ : ∃ y_ : List (S64), y_ = (y499 ++ l0_3) := ⟨_, rfl⟩
      replace H : ((some (([(⟨(⟨#[122, 122]⟩ : ByteArray), a1_1, l1_2, a1_3⟩ : S64)] : List (S64)) : List (S64))).bind fun y505 => (if y502.length + y505.length < 2513169434916 then ((states_Build.f l0_0 l0_1 l0_2 l0_3 a0_4).bind fun bt511 => ((states_Build.f l0_0 l0_1 l0_2 (y502 ++ y505) a0_4).bind fun bt519 => (if bt511.2.2 = 0 then (sl14_StatesMore.j1 kj5 true (bt519.2.2 != 0) bt511.1 bt511.2.1 bt519.1 bt519.2.1) else (sl14_StatesMore.j1 kj5 true true bt511.1 bt511.2.1 bt519.1 bt519.2.1)))) else (none))) = some r := by first | (rw [hy502]; with_reducible exact H) | (have H2_ := (Option.bind_some _ _).symm.trans H; rw [hy502]; with_reducible exact H2_) | (have H2_ := (Option.bind_some _ _).symm.trans H; with_reducible exact H2_) | with_reducible exact H | (rw [hy502]; exact H) | exact H
      have Ny502 := jM hy502
      clear hy502
      obtain ⟨y505, hy505⟩ : ∃ y_ : List (S64), y_ = (([(⟨(⟨#[122, 122]⟩ : ByteArray), a1_1, l1_2, a1_3⟩ : S64)] : List (S64))) := ⟨_, rfl⟩
      replace H : (if y502.length + y505.length < 2513169434916 then ((states_Build.f l0_0 l0_1 l0_2 l0_3 a0_4).bind fun bt511 => ((states_Build.f l0_0 l0_1 l0_2 (y502 ++ y505) a0_4).bind fun bt519 => (if bt511.2.2 = 0 then (sl14_StatesMore.j1 kj5 true (bt519.2.2 != 0) bt511.1 bt511.2.1 bt519.1 bt519.2.1) else (sl14_StatesMore.j1 kj5 true true bt511.1 bt511.2.1 bt519.1 bt519.2.1)))) else (none)) = some r := by first | (rw [hy505]; with_reducible exact H) | (have H2_ := (Option.bind_some _ _).symm.trans H; rw [hy505]; with_reducible exact H2_) | (have H2_ := (Option.bind_some _ _).symm.trans H; with_reducible exact H2_) | with_reducible exact H | (rw [hy505]; exact H) | exact H
      have Ny505 := jM hy505
      clear hy505
      by_cases c22 : y502.length + y505.length < 2513169434916
      ·rw [if_pos c22] at H
       have LMc22 := jM c22
       clear c22
       obtain ⟨y508, hy508⟩ : ∃ y_ : List (S64), y_ = (y502 ++ y505) := ⟨_, rfl⟩
       replace H : ((states_Build.f l0_0 l0_1 l0_2 l0_3 a0_4).bind fun bt511 => ((states_Build.f l0_0 l0_1 l0_2 y508 a0_4).bind fun bt519 => (if bt511.2.2 = 0 then (sl14_StatesMore.j1 kj5 true (bt519.2.2 != 0) bt511.1 bt511.2.1 bt519.1 bt519.2.1) else (sl14_StatesMore.j1 kj5 true true bt511.1 bt511.2.1 bt519.1 bt519.2.1)))) = some r := by first | (rw [hy508]; with_reducible exact H) | (have H2_ := (Option.bind_some _ _).symm.trans H; rw [hy508]; with_reducible exact H2_) | (have H2_ := (Option.bind_some _ _).symm.trans H; with_reducible exact H2_) | with_reducible exact H | (rw [hy508]; exact H) | exact H
       have Ny508 := jM hy508
       clear hy508
       replace H := Option.bind_eq_some_iff.mp H
       obtain ⟨⟨t511, t514, t517⟩, A230, H⟩ := H
       replace H : ((states_Build.f l0_0 l0_1 l0_2 y508 a0_4).bind fun bt519 => (if t517 = 0 then (sl14_StatesMore.j1 kj5 true (bt519.2.2 != 0) t511 t514 bt519.1 bt519.2.1) else (sl14_StatesMore.j1 kj5 true true t511 t514 bt519.1 bt519.2.1))) = some r := H
       have A23 := jM A230
       clear A230
       replace H := Option.bind_eq_some_iff.mp H
       obtain ⟨⟨t519, t522, t525⟩, A240, H⟩ := H
       replace H : (if t517 = 0 then (sl14_StatesMore.j1 kj5 true (t525 != 0) t511 t514 t519 t522) else (sl14_StatesMore.j1 kj5 true true t511 t514 t519 t522)) = some r := H
       have A24 := jM A240
       clear A240
       have HC25 := jM H
       clear H
       have hnb26 := NB494_495.out
       have hnc26 := NB495_494.out
       have hcz27_0 : wc.cell? ⟨gb494, 0, none⟩ = some (.slice A0_0 l0_0.length c0_0) := (jC BK494.out 0).trans rfl
       have hcz27_1 : wc.cell? ⟨gb494, 1, none⟩ = some (.slice A0_1 l0_1.length c0_1) := (jC BK494.out 1).trans rfl
       have hcz27_2 : wc.cell? ⟨gb494, 2, none⟩ = some (.slice A0_2 l0_2.length c0_2) := (jC BK494.out 2).trans rfl
       have hcz27_3 : wc.cell? ⟨gb494, 3, none⟩ = some (.slice A0_3 l0_3.length c0_3) := (jC BK494.out 3).trans rfl
       have hcz27_4 : wc.cell? ⟨gb494, 4, none⟩ = some (.int .i64 a0_4) := (jC BK494.out 4).trans rfl
       have hfz27_0 := jF BK494.out 0
       have hfz27_1 := jF BK494.out 1
       have hfz27_2 := jF BK494.out 2
       have hfz27_3 := jF BK494.out 3
       have hfz27_4 := jF BK494.out 4
       try go_wp2_with (first | ((with_reducible refine gate_dst (N := 7) rfl ?_); (try (refine gate_guard (by rfl) ?_; dsimp only)); refine box_event ?hg (N := 7) ?hd (cs := #[.slice none 0 0, .slice none 0 0, .slice none 0 0, .slice none 0 0, .int .i64 0]) (t := 27) ?hr ?_; (case hd => rfl); (case hg => rfl); (case hr => first | (go_simp; done) | (go_simp; rfl)); intro gb498 hg w28 hbox hb; have n0_ := jM (Kd.V_below (Kd.V_elderB (by (with_reducible repeat (first | apply jt | apply ju | apply jv)); exact HO_495003.out) gb498 (Nat.le_of_eq hg.symm)) hb); have n1_ := jM (Kd.V_below (Kd.V_elderB (by (with_reducible repeat (first | apply jt | apply ju | apply jv)); exact HO_496002.out) gb498 (Nat.le_of_eq hg.symm)) hb); have n2_ := jM (jW (g := gb494) (o := .cells #[.slice A0_0 l0_0.length c0_0, .slice A0_1 l0_1.length c0_1, .slice A0_2 l0_2.length c0_2, .slice A0_3 l0_3.length c0_3, .int .i64 a0_4] 27 (0, 0)) (by (with_reducible repeat (first | refine jY ?_ _ | refine jZ ?_ | refine jX ?_ _)); exact BK494.out) hb); have n3_ := jM (jW (g := gb495) (o := .cells #[.string a1_0, .int .i64 a1_1, .slice A1_2 l1_2.length c1_2, .int .i64 a1_3] 64 (0, 0)) (by (with_reducible repeat (first | refine jY ?_ _ | refine jZ ?_ | refine jX ?_ _)); exact BK495.out) hb); have n4_ := jM (jT (by repeat (first | (with_reducible first | exact HB.out | apply jA | apply jN | apply jD | refine jS ?_ GE494.out | refine jS ?_ GE495.out) | exact HB.out)) hb); have n5_ := jM (hbox); have n6_ := jM ((by rw [hg]; exact (below_size (by repeat (first | (with_reducible first | exact HB.out | apply jA | apply jN | apply jD | refine jS ?_ GE494.out | refine jS ?_ GE495.out) | exact HB.out))) : w.heap.size ≤ gb498)); have n7_ := jM ((by rw [hg]; exact (below_size (by repeat (first | (with_reducible first | exact HB.out | apply jA | apply jN | apply jD | refine jS ?_ GE494.out | refine jS ?_ GE495.out) | exact HB.out))) : w.heap.size ≤ gb498)); have n8_ := jM ((by rw [hg]; exact Nat.ne_of_lt (blk_lt (g := gb494) (o := .cells #[.slice A0_0 l0_0.length c0_0, .slice A0_1 l0_1.length c0_1, .slice A0_2 l0_2.length c0_2, .slice A0_3 l0_3.length c0_3, .int .i64 a0_4] 27 (0, 0)) (by (with_reducible repeat (first | refine jY ?_ _ | refine jZ ?_ | refine jX ?_ _)); exact BK494.out)) : gb494 ≠ gb498)); have n9_ := jM ((by rw [hg]; exact Nat.ne_of_gt (blk_lt (g := gb494) (o := .cells #[.slice A0_0 l0_0.length c0_0, .slice A0_1 l0_1.length c0_1, .slice A0_2 l0_2.length c0_2, .slice A0_3 l0_3.length c0_3, .int .i64 a0_4] 27 (0, 0)) (by (with_reducible repeat (first | refine jY ?_ _ | refine jZ ?_ | refine jX ?_ _)); exact BK494.out)) : gb498 ≠ gb494)); have n10_ := jM ((by rw [hg]; exact Nat.ne_of_lt (blk_lt (g := gb495) (o := .cells #[.string a1_0, .int .i64 a1_1, .slice A1_2 l1_2.length c1_2, .int .i64 a1_3] 64 (0, 0)) (by (with_reducible repeat (first | refine jY ?_ _ | refine jZ ?_ | refine jX ?_ _)); exact BK495.out)) : gb495 ≠ gb498)); have n11_ := jM ((by rw [hg]; exact Nat.ne_of_gt (blk_lt (g := gb495) (o := .cells #[.string a1_0, .int .i64 a1_1, .slice A1_2 l1_2.length c1_2, .int .i64 a1_3] 64 (0, 0)) (by (with_reducible repeat (first | refine jY ?_ _ | refine jZ ?_ | refine jX ?_ _)); exact BK495.out)) : gb498 ≠ gb495)); clear HO_495003; clear HO_496002; clear BK494; clear BK495; clear HB; have HO_495003 := n0_; have HO_496002 := n1_; have BK494 := n2_; have BK495 := n3_; have HB := n4_; have BK498 := n5_; have GW498 := n6_; have GE498 := n7_; have NB494_498 := n8_; have NB498_494 := n9_; have NB495_498 := n10_; have NB498_495 := n11_; clear n0_ n1_ n2_ n3_ n4_ n5_ n6_ n7_ n8_ n9_ n10_ n11_; clear hb hbox hg; have hnb29 := NB498_494.out; have hnc29 := NB494_498.out; have hnb30 := NB498_495.out; have hnc30 := NB495_498.out; have hcz31_0 : w28.cell? ⟨gb498, 0, none⟩ = some (.slice none 0 0) := (jC BK498.out 0).trans rfl; have hcz31_1 : w28.cell? ⟨gb498, 1, none⟩ = some (.slice none 0 0) := (jC BK498.out 1).trans rfl; have hcz31_2 : w28.cell? ⟨gb498, 2, none⟩ = some (.slice none 0 0) := (jC BK498.out 2).trans rfl; have hcz31_3 : w28.cell? ⟨gb498, 3, none⟩ = some (.slice none 0 0) := (jC BK498.out 3).trans rfl; have hcz31_4 : w28.cell? ⟨gb498, 4, none⟩ = some (.int .i64 0) := (jC BK498.out 4).trans rfl; have hfz31_0 := jF BK498.out 0; have hfz31_1 := jF BK498.out 1; have hfz31_2 := jF BK498.out 2; have hfz31_3 := jF BK498.out 3; have hfz31_4 := jF BK498.out 4; have hcz32_0 : w28.cell? ⟨gb495, 0, none⟩ = some (.string a1_0) := (jC BK495.out 0).trans rfl; have hcz32_1 : w28.cell? ⟨gb495, 1, none⟩ = some (.int .i64 a1_1) := (jC BK495.out 1).trans rfl; have hcz32_2 : w28.cell? ⟨gb495, 2, none⟩ = some (.slice A1_2 l1_2.length c1_2) := (jC BK495.out 2).trans rfl; have hcz32_3 : w28.cell? ⟨gb495, 3, none⟩ = some (.int .i64 a1_3) := (jC BK495.out 3).trans rfl; have hfz32_0 := jF BK495.out 0; have hfz32_1 := jF BK495.out 1; have hfz32_2 := jF BK495.out 2; have hfz32_3 := jF BK495.out 3))
       have n0_ : Aside0 (Kd.V k64 64 ((((((w28.setCell ⟨gb498, 0, none⟩ (.slice A0_0 l0_0.length c0_0)).setCell ⟨gb498, 1, none⟩ (.slice A0_1 l0_1.length c0_1)).setCell ⟨gb498, 2, none⟩ (.slice A0_2 l0_2.length c0_2)).setCell ⟨gb498, 3, none⟩ (.slice A0_3 l0_3.length c0_3)).setCell ⟨gb498, 4, none⟩ (.int .i64 a0_4)).setCell ⟨gb495, 0, none⟩ (.string (⟨#[122, 122]⟩ : ByteArray))) w.heap.size (fun k_ => ((P0_3_ k_ ∨ P1_2_ k_) ∨ w.heap.size ≤ k_) ∧ k_ ≠ gb494 ∧ k_ ≠ gb495 ∧ k_ ≠ gb498) (.slice A0_3 l0_3.length c0_3) l0_3) := ⟨by (with_reducible repeat (first | apply jt | apply ju | apply jv)); exact Kd.V_mono (Kd.V_far (p := ⟨gb495, 0, none⟩) (Kd.V_far (p := ⟨gb498, 4, none⟩) (Kd.V_far (p := ⟨gb498, 3, none⟩) (Kd.V_far (p := ⟨gb498, 2, none⟩) (Kd.V_far (p := ⟨gb498, 1, none⟩) (Kd.V_far (p := ⟨gb498, 0, none⟩) (Kd.V_mono (Kd.V_mono HO_495003.out (fun k_ hk => (⟨hk, hk.2⟩ : _ ∧ k_ ≠ gb498))) (fun k_ hk => (⟨hk, hk.1.1.2.2⟩ : _ ∧ k_ ≠ gb495))) (fun _ hk => hk.1.2) (.slice A0_0 l0_0.length c0_0)) (fun _ hk => hk.1.2) (.slice A0_1 l0_1.length c0_1)) (fun _ hk => hk.1.2) (.slice A0_2 l0_2.length c0_2)) (fun _ hk => hk.1.2) (.slice A0_3 l0_3.length c0_3)) (fun _ hk => hk.1.2) (.int .i64 a0_4)) (fun _ hk => hk.2) (.string (⟨#[122, 122]⟩ : ByteArray))) (fun _ hk => ⟨hk.1.1.1.1, ⟨hk.1.1.1.2.1, ⟨hk.1.1.1.2.2, hk.1.1.2⟩⟩⟩)⟩
       have n1_ : Aside0 (Kd.V (Kd.int .i64) 29 ((((((w28.setCell ⟨gb498, 0, none⟩ (.slice A0_0 l0_0.length c0_0)).setCell ⟨gb498, 1, none⟩ (.slice A0_1 l0_1.length c0_1)).setCell ⟨gb498, 2, none⟩ (.slice A0_2 l0_2.length c0_2)).setCell ⟨gb498, 3, none⟩ (.slice A0_3 l0_3.length c0_3)).setCell ⟨gb498, 4, none⟩ (.int .i64 a0_4)).setCell ⟨gb495, 0, none⟩ (.string (⟨#[122, 122]⟩ : ByteArray))) w.heap.size (fun k_ => ((P0_3_ k_ ∨ P1_2_ k_) ∨ w.heap.size ≤ k_) ∧ k_ ≠ gb494 ∧ k_ ≠ gb495 ∧ k_ ≠ gb498) (.slice A1_2 l1_2.length c1_2) l1_2) := ⟨by (with_reducible repeat (first | apply jt | apply ju | apply jv)); exact Kd.V_mono (Kd.V_far (p := ⟨gb495, 0, none⟩) (Kd.V_far (p := ⟨gb498, 4, none⟩) (Kd.V_far (p := ⟨gb498, 3, none⟩) (Kd.V_far (p := ⟨gb498, 2, none⟩) (Kd.V_far (p := ⟨gb498, 1, none⟩) (Kd.V_far (p := ⟨gb498, 0, none⟩) (Kd.V_mono (Kd.V_mono HO_496002.out (fun k_ hk => (⟨hk, hk.2⟩ : _ ∧ k_ ≠ gb498))) (fun k_ hk => (⟨hk, hk.1.1.2.2⟩ : _ ∧ k_ ≠ gb495))) (fun _ hk => hk.1.2) (.slice A0_0 l0_0.length c0_0)) (fun _ hk => hk.1.2) (.slice A0_1 l0_1.length c0_1)) (fun _ hk => hk.1.2) (.slice A0_2 l0_2.length c0_2)) (fun _ hk => hk.1.2) (.slice A0_3 l0_3.length c0_3)) (fun _ hk => hk.1.2) (.int .i64 a0_4)) (fun _ hk => hk.2) (.string (⟨#[122, 122]⟩ : ByteArray))) (fun _ hk => ⟨hk.1.1.1.1, ⟨hk.1.1.1.2.1, ⟨hk.1.1.1.2.2, hk.1.1.2⟩⟩⟩)⟩
       have n2_ : Aside0 (((((((w28.setCell ⟨gb498, 0, none⟩ (.slice A0_0 l0_0.length c0_0)).setCell ⟨gb498, 1, none⟩ (.slice A0_1 l0_1.length c0_1)).setCell ⟨gb498, 2, none⟩ (.slice A0_2 l0_2.length c0_2)).setCell ⟨gb498, 3, none⟩ (.slice A0_3 l0_3.length c0_3)).setCell ⟨gb498, 4, none⟩ (.int .i64 a0_4)).setCell ⟨gb495, 0, none⟩ (.string (⟨#[122, 122]⟩ : ByteArray))).heap[gb494]? = some (.cells #[.slice A0_0 l0_0.length c0_0, .slice A0_1 l0_1.length c0_1, .slice A0_2 l0_2.length c0_2, .slice A0_3 l0_3.length c0_3, .int .i64 a0_4] 27 (0, 0))) := ⟨by (with_reducible repeat (first | refine jY ?_ _ | refine jZ ?_ | refine jX ?_ _)); refine blk_far ?_ NB494_495.out _; (with_reducible repeat (first | refine jY ?_ _ | refine jZ ?_ | refine jX ?_ _)); refine blk_far ?_ NB494_498.out _; (with_reducible repeat (first | refine jY ?_ _ | refine jZ ?_ | refine jX ?_ _)); refine blk_far ?_ NB494_498.out _; (with_reducible repeat (first | refine jY ?_ _ | refine jZ ?_ | refine jX ?_ _)); refine blk_far ?_ NB494_498.out _; (with_reducible repeat (first | refine jY ?_ _ | refine jZ ?_ | refine jX ?_ _)); refine blk_far ?_ NB494_498.out _; (with_reducible repeat (first | refine jY ?_ _ | refine jZ ?_ | refine jX ?_ _)); refine blk_far ?_ NB494_498.out _; (with_reducible repeat (first | refine jY ?_ _ | refine jZ ?_ | refine jX ?_ _)); exact BK494.out⟩
       have n3_ : Aside0 (((((((w28.setCell ⟨gb498, 0, none⟩ (.slice A0_0 l0_0.length c0_0)).setCell ⟨gb498, 1, none⟩ (.slice A0_1 l0_1.length c0_1)).setCell ⟨gb498, 2, none⟩ (.slice A0_2 l0_2.length c0_2)).setCell ⟨gb498, 3, none⟩ (.slice A0_3 l0_3.length c0_3)).setCell ⟨gb498, 4, none⟩ (.int .i64 a0_4)).setCell ⟨gb495, 0, none⟩ (.string (⟨#[122, 122]⟩ : ByteArray))).heap[gb495]? = some (.cells #[.string (⟨#[122, 122]⟩ : ByteArray), .int .i64 a1_1, .slice A1_2 l1_2.length c1_2, .int .i64 a1_3] 64 (0, 0))) := ⟨by (with_reducible repeat (first | refine jY ?_ _ | refine jZ ?_ | refine jX ?_ _)); refine blk_put (cs := #[.string a1_0, .int .i64 a1_1, .slice A1_2 l1_2.length c1_2, .int .i64 a1_3]) ?_ 0 _ rfl; (with_reducible repeat (first | refine jY ?_ _ | refine jZ ?_ | refine jX ?_ _)); refine blk_far ?_ NB495_498.out _; (with_reducible repeat (first | refine jY ?_ _ | refine jZ ?_ | refine jX ?_ _)); refine blk_far ?_ NB495_498.out _; (with_reducible repeat (first | refine jY ?_ _ | refine jZ ?_ | refine jX ?_ _)); refine blk_far ?_ NB495_498.out _; (with_reducible repeat (first | refine jY ?_ _ | refine jZ ?_ | refine jX ?_ _)); refine blk_far ?_ NB495_498.out _; (with_reducible repeat (first | refine jY ?_ _ | refine jZ ?_ | refine jX ?_ _)); refine blk_far ?_ NB495_498.out _; (with_reducible repeat (first | refine jY ?_ _ | refine jZ ?_ | refine jX ?_ _)); exact BK495.out⟩
       have n4_ : Aside0 (((((((w28.setCell ⟨gb498, 0, none⟩ (.slice A0_0 l0_0.length c0_0)).setCell ⟨gb498, 1, none⟩ (.slice A0_1 l0_1.length c0_1)).setCell ⟨gb498, 2, none⟩ (.slice A0_2 l0_2.length c0_2)).setCell ⟨gb498, 3, none⟩ (.slice A0_3 l0_3.length c0_3)).setCell ⟨gb498, 4, none⟩ (.int .i64 a0_4)).setCell ⟨gb495, 0, none⟩ (.string (⟨#[122, 122]⟩ : ByteArray))).heap[gb498]? = some (.cells #[.slice A0_0 l0_0.length c0_0, .slice A0_1 l0_1.length c0_1, .slice A0_2 l0_2.length c0_2, .slice A0_3 l0_3.length c0_3, .int .i64 a0_4] 27 (0, 0))) := ⟨by (with_reducible repeat (first | refine jY ?_ _ | refine jZ ?_ | refine jX ?_ _)); refine blk_far ?_ NB498_495.out _; (with_reducible repeat (first | refine jY ?_ _ | refine jZ ?_ | refine jX ?_ _)); refine blk_put (cs := #[.slice A0_0 l0_0.length c0_0, .slice A0_1 l0_1.length c0_1, .slice A0_2 l0_2.length c0_2, .slice A0_3 l0_3.length c0_3, .int .i64 0]) ?_ 4 _ rfl; (with_reducible repeat (first | refine jY ?_ _ | refine jZ ?_ | refine jX ?_ _)); refine blk_put (cs := #[.slice A0_0 l0_0.length c0_0, .slice A0_1 l0_1.length c0_1, .slice A0_2 l0_2.length c0_2, .slice none 0 0, .int .i64 0]) ?_ 3 _ rfl; (with_reducible repeat (first | refine jY ?_ _ | refine jZ ?_ | refine jX ?_ _)); refine blk_put (cs := #[.slice A0_0 l0_0.length c0_0, .slice A0_1 l0_1.length c0_1, .slice none 0 0, .slice none 0 0, .int .i64 0]) ?_ 2 _ rfl; (with_reducible repeat (first | refine jY ?_ _ | refine jZ ?_ | refine jX ?_ _)); refine blk_put (cs := #[.slice A0_0 l0_0.length c0_0, .slice none 0 0, .slice none 0 0, .slice none 0 0, .int .i64 0]) ?_ 1 _ rfl; (with_reducible repeat (first | refine jY ?_ _ | refine jZ ?_ | refine jX ?_ _)); refine blk_put (cs := #[.slice none 0 0, .slice none 0 0, .slice none 0 0, .slice none 0 0, .int .i64 0]) ?_ 0 _ rfl; (with_reducible repeat (first | refine jY ?_ _ | refine jZ ?_ | refine jX ?_ _)); exact BK498.out⟩
       have n5_ : Aside0 (Below w.heap.size w ((((((w28.setCell ⟨gb498, 0, none⟩ (.slice A0_0 l0_0.length c0_0)).setCell ⟨gb498, 1, none⟩ (.slice A0_1 l0_1.length c0_1)).setCell ⟨gb498, 2, none⟩ (.slice A0_2 l0_2.length c0_2)).setCell ⟨gb498, 3, none⟩ (.slice A0_3 l0_3.length c0_3)).setCell ⟨gb498, 4, none⟩ (.int .i64 a0_4)).setCell ⟨gb495, 0, none⟩ (.string (⟨#[122, 122]⟩ : ByteArray)))) := ⟨by repeat (first | (with_reducible first | exact HB.out | apply jA | apply jN | apply jD | refine jS ?_ GE494.out | refine jS ?_ GE495.out | refine jS ?_ GE498.out) | exact HB.out)⟩
       (try clear HO_495003)
       (try clear HO_496002)
       (try clear BK494)
       (try clear BK495)
       (try clear BK498)
       (try clear HB)
       generalize ((((((w28.setCell ⟨gb498, 0, none⟩ (.slice A0_0 l0_0.length c0_0)).setCell ⟨gb498, 1, none⟩ (.slice A0_1 l0_1.length c0_1)).setCell ⟨gb498, 2, none⟩ (.slice A0_2 l0_2.length c0_2)).setCell ⟨gb498, 3, none⟩ (.slice A0_3 l0_3.length c0_3)).setCell ⟨gb498, 4, none⟩ (.int .i64 a0_4)).setCell ⟨gb495, 0, none⟩ (.string (⟨#[122, 122]⟩ : ByteArray))) = w33 at n0_ n1_ n2_ n3_ n4_ n5_ ⊢
       have HO_495003 := n0_
       have HO_496002 := n1_
       have BK494 := n2_
       have BK495 := n3_
       have BK498 := n4_
       have HB := n5_
       clear n0_ n1_ n2_ n3_ n4_ n5_
       have n0_ := jM (jv HO_495003.out)
       have n1_ := jM (jv HO_496002.out)
       have n2_ := jM (jZ BK494.out)
       have n3_ := jM (jZ BK495.out)
       have n4_ := jM (jZ BK498.out)
       have n5_ := jM (jD HB.out)
       clear HO_495003 HO_496002 BK494 BK495 BK498 HB
       have HO_495003 := n0_
       have HO_496002 := n1_
       have BK494 := n2_
       have BK495 := n3_
       have BK498 := n4_
       have HB := n5_
       clear n0_ n1_ n2_ n3_ n4_ n5_
       refine start_ (n := 9) (S := fun w' => w'.cell? ⟨gb494, 0, none⟩ = some (.slice A0_0 l0_0.length c0_0) ∧ w'.cell? ⟨gb494, 1, none⟩ = some (.slice A0_1 l0_1.length c0_1) ∧ w'.cell? ⟨gb494, 2, none⟩ = some (.slice A0_2 l0_2.length c0_2) ∧ w'.cell? ⟨gb494, 3, none⟩ = some (.slice A0_3 l0_3.length c0_3) ∧ w'.cell? ⟨gb494, 4, none⟩ = some (.int .i64 a0_4) ∧ w'.cell? ⟨gb495, 0, none⟩ = some (.string (⟨#[122, 122]⟩ : ByteArray)) ∧ w'.cell? ⟨gb495, 1, none⟩ = some (.int .i64 a1_1) ∧ w'.cell? ⟨gb495, 2, none⟩ = some (.slice A1_2 l1_2.length c1_2) ∧ w'.cell? ⟨gb495, 3, none⟩ = some (.int .i64 a1_3)) (ds := []) (tf 0 9) (by kernel_rfl) rfl rfl ⟨(jC BK494.out 0).trans rfl, (jC BK494.out 1).trans rfl, (jC BK494.out 2).trans rfl, (jC BK494.out 3).trans rfl, (jC BK494.out 4).trans rfl, (jC BK495.out 0).trans rfl, (jC BK495.out 1).trans rfl, (jC BK495.out 2).trans rfl, (jC BK495.out 3).trans rfl⟩ (fun hHeld => ?_); refine with_tabW sl14_StatesMore.tab9 sl14_StatesMore.bits9 (fun HT_ HW_ => ?_)
       generalize w33.drew = w34 at HO_495003 HO_496002 BK494 BK495 BK498 HB hHeld ⊢
       refine pure_ (i := 1) (N := some 42) (v := ?_) (a' := ?_) #[false, true, false, false, false, false, false, false, false] rfl rfl (any_of HT_.out (by kernel_rfl)) (fun _ _ _ h => h) (Or.inl ⟨by rfl, ?_⟩) ?_ ?_
       rotate_left
       ·intro w';go_simp;with_reducible rfl
       rotate_left
       ·simp only [Act.put, sA, i64_w, i32_w];rfl
       refine take_ (i := 2) (N := some 43) (v := ?_) (a' := ?_) #[false, true, true, false, false, false, false, false, false] rfl rfl (take_ofW HT_.out HW_.out (by kernel_rfl)) (fun _ _ _ h => h) (Or.inl ⟨by rfl, ?_⟩) hHeld ?_ ?_
       rotate_left
       ·rintro w' ⟨s0, s1, s2, s3, s4, s5, s6, s7, s8⟩;go_simp;with_reducible rfl
       rotate_left
       ·simp only [Act.put, sA, i64_w, i32_w];rfl
       refine take_ (i := 4) (N := some 45) (v := ?_) (a' := ?_) #[false, true, true, false, true, false, false, false, false] rfl rfl (take_ofW HT_.out HW_.out (by kernel_rfl)) (fun _ _ _ h => h) (Or.inl ⟨by rfl, ?_⟩) hHeld ?_ ?_
       rotate_left
       ·rintro w' ⟨s0, s1, s2, s3, s4, s5, s6, s7, s8⟩;go_simp;with_reducible rfl
       rotate_left
       ·simp only [Act.put, sA, i64_w, i32_w];rfl
       refine join_ (σ := Value × Value × Value) 3 (tf 6 3) (fun s_ => [(41, s_.1), (44, s_.2.1), (46, s_.2.2)]) (fun s_ w' => (w'.cell? ⟨gb494, 0, none⟩ = some (.slice A0_0 l0_0.length c0_0) ∧ w'.cell? ⟨gb494, 1, none⟩ = some (.slice A0_1 l0_1.length c0_1) ∧ w'.cell? ⟨gb494, 2, none⟩ = some (.slice A0_2 l0_2.length c0_2) ∧ w'.cell? ⟨gb494, 3, none⟩ = some (.slice A0_3 l0_3.length c0_3) ∧ w'.cell? ⟨gb494, 4, none⟩ = some (.int .i64 a0_4) ∧ w'.cell? ⟨gb495, 0, none⟩ = some (.string (⟨#[122, 122]⟩ : ByteArray)) ∧ w'.cell? ⟨gb495, 1, none⟩ = some (.int .i64 a1_1) ∧ w'.cell? ⟨gb495, 2, none⟩ = some (.slice A1_2 l1_2.length c1_2) ∧ w'.cell? ⟨gb495, 3, none⟩ = some (.int .i64 a1_3)) ∧ (Kd.N k64 64 w' w.heap.size (fun k_ => ((P0_3_ k_ ∨ P1_2_ k_) ∨ w.heap.size ≤ k_) ∧ some k_ ≠ (s_.2.2 : Value).ownBlock ∧ k_ ≠ gb494 ∧ k_ ≠ gb495 ∧ k_ ≠ gb498) s_.2.1 y502) ∧ (Kd.N k64 64 w' w.heap.size (fun k_ => ((P0_3_ k_ ∨ P1_2_ k_) ∨ w.heap.size ≤ k_) ∧ some k_ ≠ (s_.2.1 : Value).ownBlock ∧ k_ ≠ gb494 ∧ k_ ≠ gb495 ∧ k_ ≠ gb498) s_.2.2 y505) ∧ (Kd.V k64 64 w' w.heap.size (fun k_ => ((P0_3_ k_ ∨ P1_2_ k_) ∨ w.heap.size ≤ k_) ∧ some k_ ≠ (s_.2.1 : Value).ownBlock ∧ some k_ ≠ (s_.2.2 : Value).ownBlock ∧ k_ ≠ gb494 ∧ k_ ≠ gb495 ∧ k_ ≠ gb498) (.slice A0_3 l0_3.length c0_3) l0_3) ∧ (Kd.V (Kd.int .i64) 29 w' w.heap.size (fun k_ => ((P0_3_ k_ ∨ P1_2_ k_) ∨ w.heap.size ≤ k_) ∧ some k_ ≠ (s_.2.1 : Value).ownBlock ∧ some k_ ≠ (s_.2.2 : Value).ownBlock ∧ k_ ≠ gb494 ∧ k_ ≠ gb495 ∧ k_ ≠ gb498) (.slice A1_2 l1_2.length c1_2) l1_2) ∧ (w'.heap[gb494]? = some (.cells #[.slice A0_0 l0_0.length c0_0, .slice A0_1 l0_1.length c0_1, .slice A0_2 l0_2.length c0_2, .slice A0_3 l0_3.length c0_3, .int .i64 a0_4] 27 (0, 0))) ∧ (w'.heap[gb495]? = some (.cells #[.string (⟨#[122, 122]⟩ : ByteArray), .int .i64 a1_1, .slice A1_2 l1_2.length c1_2, .int .i64 a1_3] 64 (0, 0))) ∧ (w'.heap[gb498]? = some (.cells #[.slice A0_0 l0_0.length c0_0, .slice A0_1 l0_1.length c0_1, .slice A0_2 l0_2.length c0_2, .slice A0_3 l0_3.length c0_3, .int .i64 a0_4] 27 (0, 0))) ∧ (Below w.heap.size w w')) ?_ ?_
       rotate_left
       ·intro hCont
        refine two_ (i := 0) (j := 5) (Ni := some 41) (Nj := some 46) #[true, true, true, false, true, false, false, false, false] #[false, true, true, false, true, true, false, false, false] rfl rfl rfl rfl (two_of HT_.out (by kernel_rfl)) (by decide) (by decide) (fun K hK => ?_) (fun K hK => ?_)
        ·skip
         refine Kd.N_lit_step k64 _ 64 ?hg (N' := 41) ?hd (xs := ([] : List (S64))) (inner := []) (ok := (fun k_ => ((P0_3_ k_ ∨ P1_2_ k_) ∨ w.heap.size ≤ k_) ∧ k_ ≠ gb494 ∧ k_ ≠ gb495 ∧ k_ ≠ gb498)) (okp := (fun k_ => ((P0_3_ k_ ∨ P1_2_ k_) ∨ w.heap.size ≤ k_) ∧ k_ ≠ gb494 ∧ k_ ≠ gb495 ∧ k_ ≠ gb498)) ?hr ?hp (fun _ hk => hk) ((show ∀ k_, w34.heap.size ≤ k_ → (fun k_ => ((P0_3_ k_ ∨ P1_2_ k_) ∨ w.heap.size ≤ k_) ∧ k_ ≠ gb494 ∧ k_ ≠ gb495 ∧ k_ ≠ gb498) k_ from fun k_ hk => ⟨(.inr (Nat.le_trans (below_size (by repeat (first | (with_reducible first | exact HB.out | apply jA | apply jN | apply jD | refine jS ?_ GE494.out | refine jS ?_ GE495.out | refine jS ?_ GE498.out) | exact HB.out))) hk)), Kd.freshB (g := gb494) (o := .cells #[.slice A0_0 l0_0.length c0_0, .slice A0_1 l0_1.length c0_1, .slice A0_2 l0_2.length c0_2, .slice A0_3 l0_3.length c0_3, .int .i64 a0_4] 27 (0, 0)) (by (with_reducible repeat (first | refine jY ?_ _ | refine jZ ?_ | refine jX ?_ _)); exact BK494.out) k_ hk, Kd.freshB (g := gb495) (o := .cells #[.string (⟨#[122, 122]⟩ : ByteArray), .int .i64 a1_1, .slice A1_2 l1_2.length c1_2, .int .i64 a1_3] 64 (0, 0)) (by (with_reducible repeat (first | refine jY ?_ _ | refine jZ ?_ | refine jX ?_ _)); exact BK495.out) k_ hk, Kd.freshB (g := gb498) (o := .cells #[.slice A0_0 l0_0.length c0_0, .slice A0_1 l0_1.length c0_1, .slice A0_2 l0_2.length c0_2, .slice A0_3 l0_3.length c0_3, .int .i64 a0_4] 27 (0, 0)) (by (with_reducible repeat (first | refine jY ?_ _ | refine jZ ?_ | refine jX ?_ _)); exact BK498.out) k_ hk⟩) _ (Nat.le_refl _)) (Below.refl _ _) (Nat.le_refl _) (by simp) ?_; (case hd => rfl); (case hg => rfl); (case hr => first | (go_simp; done) | (go_simp; rfl)); (case hp => exact (Reps.none _ _))
         intro v500 w35 ho36 hb hg_ hnew_
         clear hg_ hnew_
         (first | rw [← Ny499.out] at ho36 | (simp only [Int.reduceToNat] at ho36; rw [← Ny499.out] at ho36))
         have n0_ := jM (Kd.V_elder' (by (with_reducible repeat (first | apply jt | apply ju | apply jv)); exact HO_495003.out) (Kd.N_base ho36) hb)
         have n1_ := jM (Kd.V_elder' (by (with_reducible repeat (first | apply jt | apply ju | apply jv)); exact HO_496002.out) (Kd.N_base ho36) hb)
         have n2_ := jM (Kd.N_lower ho36 (below_size (by repeat (first | (with_reducible first | exact HB.out | apply jA | apply jN | apply jD | refine jS ?_ GE494.out | refine jS ?_ GE495.out | refine jS ?_ GE498.out) | exact HB.out))))
         have n3_ := jM (jW (g := gb494) (o := .cells #[.slice A0_0 l0_0.length c0_0, .slice A0_1 l0_1.length c0_1, .slice A0_2 l0_2.length c0_2, .slice A0_3 l0_3.length c0_3, .int .i64 a0_4] 27 (0, 0)) (by (with_reducible repeat (first | refine jY ?_ _ | refine jZ ?_ | refine jX ?_ _)); exact BK494.out) hb)
         have n4_ := jM (jW (g := gb495) (o := .cells #[.string (⟨#[122, 122]⟩ : ByteArray), .int .i64 a1_1, .slice A1_2 l1_2.length c1_2, .int .i64 a1_3] 64 (0, 0)) (by (with_reducible repeat (first | refine jY ?_ _ | refine jZ ?_ | refine jX ?_ _)); exact BK495.out) hb)
         have n5_ := jM (jW (g := gb498) (o := .cells #[.slice A0_0 l0_0.length c0_0, .slice A0_1 l0_1.length c0_1, .slice A0_2 l0_2.length c0_2, .slice A0_3 l0_3.length c0_3, .int .i64 a0_4] 27 (0, 0)) (by (with_reducible repeat (first | refine jY ?_ _ | refine jZ ?_ | refine jX ?_ _)); exact BK498.out) hb)
         have n6_ := jM (jT (by repeat (first | (with_reducible first | exact HB.out | apply jA | apply jN | apply jD | refine jS ?_ GE494.out | refine jS ?_ GE495.out | refine jS ?_ GE498.out) | exact HB.out)) hb)
         clear HO_495003 HO_496002 BK494 BK495 BK498 HB
         have HO_495003 := n0_
         have HO_496002 := n1_
         have HO501 := n2_
         have BK494 := n3_
         have BK495 := n4_
         have BK498 := n5_
         have HB := n6_
         clear n0_ n1_ n2_ n3_ n4_ n5_ n6_ hb ho36
         refine hK.out _ _ ⟨(jC BK494.out 0).trans rfl, (jC BK494.out 1).trans rfl, (jC BK494.out 2).trans rfl, (jC BK494.out 3).trans rfl, (jC BK494.out 4).trans rfl, (jC BK495.out 0).trans rfl, (jC BK495.out 1).trans rfl, (jC BK495.out 2).trans rfl, (jC BK495.out 3).trans rfl⟩ (fun hHeld => ?_)
         clear hK K
         refine norm_ (a' := ?_) ?_ ?_
         rotate_left
         ·show Act.put _ (some 41) _ = _
          simp only [Act.put, sA, i64_w, i32_w]
          rfl
         refine two_ (i := 3) (j := 5) (Ni := some 44) (Nj := some 46) (tf 5 4) #[true, true, true, false, true, true, false, false, false] rfl rfl rfl rfl (two_of HT_.out (by kernel_rfl)) (by decide) (by decide) (fun K hK => ?_) (fun K hK => ?_)
         ·skip
          refine Kd.N_append_rows_step k64 (w0 := w) w.heap.size (by rfl) (.tmp 41) (.tmp 43) 25 64 (.agg #[(.string ⟨#[]⟩), (.int .i64 0), (.slice none 0 0), (.int .i64 0)]) 56 rfl Tryd.underlying25 info64 rfl (by decide) (by omega) v500 y499 l0_3 _ _ _ (fun k_ => ((P0_3_ k_ ∨ P1_2_ k_) ∨ w.heap.size ≤ k_) ∧ k_ ≠ gb494 ∧ k_ ≠ gb495 ∧ k_ ≠ gb498) (fun k_ => ((fun k_ => ((P0_3_ k_ ∨ P1_2_ k_) ∨ w.heap.size ≤ k_) ∧ k_ ≠ gb494 ∧ k_ ≠ gb495 ∧ k_ ≠ gb498)) k_ ∧ some k_ ≠ (v500 : Value).ownBlock) rfl rfl ?aO ?aR (fun _ hk => hk) ?aF ?aB ?aS ?aL ?_
          (case aR => exact (by skip; exact Kd.V_F (Kd.V_mono (ok' := (fun k_ => ((fun k_ => ((P0_3_ k_ ∨ P1_2_ k_) ∨ w.heap.size ≤ k_) ∧ k_ ≠ gb494 ∧ k_ ≠ gb495 ∧ k_ ≠ gb498)) k_ ∧ some k_ ≠ (v500 : Value).ownBlock)) (HO_495003.out) (fun k_ hk => ⟨⟨hk.1.1, ⟨hk.1.2.1, ⟨hk.1.2.2.1, hk.1.2.2.2⟩⟩⟩, hk.2⟩))))
          (case aB => exact (by repeat (first | (with_reducible first | exact HB.out | apply jA | apply jN | apply jD | refine jS ?_ GE494.out | refine jS ?_ GE495.out | refine jS ?_ GE498.out) | exact HB.out)))
          (case aF => exact (fun k_ hk => ⟨(.inr (Nat.le_trans (below_size (by repeat (first | (with_reducible first | exact HB.out | apply jA | apply jN | apply jD | refine jS ?_ GE494.out | refine jS ?_ GE495.out | refine jS ?_ GE498.out) | exact HB.out))) hk)), Kd.freshB (g := gb494) (o := .cells #[.slice A0_0 l0_0.length c0_0, .slice A0_1 l0_1.length c0_1, .slice A0_2 l0_2.length c0_2, .slice A0_3 l0_3.length c0_3, .int .i64 a0_4] 27 (0, 0)) (by (with_reducible repeat (first | refine jY ?_ _ | refine jZ ?_ | refine jX ?_ _)); exact BK494.out) k_ hk, Kd.freshB (g := gb495) (o := .cells #[.string (⟨#[122, 122]⟩ : ByteArray), .int .i64 a1_1, .slice A1_2 l1_2.length c1_2, .int .i64 a1_3] 64 (0, 0)) (by (with_reducible repeat (first | refine jY ?_ _ | refine jZ ?_ | refine jX ?_ _)); exact BK495.out) k_ hk, Kd.freshB (g := gb498) (o := .cells #[.slice A0_0 l0_0.length c0_0, .slice A0_1 l0_1.length c0_1, .slice A0_2 l0_2.length c0_2, .slice A0_3 l0_3.length c0_3, .int .i64 a0_4] 27 (0, 0)) (by (with_reducible repeat (first | refine jY ?_ _ | refine jZ ?_ | refine jX ?_ _)); exact BK498.out) k_ hk⟩))
          (case aO => exact (by (with_reducible repeat (first | apply jn | apply jo | apply jp)); exact HO501.out))
          (case aS => exact (below_size (by repeat (first | (with_reducible first | exact HB.out | apply jA | apply jN | apply jD | refine jS ?_ GE494.out | refine jS ?_ GE495.out | refine jS ?_ GE498.out) | exact HB.out))))
          (case aL => have := LMc21.out; omega)
          intro v503 w37 ho hb hg hat
          rw [← Ny502.out] at ho
          have n0_ := jM (Kd.V_afterv (ok := (fun k_ => ((P0_3_ k_ ∨ P1_2_ k_) ∨ w.heap.size ≤ k_) ∧ k_ ≠ gb494 ∧ k_ ≠ gb495 ∧ k_ ≠ gb498)) (by (with_reducible repeat (first | apply jt | apply ju | apply jv)); exact HO_495003.out) hg hat)
          have n1_ := jM (Kd.V_afterv (ok := (fun k_ => ((P0_3_ k_ ∨ P1_2_ k_) ∨ w.heap.size ≤ k_) ∧ k_ ≠ gb494 ∧ k_ ≠ gb495 ∧ k_ ≠ gb498)) (by (with_reducible repeat (first | apply jt | apply ju | apply jv)); exact HO_496002.out) hg hat)
          have n2_ := jM (blk_grown (g := gb494) (o := .cells #[.slice A0_0 l0_0.length c0_0, .slice A0_1 l0_1.length c0_1, .slice A0_2 l0_2.length c0_2, .slice A0_3 l0_3.length c0_3, .int .i64 a0_4] 27 (0, 0)) (by (with_reducible repeat (first | refine jY ?_ _ | refine jZ ?_ | refine jX ?_ _)); exact BK494.out) hg (Kd.N_ne HO501.out BK494.out (by decide)))
          have n3_ := jM (blk_grown (g := gb495) (o := .cells #[.string (⟨#[122, 122]⟩ : ByteArray), .int .i64 a1_1, .slice A1_2 l1_2.length c1_2, .int .i64 a1_3] 64 (0, 0)) (by (with_reducible repeat (first | refine jY ?_ _ | refine jZ ?_ | refine jX ?_ _)); exact BK495.out) hg (Kd.N_away HO501.out (fun _ hk => hk.2.2.1)))
          have n4_ := jM (blk_grown (g := gb498) (o := .cells #[.slice A0_0 l0_0.length c0_0, .slice A0_1 l0_1.length c0_1, .slice A0_2 l0_2.length c0_2, .slice A0_3 l0_3.length c0_3, .int .i64 a0_4] 27 (0, 0)) (by (with_reducible repeat (first | refine jY ?_ _ | refine jZ ?_ | refine jX ?_ _)); exact BK498.out) hg (Kd.N_ne HO501.out BK498.out (by decide)))
          have n5_ := jM (hb)
          have n6_ := jM (ho)
          clear HO_495003 HO_496002 BK494 BK495 BK498 HB HO501
          have HO_495003 := n0_
          have HO_496002 := n1_
          have BK494 := n2_
          have BK495 := n3_
          have BK498 := n4_
          have HB := n5_
          have HO504 := n6_
          clear n0_ n1_ n2_ n3_ n4_ n5_ n6_ ho hb hg hat
          refine hK.out _ _ ⟨(jC BK494.out 0).trans rfl, (jC BK494.out 1).trans rfl, (jC BK494.out 2).trans rfl, (jC BK494.out 3).trans rfl, (jC BK494.out 4).trans rfl, (jC BK495.out 0).trans rfl, (jC BK495.out 1).trans rfl, (jC BK495.out 2).trans rfl, (jC BK495.out 3).trans rfl⟩ (fun hHeld => ?_)
          clear hK K
          refine norm_ (a' := ?_) ?_ ?_
          rotate_left
          ·show Act.put _ (some 44) _ = _
           simp only [Act.put, sA, i64_w, i32_w]
           rfl
          refine one_ (i := 5) (N := some 46) (tf 6 3) rfl rfl (one_of HT_.out (by kernel_rfl)) (by decide) (fun K hK => ?_)
          refine Kd.N_lit_step k64 _ 64 ?hg (N' := 46) ?hd (xs := ([(⟨(⟨#[122, 122]⟩ : ByteArray), a1_1, l1_2, a1_3⟩ : S64)] : List (S64))) (inner := [.string (⟨#[122, 122]⟩ : ByteArray), .int .i64 a1_1, .slice A1_2 l1_2.length c1_2, .int .i64 a1_3]) (ok := (fun k_ => ((P0_3_ k_ ∨ P1_2_ k_) ∨ w.heap.size ≤ k_) ∧ some k_ ≠ (v503 : Value).ownBlock ∧ k_ ≠ gb494 ∧ k_ ≠ gb495 ∧ k_ ≠ gb498)) (okp := (fun k_ => ((P0_3_ k_ ∨ P1_2_ k_) ∨ w.heap.size ≤ k_) ∧ some k_ ≠ (v503 : Value).ownBlock ∧ k_ ≠ gb494 ∧ k_ ≠ gb495 ∧ k_ ≠ gb498)) ?hr ?hp (fun _ hk => hk) ((show ∀ k_, w37.heap.size ≤ k_ → (fun k_ => ((P0_3_ k_ ∨ P1_2_ k_) ∨ w.heap.size ≤ k_) ∧ some k_ ≠ (v503 : Value).ownBlock ∧ k_ ≠ gb494 ∧ k_ ≠ gb495 ∧ k_ ≠ gb498) k_ from fun k_ hk => ⟨(.inr (Nat.le_trans (below_size (by repeat (first | (with_reducible first | exact HB.out | apply jA | apply jN | apply jD | refine jS ?_ GE494.out | refine jS ?_ GE495.out | refine jS ?_ GE498.out) | exact HB.out))) hk)), Kd.fresh' (Kd.N_lt (by (with_reducible repeat (first | apply jn | apply jo | apply jp)); exact HO504.out)) k_ hk, Kd.freshB (g := gb494) (o := .cells #[.slice A0_0 l0_0.length c0_0, .slice A0_1 l0_1.length c0_1, .slice A0_2 l0_2.length c0_2, .slice A0_3 l0_3.length c0_3, .int .i64 a0_4] 27 (0, 0)) (by (with_reducible repeat (first | refine jY ?_ _ | refine jZ ?_ | refine jX ?_ _)); exact BK494.out) k_ hk, Kd.freshB (g := gb495) (o := .cells #[.string (⟨#[122, 122]⟩ : ByteArray), .int .i64 a1_1, .slice A1_2 l1_2.length c1_2, .int .i64 a1_3] 64 (0, 0)) (by (with_reducible repeat (first | refine jY ?_ _ | refine jZ ?_ | refine jX ?_ _)); exact BK495.out) k_ hk, Kd.freshB (g := gb498) (o := .cells #[.slice A0_0 l0_0.length c0_0, .slice A0_1 l0_1.length c0_1, .slice A0_2 l0_2.length c0_2, .slice A0_3 l0_3.length c0_3, .int .i64 a0_4] 27 (0, 0)) (by (with_reducible repeat (first | refine jY ?_ _ | refine jZ ?_ | refine jX ?_ _)); exact BK498.out) k_ hk⟩) _ (Nat.le_refl _)) (Below.refl _ _) (Nat.le_refl _) (by simp) ?_; (case hd => rfl); (case hg => rfl); (case hr => first | (go_simp; done) | (go_simp; rfl)); (case hp => exact (Reps.c4 (show Kd.FK k64 _ _ (⟨(⟨#[122, 122]⟩ : ByteArray), a1_1, l1_2, a1_3⟩ : S64) [.string (⟨#[122, 122]⟩ : ByteArray), .int .i64 a1_1, .slice A1_2 l1_2.length c1_2, .int .i64 a1_3] from (k64_mkF _ _ (⟨(⟨#[122, 122]⟩ : ByteArray), a1_1, l1_2, a1_3⟩ : S64) (Kd.V_reads' (Kd.V_mono (ok' := (fun k_ => ((P0_3_ k_ ∨ P1_2_ k_) ∨ w.heap.size ≤ k_) ∧ some k_ ≠ (v503 : Value).ownBlock ∧ k_ ≠ gb494 ∧ k_ ≠ gb495 ∧ k_ ≠ gb498)) (HO_496002.out) (fun k_ hk => ⟨hk.1.1, ⟨hk.2, ⟨hk.1.2.1, ⟨hk.1.2.2.1, hk.1.2.2.2⟩⟩⟩⟩))).2.1 (Kd.V_F (Kd.V_mono (ok' := (fun k_ => ((P0_3_ k_ ∨ P1_2_ k_) ∨ w.heap.size ≤ k_) ∧ some k_ ≠ (v503 : Value).ownBlock ∧ k_ ≠ gb494 ∧ k_ ≠ gb495 ∧ k_ ≠ gb498)) (HO_496002.out) (fun k_ hk => ⟨hk.1.1, ⟨hk.2, ⟨hk.1.2.1, ⟨hk.1.2.2.1, hk.1.2.2.2⟩⟩⟩⟩))))) (Reps.none _ _)))
          intro v506 w38 ho39 hb hg_ hnew_
          clear hg_ hnew_
          (first | rw [← Ny505.out] at ho39 | (simp only [Int.reduceToNat] at ho39; rw [← Ny505.out] at ho39))
          have n0_ := jM (Kd.V_elder' (by (with_reducible repeat (first | apply jt | apply ju | apply jv)); exact HO_495003.out) (Kd.N_base ho39) hb)
          have n1_ := jM (Kd.V_elder' (by (with_reducible repeat (first | apply jt | apply ju | apply jv)); exact HO_496002.out) (Kd.N_base ho39) hb)
          have n2_ := jM (Kd.N_elder' (by (with_reducible repeat (first | apply jn | apply jo | apply jp)); exact HO504.out) (Kd.N_base ho39) hb)
          have n3_ := jM (Kd.N_lower ho39 (below_size (by repeat (first | (with_reducible first | exact HB.out | apply jA | apply jN | apply jD | refine jS ?_ GE494.out | refine jS ?_ GE495.out | refine jS ?_ GE498.out) | exact HB.out))))
          have n4_ := jM (jW (g := gb494) (o := .cells #[.slice A0_0 l0_0.length c0_0, .slice A0_1 l0_1.length c0_1, .slice A0_2 l0_2.length c0_2, .slice A0_3 l0_3.length c0_3, .int .i64 a0_4] 27 (0, 0)) (by (with_reducible repeat (first | refine jY ?_ _ | refine jZ ?_ | refine jX ?_ _)); exact BK494.out) hb)
          have n5_ := jM (jW (g := gb495) (o := .cells #[.string (⟨#[122, 122]⟩ : ByteArray), .int .i64 a1_1, .slice A1_2 l1_2.length c1_2, .int .i64 a1_3] 64 (0, 0)) (by (with_reducible repeat (first | refine jY ?_ _ | refine jZ ?_ | refine jX ?_ _)); exact BK495.out) hb)
          have n6_ := jM (jW (g := gb498) (o := .cells #[.slice A0_0 l0_0.length c0_0, .slice A0_1 l0_1.length c0_1, .slice A0_2 l0_2.length c0_2, .slice A0_3 l0_3.length c0_3, .int .i64 a0_4] 27 (0, 0)) (by (with_reducible repeat (first | refine jY ?_ _ | refine jZ ?_ | refine jX ?_ _)); exact BK498.out) hb)
          have n7_ := jM (jT (by repeat (first | (with_reducible first | exact HB.out | apply jA | apply jN | apply jD | refine jS ?_ GE494.out | refine jS ?_ GE495.out | refine jS ?_ GE498.out) | exact HB.out)) hb)
          clear HO_495003 HO_496002 HO504 BK494 BK495 BK498 HB
          have HO_495003 := n0_
          have HO_496002 := n1_
          have HO504 := n2_
          have HO507 := n3_
          have BK494 := n4_
          have BK495 := n5_
          have BK498 := n6_
          have HB := n7_
          clear n0_ n1_ n2_ n3_ n4_ n5_ n6_ n7_ hb ho39
          refine hK.out _ _ ⟨(jC BK494.out 0).trans rfl, (jC BK494.out 1).trans rfl, (jC BK494.out 2).trans rfl, (jC BK494.out 3).trans rfl, (jC BK494.out 4).trans rfl, (jC BK495.out 0).trans rfl, (jC BK495.out 1).trans rfl, (jC BK495.out 2).trans rfl, (jC BK495.out 3).trans rfl⟩ (fun hHeld => ?_)
          clear hK K
          refine norm_ (a' := ?_) ?_ ?_
          rotate_left
          ·show Act.put _ (some 46) _ = _
           simp only [Act.put, sA, i64_w, i32_w]
           rfl
          exact norm_ (by simp only [putAll, Act.put, sA]) (hCont (v500, v503, v506) _ ⟨hHeld, (by (with_reducible repeat (first | apply jn | apply jo | apply jp)); exact Kd.N_mono HO504.out (fun _ hk => ⟨hk.1.1, ⟨hk.2, ⟨hk.1.2.1, ⟨hk.1.2.2.1, hk.1.2.2.2⟩⟩⟩⟩)), (by (with_reducible repeat (first | apply jn | apply jo | apply jp)); exact HO507.out), (by (with_reducible repeat (first | apply jt | apply ju | apply jv)); exact Kd.V_mono HO_495003.out (fun _ hk => ⟨hk.1.1.1, ⟨hk.1.2, ⟨hk.2, ⟨hk.1.1.2.1, ⟨hk.1.1.2.2.1, hk.1.1.2.2.2⟩⟩⟩⟩⟩)), (by (with_reducible repeat (first | apply jt | apply ju | apply jv)); exact Kd.V_mono HO_496002.out (fun _ hk => ⟨hk.1.1.1, ⟨hk.1.2, ⟨hk.2, ⟨hk.1.1.2.1, ⟨hk.1.1.2.2.1, hk.1.1.2.2.2⟩⟩⟩⟩⟩)), (by (with_reducible repeat (first | refine jY ?_ _ | refine jZ ?_ | refine jX ?_ _)); exact BK494.out), (by (with_reducible repeat (first | refine jY ?_ _ | refine jZ ?_ | refine jX ?_ _)); exact BK495.out), (by (with_reducible repeat (first | refine jY ?_ _ | refine jZ ?_ | refine jX ?_ _)); exact BK498.out), (by repeat (first | (with_reducible first | exact HB.out | apply jA | apply jN | apply jD | refine jS ?_ GE494.out | refine jS ?_ GE495.out | refine jS ?_ GE498.out) | exact HB.out))⟩)
         ·skip
          refine Kd.N_lit_step k64 _ 64 ?hg (N' := 46) ?hd (xs := ([(⟨(⟨#[122, 122]⟩ : ByteArray), a1_1, l1_2, a1_3⟩ : S64)] : List (S64))) (inner := [.string (⟨#[122, 122]⟩ : ByteArray), .int .i64 a1_1, .slice A1_2 l1_2.length c1_2, .int .i64 a1_3]) (ok := (fun k_ => ((P0_3_ k_ ∨ P1_2_ k_) ∨ w.heap.size ≤ k_) ∧ some k_ ≠ (v500 : Value).ownBlock ∧ k_ ≠ gb494 ∧ k_ ≠ gb495 ∧ k_ ≠ gb498)) (okp := (fun k_ => ((P0_3_ k_ ∨ P1_2_ k_) ∨ w.heap.size ≤ k_) ∧ some k_ ≠ (v500 : Value).ownBlock ∧ k_ ≠ gb494 ∧ k_ ≠ gb495 ∧ k_ ≠ gb498)) ?hr ?hp (fun _ hk => hk) ((show ∀ k_, w35.heap.size ≤ k_ → (fun k_ => ((P0_3_ k_ ∨ P1_2_ k_) ∨ w.heap.size ≤ k_) ∧ some k_ ≠ (v500 : Value).ownBlock ∧ k_ ≠ gb494 ∧ k_ ≠ gb495 ∧ k_ ≠ gb498) k_ from fun k_ hk => ⟨(.inr (Nat.le_trans (below_size (by repeat (first | (with_reducible first | exact HB.out | apply jA | apply jN | apply jD | refine jS ?_ GE494.out | refine jS ?_ GE495.out | refine jS ?_ GE498.out) | exact HB.out))) hk)), Kd.fresh' (Kd.N_lt (by (with_reducible repeat (first | apply jn | apply jo | apply jp)); exact HO501.out)) k_ hk, Kd.freshB (g := gb494) (o := .cells #[.slice A0_0 l0_0.length c0_0, .slice A0_1 l0_1.length c0_1, .slice A0_2 l0_2.length c0_2, .slice A0_3 l0_3.length c0_3, .int .i64 a0_4] 27 (0, 0)) (by (with_reducible repeat (first | refine jY ?_ _ | refine jZ ?_ | refine jX ?_ _)); exact BK494.out) k_ hk, Kd.freshB (g := gb495) (o := .cells #[.string (⟨#[122, 122]⟩ : ByteArray), .int .i64 a1_1, .slice A1_2 l1_2.length c1_2, .int .i64 a1_3] 64 (0, 0)) (by (with_reducible repeat (first | refine jY ?_ _ | refine jZ ?_ | refine jX ?_ _)); exact BK495.out) k_ hk, Kd.freshB (g := gb498) (o := .cells #[.slice A0_0 l0_0.length c0_0, .slice A0_1 l0_1.length c0_1, .slice A0_2 l0_2.length c0_2, .slice A0_3 l0_3.length c0_3, .int .i64 a0_4] 27 (0, 0)) (by (with_reducible repeat (first | refine jY ?_ _ | refine jZ ?_ | refine jX ?_ _)); exact BK498.out) k_ hk⟩) _ (Nat.le_refl _)) (Below.refl _ _) (Nat.le_refl _) (by simp) ?_; (case hd => rfl); (case hg => rfl); (case hr => first | (go_simp; done) | (go_simp; rfl)); (case hp => exact (Reps.c4 (show Kd.FK k64 _ _ (⟨(⟨#[122, 122]⟩ : ByteArray), a1_1, l1_2, a1_3⟩ : S64) [.string (⟨#[122, 122]⟩ : ByteArray), .int .i64 a1_1, .slice A1_2 l1_2.length c1_2, .int .i64 a1_3] from (k64_mkF _ _ (⟨(⟨#[122, 122]⟩ : ByteArray), a1_1, l1_2, a1_3⟩ : S64) (Kd.V_reads' (Kd.V_mono (ok' := (fun k_ => ((P0_3_ k_ ∨ P1_2_ k_) ∨ w.heap.size ≤ k_) ∧ some k_ ≠ (v500 : Value).ownBlock ∧ k_ ≠ gb494 ∧ k_ ≠ gb495 ∧ k_ ≠ gb498)) (HO_496002.out) (fun k_ hk => ⟨hk.1.1, ⟨hk.2, ⟨hk.1.2.1, ⟨hk.1.2.2.1, hk.1.2.2.2⟩⟩⟩⟩))).2.1 (Kd.V_F (Kd.V_mono (ok' := (fun k_ => ((P0_3_ k_ ∨ P1_2_ k_) ∨ w.heap.size ≤ k_) ∧ some k_ ≠ (v500 : Value).ownBlock ∧ k_ ≠ gb494 ∧ k_ ≠ gb495 ∧ k_ ≠ gb498)) (HO_496002.out) (fun k_ hk => ⟨hk.1.1, ⟨hk.2, ⟨hk.1.2.1, ⟨hk.1.2.2.1, hk.1.2.2.2⟩⟩⟩⟩))))) (Reps.none _ _)))
          intro v506 w37 ho38 hb hg_ hnew_
          clear hg_ hnew_
          (first | rw [← Ny505.out] at ho38 | (simp only [Int.reduceToNat] at ho38; rw [← Ny505.out] at ho38))
          have n0_ := jM (Kd.V_elder' (by (with_reducible repeat (first | apply jt | apply ju | apply jv)); exact HO_495003.out) (Kd.N_base ho38) hb)
          have n1_ := jM (Kd.V_elder' (by (with_reducible repeat (first | apply jt | apply ju | apply jv)); exact HO_496002.out) (Kd.N_base ho38) hb)
          have n2_ := jM (Kd.N_elder' (by (with_reducible repeat (first | apply jn | apply jo | apply jp)); exact HO501.out) (Kd.N_base ho38) hb)
          have n3_ := jM (Kd.N_lower ho38 (below_size (by repeat (first | (with_reducible first | exact HB.out | apply jA | apply jN | apply jD | refine jS ?_ GE494.out | refine jS ?_ GE495.out | refine jS ?_ GE498.out) | exact HB.out))))
          have n4_ := jM (jW (g := gb494) (o := .cells #[.slice A0_0 l0_0.length c0_0, .slice A0_1 l0_1.length c0_1, .slice A0_2 l0_2.length c0_2, .slice A0_3 l0_3.length c0_3, .int .i64 a0_4] 27 (0, 0)) (by (with_reducible repeat (first | refine jY ?_ _ | refine jZ ?_ | refine jX ?_ _)); exact BK494.out) hb)
          have n5_ := jM (jW (g := gb495) (o := .cells #[.string (⟨#[122, 122]⟩ : ByteArray), .int .i64 a1_1, .slice A1_2 l1_2.length c1_2, .int .i64 a1_3] 64 (0, 0)) (by (with_reducible repeat (first | refine jY ?_ _ | refine jZ ?_ | refine jX ?_ _)); exact BK495.out) hb)
          have n6_ := jM (jW (g := gb498) (o := .cells #[.slice A0_0 l0_0.length c0_0, .slice A0_1 l0_1.length c0_1, .slice A0_2 l0_2.length c0_2, .slice A0_3 l0_3.length c0_3, .int .i64 a0_4] 27 (0, 0)) (by (with_reducible repeat (first | refine jY ?_ _ | refine jZ ?_ | refine jX ?_ _)); exact BK498.out) hb)
          have n7_ := jM (jT (by repeat (first | (with_reducible first | exact HB.out | apply jA | apply jN | apply jD | refine jS ?_ GE494.out | refine jS ?_ GE495.out | refine jS ?_ GE498.out) | exact HB.out)) hb)
          clear HO_495003 HO_496002 HO501 BK494 BK495 BK498 HB
          have HO_495003 := n0_
          have HO_496002 := n1_
          have HO501 := n2_
          have HO507 := n3_
          have BK494 := n4_
          have BK495 := n5_
          have BK498 := n6_
          have HB := n7_
          clear n0_ n1_ n2_ n3_ n4_ n5_ n6_ n7_ hb ho38
          refine hK.out _ _ ⟨(jC BK494.out 0).trans rfl, (jC BK494.out 1).trans rfl, (jC BK494.out 2).trans rfl, (jC BK494.out 3).trans rfl, (jC BK494.out 4).trans rfl, (jC BK495.out 0).trans rfl, (jC BK495.out 1).trans rfl, (jC BK495.out 2).trans rfl, (jC BK495.out 3).trans rfl⟩ (fun hHeld => ?_)
          clear hK K
          refine norm_ (a' := ?_) ?_ ?_
          rotate_left
          ·show Act.put _ (some 46) _ = _
           simp only [Act.put, sA, i64_w, i32_w]
           rfl
          refine one_ (i := 3) (N := some 44) (tf 6 3) rfl rfl (one_of HT_.out (by kernel_rfl)) (by decide) (fun K hK => ?_)
          refine Kd.N_append_rows_step k64 (w0 := w) w.heap.size (by rfl) (.tmp 41) (.tmp 43) 25 64 (.agg #[(.string ⟨#[]⟩), (.int .i64 0), (.slice none 0 0), (.int .i64 0)]) 56 rfl Tryd.underlying25 info64 rfl (by decide) (by omega) v500 y499 l0_3 _ _ _ (fun k_ => ((P0_3_ k_ ∨ P1_2_ k_) ∨ w.heap.size ≤ k_) ∧ some k_ ≠ (v506 : Value).ownBlock ∧ k_ ≠ gb494 ∧ k_ ≠ gb495 ∧ k_ ≠ gb498) (fun k_ => ((fun k_ => ((P0_3_ k_ ∨ P1_2_ k_) ∨ w.heap.size ≤ k_) ∧ some k_ ≠ (v506 : Value).ownBlock ∧ k_ ≠ gb494 ∧ k_ ≠ gb495 ∧ k_ ≠ gb498)) k_ ∧ some k_ ≠ (v500 : Value).ownBlock) rfl rfl ?aO ?aR (fun _ hk => hk) ?aF ?aB ?aS ?aL ?_
          (case aR => exact (by skip; exact Kd.V_F (Kd.V_mono (ok' := (fun k_ => ((fun k_ => ((P0_3_ k_ ∨ P1_2_ k_) ∨ w.heap.size ≤ k_) ∧ some k_ ≠ (v506 : Value).ownBlock ∧ k_ ≠ gb494 ∧ k_ ≠ gb495 ∧ k_ ≠ gb498)) k_ ∧ some k_ ≠ (v500 : Value).ownBlock)) (HO_495003.out) (fun k_ hk => ⟨⟨hk.1.1.1, ⟨hk.2, ⟨hk.1.1.2.1, ⟨hk.1.1.2.2.1, hk.1.1.2.2.2⟩⟩⟩⟩, hk.1.2⟩))))
          (case aB => exact (by repeat (first | (with_reducible first | exact HB.out | apply jA | apply jN | apply jD | refine jS ?_ GE494.out | refine jS ?_ GE495.out | refine jS ?_ GE498.out) | exact HB.out)))
          (case aF => exact (fun k_ hk => ⟨(.inr (Nat.le_trans (below_size (by repeat (first | (with_reducible first | exact HB.out | apply jA | apply jN | apply jD | refine jS ?_ GE494.out | refine jS ?_ GE495.out | refine jS ?_ GE498.out) | exact HB.out))) hk)), Kd.fresh' (Kd.N_lt (by (with_reducible repeat (first | apply jn | apply jo | apply jp)); exact HO507.out)) k_ hk, Kd.freshB (g := gb494) (o := .cells #[.slice A0_0 l0_0.length c0_0, .slice A0_1 l0_1.length c0_1, .slice A0_2 l0_2.length c0_2, .slice A0_3 l0_3.length c0_3, .int .i64 a0_4] 27 (0, 0)) (by (with_reducible repeat (first | refine jY ?_ _ | refine jZ ?_ | refine jX ?_ _)); exact BK494.out) k_ hk, Kd.freshB (g := gb495) (o := .cells #[.string (⟨#[122, 122]⟩ : ByteArray), .int .i64 a1_1, .slice A1_2 l1_2.length c1_2, .int .i64 a1_3] 64 (0, 0)) (by (with_reducible repeat (first | refine jY ?_ _ | refine jZ ?_ | refine jX ?_ _)); exact BK495.out) k_ hk, Kd.freshB (g := gb498) (o := .cells #[.slice A0_0 l0_0.length c0_0, .slice A0_1 l0_1.length c0_1, .slice A0_2 l0_2.length c0_2, .slice A0_3 l0_3.length c0_3, .int .i64 a0_4] 27 (0, 0)) (by (with_reducible repeat (first | refine jY ?_ _ | refine jZ ?_ | refine jX ?_ _)); exact BK498.out) k_ hk⟩))
          (case aO => exact (by (with_reducible repeat (first | apply jn | apply jo | apply jp)); exact Kd.N_mono HO501.out (fun _ hk => ⟨hk.1.1, ⟨hk.2, ⟨hk.1.2.1, ⟨hk.1.2.2.1, hk.1.2.2.2⟩⟩⟩⟩)))
          (case aS => exact (below_size (by repeat (first | (with_reducible first | exact HB.out | apply jA | apply jN | apply jD | refine jS ?_ GE494.out | refine jS ?_ GE495.out | refine jS ?_ GE498.out) | exact HB.out))))
          (case aL => have := LMc21.out; omega)
          intro v503 w39 ho hb hg hat
          rw [← Ny502.out] at ho
          have n0_ := jM (Kd.V_afterv (ok := (fun k_ => ((P0_3_ k_ ∨ P1_2_ k_) ∨ w.heap.size ≤ k_) ∧ some k_ ≠ (v506 : Value).ownBlock ∧ k_ ≠ gb494 ∧ k_ ≠ gb495 ∧ k_ ≠ gb498)) (by (with_reducible repeat (first | apply jt | apply ju | apply jv)); exact Kd.V_mono HO_495003.out (fun _ hk => ⟨⟨hk.1.1.1, ⟨hk.2, ⟨hk.1.1.2.1, ⟨hk.1.1.2.2.1, hk.1.1.2.2.2⟩⟩⟩⟩, hk.1.2⟩)) hg hat)
          have n1_ := jM (Kd.V_afterv (ok := (fun k_ => ((P0_3_ k_ ∨ P1_2_ k_) ∨ w.heap.size ≤ k_) ∧ some k_ ≠ (v506 : Value).ownBlock ∧ k_ ≠ gb494 ∧ k_ ≠ gb495 ∧ k_ ≠ gb498)) (by (with_reducible repeat (first | apply jt | apply ju | apply jv)); exact Kd.V_mono HO_496002.out (fun _ hk => ⟨⟨hk.1.1.1, ⟨hk.2, ⟨hk.1.1.2.1, ⟨hk.1.1.2.2.1, hk.1.1.2.2.2⟩⟩⟩⟩, hk.1.2⟩)) hg hat)
          have n2_ := jM (blk_grown (g := gb494) (o := .cells #[.slice A0_0 l0_0.length c0_0, .slice A0_1 l0_1.length c0_1, .slice A0_2 l0_2.length c0_2, .slice A0_3 l0_3.length c0_3, .int .i64 a0_4] 27 (0, 0)) (by (with_reducible repeat (first | refine jY ?_ _ | refine jZ ?_ | refine jX ?_ _)); exact BK494.out) hg (Kd.N_ne HO501.out BK494.out (by decide)))
          have n3_ := jM (blk_grown (g := gb495) (o := .cells #[.string (⟨#[122, 122]⟩ : ByteArray), .int .i64 a1_1, .slice A1_2 l1_2.length c1_2, .int .i64 a1_3] 64 (0, 0)) (by (with_reducible repeat (first | refine jY ?_ _ | refine jZ ?_ | refine jX ?_ _)); exact BK495.out) hg (Kd.N_away HO501.out (fun _ hk => hk.1.2.2.1)))
          have n4_ := jM (blk_grown (g := gb498) (o := .cells #[.slice A0_0 l0_0.length c0_0, .slice A0_1 l0_1.length c0_1, .slice A0_2 l0_2.length c0_2, .slice A0_3 l0_3.length c0_3, .int .i64 a0_4] 27 (0, 0)) (by (with_reducible repeat (first | refine jY ?_ _ | refine jZ ?_ | refine jX ?_ _)); exact BK498.out) hg (Kd.N_ne HO501.out BK498.out (by decide)))
          have n5_ := jM (Kd.N_afterv (ok := (fun k_ => ((P0_3_ k_ ∨ P1_2_ k_) ∨ w.heap.size ≤ k_) ∧ k_ ≠ gb494 ∧ k_ ≠ gb495 ∧ k_ ≠ gb498)) (by (with_reducible repeat (first | apply jn | apply jo | apply jp)); exact Kd.N_mono HO507.out (fun _ hk => ⟨⟨hk.1, ⟨hk.2.2.1, ⟨hk.2.2.2.1, hk.2.2.2.2⟩⟩⟩, hk.2.1⟩)) hg hat)
          have n6_ := jM (hb)
          have n7_ := jM (ho)
          clear HO_495003 HO_496002 BK494 BK495 BK498 HO507 HB HO501
          have HO_495003 := n0_
          have HO_496002 := n1_
          have BK494 := n2_
          have BK495 := n3_
          have BK498 := n4_
          have HO507 := n5_
          have HB := n6_
          have HO504 := n7_
          clear n0_ n1_ n2_ n3_ n4_ n5_ n6_ n7_ ho hb hg hat
          refine hK.out _ _ ⟨(jC BK494.out 0).trans rfl, (jC BK494.out 1).trans rfl, (jC BK494.out 2).trans rfl, (jC BK494.out 3).trans rfl, (jC BK494.out 4).trans rfl, (jC BK495.out 0).trans rfl, (jC BK495.out 1).trans rfl, (jC BK495.out 2).trans rfl, (jC BK495.out 3).trans rfl⟩ (fun hHeld => ?_)
          clear hK K
          refine norm_ (a' := ?_) ?_ ?_
          rotate_left
          ·show Act.put _ (some 44) _ = _
           simp only [Act.put, sA, i64_w, i32_w]
           rfl
          exact norm_ (by simp only [putAll, Act.put, sA]) (hCont (v500, v503, v506) _ ⟨hHeld, (by (with_reducible repeat (first | apply jn | apply jo | apply jp)); exact HO504.out), (by (with_reducible repeat (first | apply jn | apply jo | apply jp)); exact Kd.N_mono HO507.out (fun _ hk => ⟨hk.1.1, ⟨hk.2, ⟨hk.1.2.1, ⟨hk.1.2.2.1, hk.1.2.2.2⟩⟩⟩⟩)), (by (with_reducible repeat (first | apply jt | apply ju | apply jv)); exact Kd.V_mono HO_495003.out (fun _ hk => ⟨hk.1.1, ⟨hk.2, ⟨hk.1.2.1, ⟨hk.1.2.2.1, ⟨hk.1.2.2.2.1, hk.1.2.2.2.2⟩⟩⟩⟩⟩)), (by (with_reducible repeat (first | apply jt | apply ju | apply jv)); exact Kd.V_mono HO_496002.out (fun _ hk => ⟨hk.1.1, ⟨hk.2, ⟨hk.1.2.1, ⟨hk.1.2.2.1, ⟨hk.1.2.2.2.1, hk.1.2.2.2.2⟩⟩⟩⟩⟩)), (by (with_reducible repeat (first | refine jY ?_ _ | refine jZ ?_ | refine jX ?_ _)); exact BK494.out), (by (with_reducible repeat (first | refine jY ?_ _ | refine jZ ?_ | refine jX ?_ _)); exact BK495.out), (by (with_reducible repeat (first | refine jY ?_ _ | refine jZ ?_ | refine jX ?_ _)); exact BK498.out), (by repeat (first | (with_reducible first | exact HB.out | apply jA | apply jN | apply jD | refine jS ?_ GE494.out | refine jS ?_ GE495.out | refine jS ?_ GE498.out) | exact HB.out))⟩)
        ·skip
         refine Kd.N_lit_step k64 _ 64 ?hg (N' := 46) ?hd (xs := ([(⟨(⟨#[122, 122]⟩ : ByteArray), a1_1, l1_2, a1_3⟩ : S64)] : List (S64))) (inner := [.string (⟨#[122, 122]⟩ : ByteArray), .int .i64 a1_1, .slice A1_2 l1_2.length c1_2, .int .i64 a1_3]) (ok := (fun k_ => ((P0_3_ k_ ∨ P1_2_ k_) ∨ w.heap.size ≤ k_) ∧ k_ ≠ gb494 ∧ k_ ≠ gb495 ∧ k_ ≠ gb498)) (okp := (fun k_ => ((P0_3_ k_ ∨ P1_2_ k_) ∨ w.heap.size ≤ k_) ∧ k_ ≠ gb494 ∧ k_ ≠ gb495 ∧ k_ ≠ gb498)) ?hr ?hp (fun _ hk => hk) ((show ∀ k_, w34.heap.size ≤ k_ → (fun k_ => ((P0_3_ k_ ∨ P1_2_ k_) ∨ w.heap.size ≤ k_) ∧ k_ ≠ gb494 ∧ k_ ≠ gb495 ∧ k_ ≠ gb498) k_ from fun k_ hk => ⟨(.inr (Nat.le_trans (below_size (by repeat (first | (with_reducible first | exact HB.out | apply jA | apply jN | apply jD | refine jS ?_ GE494.out | refine jS ?_ GE495.out | refine jS ?_ GE498.out) | exact HB.out))) hk)), Kd.freshB (g := gb494) (o := .cells #[.slice A0_0 l0_0.length c0_0, .slice A0_1 l0_1.length c0_1, .slice A0_2 l0_2.length c0_2, .slice A0_3 l0_3.length c0_3, .int .i64 a0_4] 27 (0, 0)) (by (with_reducible repeat (first | refine jY ?_ _ | refine jZ ?_ | refine jX ?_ _)); exact BK494.out) k_ hk, Kd.freshB (g := gb495) (o := .cells #[.string (⟨#[122, 122]⟩ : ByteArray), .int .i64 a1_1, .slice A1_2 l1_2.length c1_2, .int .i64 a1_3] 64 (0, 0)) (by (with_reducible repeat (first | refine jY ?_ _ | refine jZ ?_ | refine jX ?_ _)); exact BK495.out) k_ hk, Kd.freshB (g := gb498) (o := .cells #[.slice A0_0 l0_0.length c0_0, .slice A0_1 l0_1.length c0_1, .slice A0_2 l0_2.length c0_2, .slice A0_3 l0_3.length c0_3, .int .i64 a0_4] 27 (0, 0)) (by (with_reducible repeat (first | refine jY ?_ _ | refine jZ ?_ | refine jX ?_ _)); exact BK498.out) k_ hk⟩) _ (Nat.le_refl _)) (Below.refl _ _) (Nat.le_refl _) (by simp) ?_; (case hd => rfl); (case hg => rfl); (case hr => first | (go_simp; done) | (go_simp; rfl)); (case hp => exact (Reps.c4 (show Kd.FK k64 _ _ (⟨(⟨#[122, 122]⟩ : ByteArray), a1_1, l1_2, a1_3⟩ : S64) [.string (⟨#[122, 122]⟩ : ByteArray), .int .i64 a1_1, .slice A1_2 l1_2.length c1_2, .int .i64 a1_3] from (k64_mkF _ _ (⟨(⟨#[122, 122]⟩ : ByteArray), a1_1, l1_2, a1_3⟩ : S64) (Kd.V_reads' (Kd.V_mono (ok' := (fun k_ => ((P0_3_ k_ ∨ P1_2_ k_) ∨ w.heap.size ≤ k_) ∧ k_ ≠ gb494 ∧ k_ ≠ gb495 ∧ k_ ≠ gb498)) (HO_496002.out) (fun k_ hk => ⟨hk.1, ⟨hk.2.1, ⟨hk.2.2.1, hk.2.2.2⟩⟩⟩))).2.1 (Kd.V_F (Kd.V_mono (ok' := (fun k_ => ((P0_3_ k_ ∨ P1_2_ k_) ∨ w.heap.size ≤ k_) ∧ k_ ≠ gb494 ∧ k_ ≠ gb495 ∧ k_ ≠ gb498)) (HO_496002.out) (fun k_ hk => ⟨hk.1, ⟨hk.2.1, ⟨hk.2.2.1, hk.2.2.2⟩⟩⟩))))) (Reps.none _ _)))
         intro v506 w35 ho36 hb hg_ hnew_
         clear hg_ hnew_
         (first | rw [← Ny505.out] at ho36 | (simp only [Int.reduceToNat] at ho36; rw [← Ny505.out] at ho36))
         have n0_ := jM (Kd.V_elder' (by (with_reducible repeat (first | apply jt | apply ju | apply jv)); exact HO_495003.out) (Kd.N_base ho36) hb)
         have n1_ := jM (Kd.V_elder' (by (with_reducible repeat (first | apply jt | apply ju | apply jv)); exact HO_496002.out) (Kd.N_base ho36) hb)
         have n2_ := jM (Kd.N_lower ho36 (below_size (by repeat (first | (with_reducible first | exact HB.out | apply jA | apply jN | apply jD | refine jS ?_ GE494.out | refine jS ?_ GE495.out | refine jS ?_ GE498.out) | exact HB.out))))
         have n3_ := jM (jW (g := gb494) (o := .cells #[.slice A0_0 l0_0.length c0_0, .slice A0_1 l0_1.length c0_1, .slice A0_2 l0_2.length c0_2, .slice A0_3 l0_3.length c0_3, .int .i64 a0_4] 27 (0, 0)) (by (with_reducible repeat (first | refine jY ?_ _ | refine jZ ?_ | refine jX ?_ _)); exact BK494.out) hb)
         have n4_ := jM (jW (g := gb495) (o := .cells #[.string (⟨#[122, 122]⟩ : ByteArray), .int .i64 a1_1, .slice A1_2 l1_2.length c1_2, .int .i64 a1_3] 64 (0, 0)) (by (with_reducible repeat (first | refine jY ?_ _ | refine jZ ?_ | refine jX ?_ _)); exact BK495.out) hb)
         have n5_ := jM (jW (g := gb498) (o := .cells #[.slice A0_0 l0_0.length c0_0, .slice A0_1 l0_1.length c0_1, .slice A0_2 l0_2.length c0_2, .slice A0_3 l0_3.length c0_3, .int .i64 a0_4] 27 (0, 0)) (by (with_reducible repeat (first | refine jY ?_ _ | refine jZ ?_ | refine jX ?_ _)); exact BK498.out) hb)
         have n6_ := jM (jT (by repeat (first | (with_reducible first | exact HB.out | apply jA | apply jN | apply jD | refine jS ?_ GE494.out | refine jS ?_ GE495.out | refine jS ?_ GE498.out) | exact HB.out)) hb)
         clear HO_495003 HO_496002 BK494 BK495 BK498 HB
         have HO_495003 := n0_
         have HO_496002 := n1_
         have HO507 := n2_
         have BK494 := n3_
         have BK495 := n4_
         have BK498 := n5_
         have HB := n6_
         clear n0_ n1_ n2_ n3_ n4_ n5_ n6_ hb ho36
         refine hK.out _ _ ⟨(jC BK494.out 0).trans rfl, (jC BK494.out 1).trans rfl, (jC BK494.out 2).trans rfl, (jC BK494.out 3).trans rfl, (jC BK494.out 4).trans rfl, (jC BK495.out 0).trans rfl, (jC BK495.out 1).trans rfl, (jC BK495.out 2).trans rfl, (jC BK495.out 3).trans rfl⟩ (fun hHeld => ?_)
         clear hK K
         refine norm_ (a' := ?_) ?_ ?_
         rotate_left
         ·show Act.put _ (some 46) _ = _
          simp only [Act.put, sA, i64_w, i32_w]
          rfl
         refine one_ (i := 0) (N := some 41) #[true, true, true, false, true, true, false, false, false] rfl rfl (one_of HT_.out (by kernel_rfl)) (by decide) (fun K hK => ?_)
         refine Kd.N_lit_step k64 _ 64 ?hg (N' := 41) ?hd (xs := ([] : List (S64))) (inner := []) (ok := (fun k_ => ((P0_3_ k_ ∨ P1_2_ k_) ∨ w.heap.size ≤ k_) ∧ some k_ ≠ (v506 : Value).ownBlock ∧ k_ ≠ gb494 ∧ k_ ≠ gb495 ∧ k_ ≠ gb498)) (okp := (fun k_ => ((P0_3_ k_ ∨ P1_2_ k_) ∨ w.heap.size ≤ k_) ∧ some k_ ≠ (v506 : Value).ownBlock ∧ k_ ≠ gb494 ∧ k_ ≠ gb495 ∧ k_ ≠ gb498)) ?hr ?hp (fun _ hk => hk) ((show ∀ k_, w35.heap.size ≤ k_ → (fun k_ => ((P0_3_ k_ ∨ P1_2_ k_) ∨ w.heap.size ≤ k_) ∧ some k_ ≠ (v506 : Value).ownBlock ∧ k_ ≠ gb494 ∧ k_ ≠ gb495 ∧ k_ ≠ gb498) k_ from fun k_ hk => ⟨(.inr (Nat.le_trans (below_size (by repeat (first | (with_reducible first | exact HB.out | apply jA | apply jN | apply jD | refine jS ?_ GE494.out | refine jS ?_ GE495.out | refine jS ?_ GE498.out) | exact HB.out))) hk)), Kd.fresh' (Kd.N_lt (by (with_reducible repeat (first | apply jn | apply jo | apply jp)); exact HO507.out)) k_ hk, Kd.freshB (g := gb494) (o := .cells #[.slice A0_0 l0_0.length c0_0, .slice A0_1 l0_1.length c0_1, .slice A0_2 l0_2.length c0_2, .slice A0_3 l0_3.length c0_3, .int .i64 a0_4] 27 (0, 0)) (by (with_reducible repeat (first | refine jY ?_ _ | refine jZ ?_ | refine jX ?_ _)); exact BK494.out) k_ hk, Kd.freshB (g := gb495) (o := .cells #[.string (⟨#[122, 122]⟩ : ByteArray), .int .i64 a1_1, .slice A1_2 l1_2.length c1_2, .int .i64 a1_3] 64 (0, 0)) (by (with_reducible repeat (first | refine jY ?_ _ | refine jZ ?_ | refine jX ?_ _)); exact BK495.out) k_ hk, Kd.freshB (g := gb498) (o := .cells #[.slice A0_0 l0_0.length c0_0, .slice A0_1 l0_1.length c0_1, .slice A0_2 l0_2.length c0_2, .slice A0_3 l0_3.length c0_3, .int .i64 a0_4] 27 (0, 0)) (by (with_reducible repeat (first | refine jY ?_ _ | refine jZ ?_ | refine jX ?_ _)); exact BK498.out) k_ hk⟩) _ (Nat.le_refl _)) (Below.refl _ _) (Nat.le_refl _) (by simp) ?_; (case hd => rfl); (case hg => rfl); (case hr => first | (go_simp; done) | (go_simp; rfl)); (case hp => exact (Reps.none _ _))
         intro v500 w37 ho38 hb hg_ hnew_
         clear hg_ hnew_
         (first | rw [← Ny499.out] at ho38 | (simp only [Int.reduceToNat] at ho38; rw [← Ny499.out] at ho38))
         have n0_ := jM (Kd.V_elder' (by (with_reducible repeat (first | apply jt | apply ju | apply jv)); exact HO_495003.out) (Kd.N_base ho38) hb)
         have n1_ := jM (Kd.V_elder' (by (with_reducible repeat (first | apply jt | apply ju | apply jv)); exact HO_496002.out) (Kd.N_base ho38) hb)
         have n2_ := jM (Kd.N_elder' (by (with_reducible repeat (first | apply jn | apply jo | apply jp)); exact HO507.out) (Kd.N_base ho38) hb)
         have n3_ := jM (Kd.N_lower ho38 (below_size (by repeat (first | (with_reducible first | exact HB.out | apply jA | apply jN | apply jD | refine jS ?_ GE494.out | refine jS ?_ GE495.out | refine jS ?_ GE498.out) | exact HB.out))))
         have n4_ := jM (jW (g := gb494) (o := .cells #[.slice A0_0 l0_0.length c0_0, .slice A0_1 l0_1.length c0_1, .slice A0_2 l0_2.length c0_2, .slice A0_3 l0_3.length c0_3, .int .i64 a0_4] 27 (0, 0)) (by (with_reducible repeat (first | refine jY ?_ _ | refine jZ ?_ | refine jX ?_ _)); exact BK494.out) hb)
         have n5_ := jM (jW (g := gb495) (o := .cells #[.string (⟨#[122, 122]⟩ : ByteArray), .int .i64 a1_1, .slice A1_2 l1_2.length c1_2, .int .i64 a1_3] 64 (0, 0)) (by (with_reducible repeat (first | refine jY ?_ _ | refine jZ ?_ | refine jX ?_ _)); exact BK495.out) hb)
         have n6_ := jM (jW (g := gb498) (o := .cells #[.slice A0_0 l0_0.length c0_0, .slice A0_1 l0_1.length c0_1, .slice A0_2 l0_2.length c0_2, .slice A0_3 l0_3.length c0_3, .int .i64 a0_4] 27 (0, 0)) (by (with_reducible repeat (first | refine jY ?_ _ | refine jZ ?_ | refine jX ?_ _)); exact BK498.out) hb)
         have n7_ := jM (jT (by repeat (first | (with_reducible first | exact HB.out | apply jA | apply jN | apply jD | refine jS ?_ GE494.out | refine jS ?_ GE495.out | refine jS ?_ GE498.out) | exact HB.out)) hb)
         clear HO_495003 HO_496002 HO507 BK494 BK495 BK498 HB
         have HO_495003 := n0_
         have HO_496002 := n1_
         have HO507 := n2_
         have HO501 := n3_
         have BK494 := n4_
         have BK495 := n5_
         have BK498 := n6_
         have HB := n7_
         clear n0_ n1_ n2_ n3_ n4_ n5_ n6_ n7_ hb ho38
         refine hK.out _ _ ⟨(jC BK494.out 0).trans rfl, (jC BK494.out 1).trans rfl, (jC BK494.out 2).trans rfl, (jC BK494.out 3).trans rfl, (jC BK494.out 4).trans rfl, (jC BK495.out 0).trans rfl, (jC BK495.out 1).trans rfl, (jC BK495.out 2).trans rfl, (jC BK495.out 3).trans rfl⟩ (fun hHeld => ?_)
         clear hK K
         refine norm_ (a' := ?_) ?_ ?_
         rotate_left
         ·show Act.put _ (some 41) _ = _
          simp only [Act.put, sA, i64_w, i32_w]
          rfl
         refine one_ (i := 3) (N := some 44) (tf 6 3) rfl rfl (one_of HT_.out (by kernel_rfl)) (by decide) (fun K hK => ?_)
         refine Kd.N_append_rows_step k64 (w0 := w) w.heap.size (by rfl) (.tmp 41) (.tmp 43) 25 64 (.agg #[(.string ⟨#[]⟩), (.int .i64 0), (.slice none 0 0), (.int .i64 0)]) 56 rfl Tryd.underlying25 info64 rfl (by decide) (by omega) v500 y499 l0_3 _ _ _ (fun k_ => ((P0_3_ k_ ∨ P1_2_ k_) ∨ w.heap.size ≤ k_) ∧ some k_ ≠ (v506 : Value).ownBlock ∧ k_ ≠ gb494 ∧ k_ ≠ gb495 ∧ k_ ≠ gb498) (fun k_ => ((fun k_ => ((P0_3_ k_ ∨ P1_2_ k_) ∨ w.heap.size ≤ k_) ∧ some k_ ≠ (v506 : Value).ownBlock ∧ k_ ≠ gb494 ∧ k_ ≠ gb495 ∧ k_ ≠ gb498)) k_ ∧ some k_ ≠ (v500 : Value).ownBlock) rfl rfl ?aO ?aR (fun _ hk => hk) ?aF ?aB ?aS ?aL ?_
         (case aR => exact (by skip; exact Kd.V_F (Kd.V_mono (ok' := (fun k_ => ((fun k_ => ((P0_3_ k_ ∨ P1_2_ k_) ∨ w.heap.size ≤ k_) ∧ some k_ ≠ (v506 : Value).ownBlock ∧ k_ ≠ gb494 ∧ k_ ≠ gb495 ∧ k_ ≠ gb498)) k_ ∧ some k_ ≠ (v500 : Value).ownBlock)) (HO_495003.out) (fun k_ hk => ⟨⟨hk.1.1.1, ⟨hk.1.2, ⟨hk.1.1.2.1, ⟨hk.1.1.2.2.1, hk.1.1.2.2.2⟩⟩⟩⟩, hk.2⟩))))
         (case aB => exact (by repeat (first | (with_reducible first | exact HB.out | apply jA | apply jN | apply jD | refine jS ?_ GE494.out | refine jS ?_ GE495.out | refine jS ?_ GE498.out) | exact HB.out)))
         (case aF => exact (fun k_ hk => ⟨(.inr (Nat.le_trans (below_size (by repeat (first | (with_reducible first | exact HB.out | apply jA | apply jN | apply jD | refine jS ?_ GE494.out | refine jS ?_ GE495.out | refine jS ?_ GE498.out) | exact HB.out))) hk)), Kd.fresh' (Kd.N_lt (by (with_reducible repeat (first | apply jn | apply jo | apply jp)); exact HO507.out)) k_ hk, Kd.freshB (g := gb494) (o := .cells #[.slice A0_0 l0_0.length c0_0, .slice A0_1 l0_1.length c0_1, .slice A0_2 l0_2.length c0_2, .slice A0_3 l0_3.length c0_3, .int .i64 a0_4] 27 (0, 0)) (by (with_reducible repeat (first | refine jY ?_ _ | refine jZ ?_ | refine jX ?_ _)); exact BK494.out) k_ hk, Kd.freshB (g := gb495) (o := .cells #[.string (⟨#[122, 122]⟩ : ByteArray), .int .i64 a1_1, .slice A1_2 l1_2.length c1_2, .int .i64 a1_3] 64 (0, 0)) (by (with_reducible repeat (first | refine jY ?_ _ | refine jZ ?_ | refine jX ?_ _)); exact BK495.out) k_ hk, Kd.freshB (g := gb498) (o := .cells #[.slice A0_0 l0_0.length c0_0, .slice A0_1 l0_1.length c0_1, .slice A0_2 l0_2.length c0_2, .slice A0_3 l0_3.length c0_3, .int .i64 a0_4] 27 (0, 0)) (by (with_reducible repeat (first | refine jY ?_ _ | refine jZ ?_ | refine jX ?_ _)); exact BK498.out) k_ hk⟩))
         (case aO => exact (by (with_reducible repeat (first | apply jn | apply jo | apply jp)); exact HO501.out))
         (case aS => exact (below_size (by repeat (first | (with_reducible first | exact HB.out | apply jA | apply jN | apply jD | refine jS ?_ GE494.out | refine jS ?_ GE495.out | refine jS ?_ GE498.out) | exact HB.out))))
         (case aL => have := LMc21.out; omega)
         intro v503 w39 ho hb hg hat
         rw [← Ny502.out] at ho
         have n0_ := jM (Kd.V_afterv (ok := (fun k_ => ((P0_3_ k_ ∨ P1_2_ k_) ∨ w.heap.size ≤ k_) ∧ some k_ ≠ (v506 : Value).ownBlock ∧ k_ ≠ gb494 ∧ k_ ≠ gb495 ∧ k_ ≠ gb498)) (by (with_reducible repeat (first | apply jt | apply ju | apply jv)); exact Kd.V_mono HO_495003.out (fun _ hk => ⟨⟨hk.1.1.1, ⟨hk.1.2, ⟨hk.1.1.2.1, ⟨hk.1.1.2.2.1, hk.1.1.2.2.2⟩⟩⟩⟩, hk.2⟩)) hg hat)
         have n1_ := jM (Kd.V_afterv (ok := (fun k_ => ((P0_3_ k_ ∨ P1_2_ k_) ∨ w.heap.size ≤ k_) ∧ some k_ ≠ (v506 : Value).ownBlock ∧ k_ ≠ gb494 ∧ k_ ≠ gb495 ∧ k_ ≠ gb498)) (by (with_reducible repeat (first | apply jt | apply ju | apply jv)); exact Kd.V_mono HO_496002.out (fun _ hk => ⟨⟨hk.1.1.1, ⟨hk.1.2, ⟨hk.1.1.2.1, ⟨hk.1.1.2.2.1, hk.1.1.2.2.2⟩⟩⟩⟩, hk.2⟩)) hg hat)
         have n2_ := jM (blk_grown (g := gb494) (o := .cells #[.slice A0_0 l0_0.length c0_0, .slice A0_1 l0_1.length c0_1, .slice A0_2 l0_2.length c0_2, .slice A0_3 l0_3.length c0_3, .int .i64 a0_4] 27 (0, 0)) (by (with_reducible repeat (first | refine jY ?_ _ | refine jZ ?_ | refine jX ?_ _)); exact BK494.out) hg (Kd.N_ne HO501.out BK494.out (by decide)))
         have n3_ := jM (blk_grown (g := gb495) (o := .cells #[.string (⟨#[122, 122]⟩ : ByteArray), .int .i64 a1_1, .slice A1_2 l1_2.length c1_2, .int .i64 a1_3] 64 (0, 0)) (by (with_reducible repeat (first | refine jY ?_ _ | refine jZ ?_ | refine jX ?_ _)); exact BK495.out) hg (Kd.N_away HO501.out (fun _ hk => hk.2.2.2.1)))
         have n4_ := jM (blk_grown (g := gb498) (o := .cells #[.slice A0_0 l0_0.length c0_0, .slice A0_1 l0_1.length c0_1, .slice A0_2 l0_2.length c0_2, .slice A0_3 l0_3.length c0_3, .int .i64 a0_4] 27 (0, 0)) (by (with_reducible repeat (first | refine jY ?_ _ | refine jZ ?_ | refine jX ?_ _)); exact BK498.out) hg (Kd.N_ne HO501.out BK498.out (by decide)))
         have n5_ := jM (Kd.N_afterv (ok := (fun k_ => ((P0_3_ k_ ∨ P1_2_ k_) ∨ w.heap.size ≤ k_) ∧ k_ ≠ gb494 ∧ k_ ≠ gb495 ∧ k_ ≠ gb498)) (by (with_reducible repeat (first | apply jn | apply jo | apply jp)); exact HO507.out) hg hat)
         have n6_ := jM (hb)
         have n7_ := jM (ho)
         clear HO_495003 HO_496002 BK494 BK495 BK498 HO507 HB HO501
         have HO_495003 := n0_
         have HO_496002 := n1_
         have BK494 := n2_
         have BK495 := n3_
         have BK498 := n4_
         have HO507 := n5_
         have HB := n6_
         have HO504 := n7_
         clear n0_ n1_ n2_ n3_ n4_ n5_ n6_ n7_ ho hb hg hat
         refine hK.out _ _ ⟨(jC BK494.out 0).trans rfl, (jC BK494.out 1).trans rfl, (jC BK494.out 2).trans rfl, (jC BK494.out 3).trans rfl, (jC BK494.out 4).trans rfl, (jC BK495.out 0).trans rfl, (jC BK495.out 1).trans rfl, (jC BK495.out 2).trans rfl, (jC BK495.out 3).trans rfl⟩ (fun hHeld => ?_)
         clear hK K
         refine norm_ (a' := ?_) ?_ ?_
         rotate_left
         ·show Act.put _ (some 44) _ = _
          simp only [Act.put, sA, i64_w, i32_w]
          rfl
         exact norm_ (by simp only [putAll, Act.put, sA]) (hCont (v500, v503, v506) _ ⟨hHeld, (by (with_reducible repeat (first | apply jn | apply jo | apply jp)); exact HO504.out), (by (with_reducible repeat (first | apply jn | apply jo | apply jp)); exact Kd.N_mono HO507.out (fun _ hk => ⟨hk.1.1, ⟨hk.2, ⟨hk.1.2.1, ⟨hk.1.2.2.1, hk.1.2.2.2⟩⟩⟩⟩)), (by (with_reducible repeat (first | apply jt | apply ju | apply jv)); exact Kd.V_mono HO_495003.out (fun _ hk => ⟨hk.1.1, ⟨hk.2, ⟨hk.1.2.1, ⟨hk.1.2.2.1, ⟨hk.1.2.2.2.1, hk.1.2.2.2.2⟩⟩⟩⟩⟩)), (by (with_reducible repeat (first | apply jt | apply ju | apply jv)); exact Kd.V_mono HO_496002.out (fun _ hk => ⟨hk.1.1, ⟨hk.2, ⟨hk.1.2.1, ⟨hk.1.2.2.1, ⟨hk.1.2.2.2.1, hk.1.2.2.2.2⟩⟩⟩⟩⟩)), (by (with_reducible repeat (first | refine jY ?_ _ | refine jZ ?_ | refine jX ?_ _)); exact BK494.out), (by (with_reducible repeat (first | refine jY ?_ _ | refine jZ ?_ | refine jX ?_ _)); exact BK495.out), (by (with_reducible repeat (first | refine jY ?_ _ | refine jZ ?_ | refine jX ?_ _)); exact BK498.out), (by repeat (first | (with_reducible first | exact HB.out | apply jA | apply jN | apply jD | refine jS ?_ GE494.out | refine jS ?_ GE495.out | refine jS ?_ GE498.out) | exact HB.out))⟩)
       rintro ⟨v500, v503, v506⟩ w40 ⟨hS_, h0_, h1_, h2_, h3_, h4_, h5_, h6_, h7_⟩
       have n0_ : Aside0 (Kd.N k64 64 w40 w.heap.size (fun k_ => ((P0_3_ k_ ∨ P1_2_ k_) ∨ w.heap.size ≤ k_) ∧ some k_ ≠ (v506 : Value).ownBlock ∧ k_ ≠ gb494 ∧ k_ ≠ gb495 ∧ k_ ≠ gb498) v503 y502) := ⟨h0_⟩
       have n1_ : Aside0 (Kd.N k64 64 w40 w.heap.size (fun k_ => ((P0_3_ k_ ∨ P1_2_ k_) ∨ w.heap.size ≤ k_) ∧ some k_ ≠ (v503 : Value).ownBlock ∧ k_ ≠ gb494 ∧ k_ ≠ gb495 ∧ k_ ≠ gb498) v506 y505) := ⟨h1_⟩
       have n2_ : Aside0 (Kd.V k64 64 w40 w.heap.size (fun k_ => ((P0_3_ k_ ∨ P1_2_ k_) ∨ w.heap.size ≤ k_) ∧ some k_ ≠ (v503 : Value).ownBlock ∧ some k_ ≠ (v506 : Value).ownBlock ∧ k_ ≠ gb494 ∧ k_ ≠ gb495 ∧ k_ ≠ gb498) (.slice A0_3 l0_3.length c0_3) l0_3) := ⟨h2_⟩
       have n3_ : Aside0 (Kd.V (Kd.int .i64) 29 w40 w.heap.size (fun k_ => ((P0_3_ k_ ∨ P1_2_ k_) ∨ w.heap.size ≤ k_) ∧ some k_ ≠ (v503 : Value).ownBlock ∧ some k_ ≠ (v506 : Value).ownBlock ∧ k_ ≠ gb494 ∧ k_ ≠ gb495 ∧ k_ ≠ gb498) (.slice A1_2 l1_2.length c1_2) l1_2) := ⟨h3_⟩
       have n4_ : Aside0 (w40.heap[gb494]? = some (.cells #[.slice A0_0 l0_0.length c0_0, .slice A0_1 l0_1.length c0_1, .slice A0_2 l0_2.length c0_2, .slice A0_3 l0_3.length c0_3, .int .i64 a0_4] 27 (0, 0))) := ⟨h4_⟩
       have n5_ : Aside0 (w40.heap[gb495]? = some (.cells #[.string (⟨#[122, 122]⟩ : ByteArray), .int .i64 a1_1, .slice A1_2 l1_2.length c1_2, .int .i64 a1_3] 64 (0, 0))) := ⟨h5_⟩
       have n6_ : Aside0 (w40.heap[gb498]? = some (.cells #[.slice A0_0 l0_0.length c0_0, .slice A0_1 l0_1.length c0_1, .slice A0_2 l0_2.length c0_2, .slice A0_3 l0_3.length c0_3, .int .i64 a0_4] 27 (0, 0))) := ⟨h6_⟩
       have n7_ : Aside0 (Below w.heap.size w w40) := ⟨h7_⟩
       clear HO_495003 HO_496002 BK494 BK495 BK498 HB h0_ h1_ h2_ h3_ h4_ h5_ h6_ h7_
       have HO504 := n0_
       have HO507 := n1_
       have HO_495003 := n2_
       have HO_496002 := n3_
       have BK494 := n4_
       have BK495 := n5_
       have BK498 := n6_
       have HB := n7_
       clear n0_ n1_ n2_ n3_ n4_ n5_ n6_ n7_
       have hHeld : w40.cell? ⟨gb494, 0, none⟩ = some (.slice A0_0 l0_0.length c0_0) ∧ w40.cell? ⟨gb494, 1, none⟩ = some (.slice A0_1 l0_1.length c0_1) ∧ w40.cell? ⟨gb494, 2, none⟩ = some (.slice A0_2 l0_2.length c0_2) ∧ w40.cell? ⟨gb494, 3, none⟩ = some (.slice A0_3 l0_3.length c0_3) ∧ w40.cell? ⟨gb494, 4, none⟩ = some (.int .i64 a0_4) ∧ w40.cell? ⟨gb495, 0, none⟩ = some (.string (⟨#[122, 122]⟩ : ByteArray)) ∧ w40.cell? ⟨gb495, 1, none⟩ = some (.int .i64 a1_1) ∧ w40.cell? ⟨gb495, 2, none⟩ = some (.slice A1_2 l1_2.length c1_2) ∧ w40.cell? ⟨gb495, 3, none⟩ = some (.int .i64 a1_3) := hS_
       obtain ⟨Ao42, co42, eo42⟩ := Kd.N_slice HO507.out
       (first | subst eo42 | (injection eo42 with f1_ f2_ f3_; have f4_ := f1_.symm; have f5_ := f3_.symm; clear f1_ f2_ f3_; subst f4_; subst f5_))
       refine norm_ (a' := ?_) ?_ ?_
       rotate_left
       ·simp only [putAll, Act.put, sA]
        rfl
       refine one_ (i := 6) (N := some 47) (tf 7 2) rfl rfl (one_of HT_.out (by kernel_rfl)) (by decide) (fun K hK => ?_)
       refine Kd.N_append_rows_step k64 (w0 := w) w.heap.size (by rfl) (.tmp 44) (.tmp 46) 25 64 (.agg #[(.string ⟨#[]⟩), (.int .i64 0), (.slice none 0 0), (.int .i64 0)]) 56 rfl Tryd.underlying25 info64 rfl (by decide) (by omega) v503 y502 y505 _ _ _ (fun k_ => ((P0_3_ k_ ∨ P1_2_ k_) ∨ w.heap.size ≤ k_) ∧ k_ ≠ gb494 ∧ k_ ≠ gb495 ∧ k_ ≠ gb498) (fun k_ => ((fun k_ => ((P0_3_ k_ ∨ P1_2_ k_) ∨ w.heap.size ≤ k_) ∧ k_ ≠ gb494 ∧ k_ ≠ gb495 ∧ k_ ≠ gb498)) k_ ∧ some k_ ≠ (v503 : Value).ownBlock) rfl rfl ?aO ?aR (fun _ hk => hk) ?aF ?aB ?aS ?aL ?_
       (case aR => exact (by skip; exact Kd.N_F (Kd.N_mono (ok' := (fun k_ => ((fun k_ => ((P0_3_ k_ ∨ P1_2_ k_) ∨ w.heap.size ≤ k_) ∧ k_ ≠ gb494 ∧ k_ ≠ gb495 ∧ k_ ≠ gb498)) k_ ∧ some k_ ≠ (v503 : Value).ownBlock)) (HO507.out) (fun k_ hk => ⟨⟨hk.1, ⟨hk.2.2.1, ⟨hk.2.2.2.1, hk.2.2.2.2⟩⟩⟩, hk.2.1⟩))))
       (case aB => exact (by repeat (first | (with_reducible first | exact HB.out | apply jA | apply jN | apply jD | refine jS ?_ GE494.out | refine jS ?_ GE495.out | refine jS ?_ GE498.out) | exact HB.out)))
       (case aF => exact (fun k_ hk => ⟨(.inr (Nat.le_trans (below_size (by repeat (first | (with_reducible first | exact HB.out | apply jA | apply jN | apply jD | refine jS ?_ GE494.out | refine jS ?_ GE495.out | refine jS ?_ GE498.out) | exact HB.out))) hk)), Kd.freshB (g := gb494) (o := .cells #[.slice A0_0 l0_0.length c0_0, .slice A0_1 l0_1.length c0_1, .slice A0_2 l0_2.length c0_2, .slice A0_3 l0_3.length c0_3, .int .i64 a0_4] 27 (0, 0)) (by (with_reducible repeat (first | refine jY ?_ _ | refine jZ ?_ | refine jX ?_ _)); exact BK494.out) k_ hk, Kd.freshB (g := gb495) (o := .cells #[.string (⟨#[122, 122]⟩ : ByteArray), .int .i64 a1_1, .slice A1_2 l1_2.length c1_2, .int .i64 a1_3] 64 (0, 0)) (by (with_reducible repeat (first | refine jY ?_ _ | refine jZ ?_ | refine jX ?_ _)); exact BK495.out) k_ hk, Kd.freshB (g := gb498) (o := .cells #[.slice A0_0 l0_0.length c0_0, .slice A0_1 l0_1.length c0_1, .slice A0_2 l0_2.length c0_2, .slice A0_3 l0_3.length c0_3, .int .i64 a0_4] 27 (0, 0)) (by (with_reducible repeat (first | refine jY ?_ _ | refine jZ ?_ | refine jX ?_ _)); exact BK498.out) k_ hk⟩))
       (case aO => exact (by (with_reducible repeat (first | apply jn | apply jo | apply jp)); exact Kd.N_mono HO504.out (fun _ hk => ⟨hk.1, ⟨hk.2.2.1, ⟨hk.2.2.2.1, hk.2.2.2.2⟩⟩⟩)))
       (case aS => exact (below_size (by repeat (first | (with_reducible first | exact HB.out | apply jA | apply jN | apply jD | refine jS ?_ GE494.out | refine jS ?_ GE495.out | refine jS ?_ GE498.out) | exact HB.out))))
       (case aL => have := LMc22.out; omega)
       intro v509 w41 ho hb hg hat
       rw [← Ny508.out] at ho
       have n0_ := jM (Kd.V_afterv (ok := (fun k_ => ((P0_3_ k_ ∨ P1_2_ k_) ∨ w.heap.size ≤ k_) ∧ some k_ ≠ (.slice Ao42 y505.length co42 : Value).ownBlock ∧ k_ ≠ gb494 ∧ k_ ≠ gb495 ∧ k_ ≠ gb498)) (by (with_reducible repeat (first | apply jt | apply ju | apply jv)); exact Kd.V_mono HO_495003.out (fun _ hk => ⟨⟨hk.1, ⟨hk.2.2.1, ⟨hk.2.2.2.1, ⟨hk.2.2.2.2.1, hk.2.2.2.2.2⟩⟩⟩⟩, hk.2.1⟩)) hg hat)
       have n1_ := jM (Kd.V_afterv (ok := (fun k_ => ((P0_3_ k_ ∨ P1_2_ k_) ∨ w.heap.size ≤ k_) ∧ some k_ ≠ (.slice Ao42 y505.length co42 : Value).ownBlock ∧ k_ ≠ gb494 ∧ k_ ≠ gb495 ∧ k_ ≠ gb498)) (by (with_reducible repeat (first | apply jt | apply ju | apply jv)); exact Kd.V_mono HO_496002.out (fun _ hk => ⟨⟨hk.1, ⟨hk.2.2.1, ⟨hk.2.2.2.1, ⟨hk.2.2.2.2.1, hk.2.2.2.2.2⟩⟩⟩⟩, hk.2.1⟩)) hg hat)
       have n2_ := jM (blk_grown (g := gb494) (o := .cells #[.slice A0_0 l0_0.length c0_0, .slice A0_1 l0_1.length c0_1, .slice A0_2 l0_2.length c0_2, .slice A0_3 l0_3.length c0_3, .int .i64 a0_4] 27 (0, 0)) (by (with_reducible repeat (first | refine jY ?_ _ | refine jZ ?_ | refine jX ?_ _)); exact BK494.out) hg (Kd.N_ne HO504.out BK494.out (by decide)))
       have n3_ := jM (blk_grown (g := gb495) (o := .cells #[.string (⟨#[122, 122]⟩ : ByteArray), .int .i64 a1_1, .slice A1_2 l1_2.length c1_2, .int .i64 a1_3] 64 (0, 0)) (by (with_reducible repeat (first | refine jY ?_ _ | refine jZ ?_ | refine jX ?_ _)); exact BK495.out) hg (Kd.N_away HO504.out (fun _ hk => hk.2.2.2.1)))
       have n4_ := jM (blk_grown (g := gb498) (o := .cells #[.slice A0_0 l0_0.length c0_0, .slice A0_1 l0_1.length c0_1, .slice A0_2 l0_2.length c0_2, .slice A0_3 l0_3.length c0_3, .int .i64 a0_4] 27 (0, 0)) (by (with_reducible repeat (first | refine jY ?_ _ | refine jZ ?_ | refine jX ?_ _)); exact BK498.out) hg (Kd.N_ne HO504.out BK498.out (by decide)))
       have n5_ := jM (Kd.N_afterv (ok := (fun k_ => ((P0_3_ k_ ∨ P1_2_ k_) ∨ w.heap.size ≤ k_) ∧ k_ ≠ gb494 ∧ k_ ≠ gb495 ∧ k_ ≠ gb498)) (by (with_reducible repeat (first | apply jn | apply jo | apply jp)); exact Kd.N_mono HO507.out (fun _ hk => ⟨⟨hk.1, ⟨hk.2.2.1, ⟨hk.2.2.2.1, hk.2.2.2.2⟩⟩⟩, hk.2.1⟩)) hg hat)
       have n6_ := jM (hb)
       have n7_ := jM (ho)
       clear HO_495003 HO_496002 BK494 BK495 BK498 HO507 HB HO504
       have HO_495003 := n0_
       have HO_496002 := n1_
       have BK494 := n2_
       have BK495 := n3_
       have BK498 := n4_
       have HO507 := n5_
       have HB := n6_
       have HO510 := n7_
       clear n0_ n1_ n2_ n3_ n4_ n5_ n6_ n7_ ho hb hg hat
       obtain ⟨Ao43, co43, eo43⟩ := Kd.N_slice HO510.out
       (first | subst eo43 | (injection eo43 with f1_ f2_ f3_; have f4_ := f1_.symm; have f5_ := f3_.symm; clear f1_ f2_ f3_; subst f4_; subst f5_))
       refine hK.out _ _ ⟨(jC BK494.out 0).trans rfl, (jC BK494.out 1).trans rfl, (jC BK494.out 2).trans rfl, (jC BK494.out 3).trans rfl, (jC BK494.out 4).trans rfl, (jC BK495.out 0).trans rfl, (jC BK495.out 1).trans rfl, (jC BK495.out 2).trans rfl, (jC BK495.out 3).trans rfl⟩ (fun hHeld => ?_)
       clear hK K
       refine norm_ (a' := ?_) ?_ ?_
       rotate_left
       ·show Act.put _ (some 47) _ = _
        simp only [Act.put, sA, i64_w, i32_w]
        rfl
       refine pure_ (i := 7) (N := some 48) (v := ?_) (a' := ?_) (tf 8 1) rfl rfl (any_of HT_.out (by kernel_rfl)) (fun _ _ _ h => h) (Or.inl ⟨by rfl, ?_⟩) ?_ ?_
       rotate_left
       ·intro w';go_simp;with_reducible rfl
       rotate_left
       ·simp only [Act.put, sA, i64_w, i32_w];rfl
       refine one_ (i := 8) (N := none) (tf 9 0) rfl rfl (one_of HT_.out (by kernel_rfl)) (by decide) (fun K hK => ?_)
       have hs44 : w41.cell? ⟨gb498, 3, none⟩ = some (.slice A0_3 l0_3.length c0_3) := (jC BK498.out 3).trans rfl
       have hfs44 := jF BK498.out 3
       have hns44_0 := NB494_498.out
       have hns44_1 := NB495_498.out
       have hms44_0 := NB498_494.out
       have hms44_1 := NB498_495.out
       refine skip_ (w1 := ?_) (by rfl) rfl ?_ ?_
       rotate_left
       ·go_simp
        rfl
       refine hK.out _ _ ⟨((cell_far (p := ⟨gb498, _, none⟩) NB494_498.out _).trans (hHeld.1)), ((cell_far (p := ⟨gb498, _, none⟩) NB494_498.out _).trans (hHeld.2.1)), ((cell_far (p := ⟨gb498, _, none⟩) NB494_498.out _).trans (hHeld.2.2.1)), ((cell_far (p := ⟨gb498, _, none⟩) NB494_498.out _).trans (hHeld.2.2.2.1)), ((cell_far (p := ⟨gb498, _, none⟩) NB494_498.out _).trans (hHeld.2.2.2.2.1)), ((cell_far (p := ⟨gb498, _, none⟩) NB495_498.out _).trans (hHeld.2.2.2.2.2.1)), ((cell_far (p := ⟨gb498, _, none⟩) NB495_498.out _).trans (hHeld.2.2.2.2.2.2.1)), ((cell_far (p := ⟨gb498, _, none⟩) NB495_498.out _).trans (hHeld.2.2.2.2.2.2.2.1)), ((cell_far (p := ⟨gb498, _, none⟩) NB495_498.out _).trans (hHeld.2.2.2.2.2.2.2.2))⟩ (fun hHeld => ?_)
       clear hK K
       refine done_ (done_of HT_.out (by kernel_rfl)) ?_
       have hcz45_0 : w41.cell? ⟨gb494, 0, none⟩ = some (.slice A0_0 l0_0.length c0_0) := (jC BK494.out 0).trans rfl
       have hcz45_1 : w41.cell? ⟨gb494, 1, none⟩ = some (.slice A0_1 l0_1.length c0_1) := (jC BK494.out 1).trans rfl
       have hcz45_2 : w41.cell? ⟨gb494, 2, none⟩ = some (.slice A0_2 l0_2.length c0_2) := (jC BK494.out 2).trans rfl
       have hcz45_3 : w41.cell? ⟨gb494, 3, none⟩ = some (.slice A0_3 l0_3.length c0_3) := (jC BK494.out 3).trans rfl
       have hcz45_4 : w41.cell? ⟨gb494, 4, none⟩ = some (.int .i64 a0_4) := (jC BK494.out 4).trans rfl
       have hfz45_0 := jF BK494.out 0
       have hfz45_1 := jF BK494.out 1
       have hfz45_2 := jF BK494.out 2
       have hfz45_3 := jF BK494.out 3
       have hfz45_4 := jF BK494.out 4
       go_upto_region 12 with (first | ((with_reducible refine gate_callee (f := 23) rfl ?_); refine goesL_ (some 51) rfl rfl Tryd.func23 (by kernel_rfl) rfl #[.agg #[.slice A0_0 l0_0.length c0_0, .slice A0_1 l0_1.length c0_1, .slice A0_2 l0_2.length c0_2, .slice A0_3 l0_3.length c0_3, .int .i64 a0_4]] rfl (by (try simp only [List.map_toArray, List.map_cons, List.map_nil]); first | done | rfl | (simp only [List.length_drop, List.length_take]; rfl)) ?_; (with_reducible refine (states_Build.calls _ _ l0_0 _ _ l0_1 _ _ l0_2 _ _ l0_3 a0_4 t511 t514 t517 _ ?side1 ?side2 ?side3 ?side4 ?side5 ?side6 ?side7 ?side8 ?side9 A23.out).mono ?_); (case side1 => exact GTab.below HG.out (by repeat (first | (with_reducible first | exact HB.out | apply jA | apply jN | apply jD | refine jS ?_ GE494.out | refine jS ?_ GE495.out | refine jS ?_ GE498.out) | exact HB.out))); (case side2 => exact jB HR0_0.out (by repeat (first | (with_reducible first | exact HB.out | apply jA | apply jN | apply jD | refine jS ?_ GE494.out | refine jS ?_ GE495.out | refine jS ?_ GE498.out) | exact HB.out))); (case side3 => exact HC0_0.out); (case side4 => exact jB HR0_1.out (by repeat (first | (with_reducible first | exact HB.out | apply jA | apply jN | apply jD | refine jS ?_ GE494.out | refine jS ?_ GE495.out | refine jS ?_ GE498.out) | exact HB.out))); (case side5 => exact HC0_1.out); (case side6 => exact jB HR0_2.out (by repeat (first | (with_reducible first | exact HB.out | apply jA | apply jN | apply jD | refine jS ?_ GE494.out | refine jS ?_ GE495.out | refine jS ?_ GE498.out) | exact HB.out))); (case side7 => exact HC0_2.out); (case side8 => refine (Kd.V_reads' (e := 64) (base := w.heap.size) (ok := fun k_ => ((((P0_3_ k_ ∨ P1_2_ k_) ∨ w.heap.size ≤ k_) ∧ (some k_ ≠ (.slice Ao42 y505.length co42 : Value).ownBlock ∧ (k_ ≠ gb494 ∧ (k_ ≠ gb495 ∧ k_ ≠ gb498)))) ∧ some k_ ≠ (.slice Ao43 y508.length co43 : Value).ownBlock)) (n := l0_3.length) (c := c0_3) ?_).2.2; exact (by (with_reducible repeat (first | apply jt | apply ju | apply jv)); exact (Kd.V_mono (Kd.V_far (p := ⟨gb498, 3, none⟩) (Kd.V_mono HO_495003.out (fun k_ hk => (⟨hk, hk.1.2.2.2.2⟩ : _ ∧ k_ ≠ gb498))) (fun _ hk => hk.2) (.slice Ao43 y508.length co43)) (fun _ h_ => h_.1)))); (case side9 => exact (Kd.V_reads' HO_495003.out).2.1); rintro e w46 ⟨v512, v515, rfl, ho0, ho1, hb⟩; refine ⟨_, rfl, ?_⟩; have n0_ := jM (Kd.V_mono (Kd.V_told (Kd.V_told (Kd.V_old (by (with_reducible repeat (first | apply jt | apply ju | apply jv)); exact (Kd.V_mono (Kd.V_far (p := ⟨gb498, 3, none⟩) (Kd.V_mono HO_495003.out (fun k_ hk => (⟨hk, hk.1.2.2.2.2⟩ : _ ∧ k_ ≠ gb498))) (fun _ hk => hk.2) (.slice Ao43 y508.length co43)) (fun _ h_ => h_.1))) hb) (Kd.S_base ho0)) (Kd.S_base ho1)) (fun _ h_ => h_.1)); have n1_ := jM (Kd.V_mono (Kd.V_told (Kd.V_told (Kd.V_old (by (with_reducible repeat (first | apply jt | apply ju | apply jv)); exact (Kd.V_mono (Kd.V_far (p := ⟨gb498, 3, none⟩) (Kd.V_mono HO_496002.out (fun k_ hk => (⟨hk, hk.1.2.2.2.2⟩ : _ ∧ k_ ≠ gb498))) (fun _ hk => hk.2) (.slice Ao43 y508.length co43)) (fun _ h_ => h_.1))) hb) (Kd.S_base ho0)) (Kd.S_base ho1)) (fun _ h_ => h_.1)); have n2_ := jM (Kd.N_mono (Kd.N_told (Kd.N_told (Kd.N_old (by (with_reducible repeat (first | apply jn | apply jo | apply jp)); exact (Kd.N_mono (Kd.N_far (p := ⟨gb498, 3, none⟩) (Kd.N_mono HO507.out (fun k_ hk => (⟨hk, hk.1.2.2.2⟩ : _ ∧ k_ ≠ gb498))) (fun _ hk => hk.2) (.slice Ao43 y508.length co43)) (fun _ h_ => h_.1))) hb) (Kd.S_base ho0)) (Kd.S_base ho1)) (fun _ h_ => h_.1)); have n3_ := jM (Kd.N_mono (Kd.N_told (Kd.N_told (Kd.N_old (by (with_reducible repeat (first | apply jn | apply jo | apply jp)); exact (Kd.N_mono (Kd.N_far (p := ⟨gb498, 3, none⟩) (Kd.N_mono HO510.out (fun k_ hk => (⟨hk, hk.2.2.2⟩ : _ ∧ k_ ≠ gb498))) (fun _ hk => hk.2) (.slice Ao43 y508.length co43)) (fun _ h_ => h_.1))) hb) (Kd.S_base ho0)) (Kd.S_base ho1)) (fun _ h_ => h_.1)); have n4_ := jM (Kd.N_lower (Kd.N_mono (ok' := fun k_ => ((P0_3_ k_ ∨ P1_2_ k_) ∨ w.heap.size ≤ k_) ∧ some k_ ≠ (v515 : Value).ownBlock ∧ some k_ ≠ (.slice Ao42 y505.length co42 : Value).ownBlock ∧ some k_ ≠ (.slice Ao43 y508.length co43 : Value).ownBlock ∧ k_ ≠ gb494 ∧ k_ ≠ gb495 ∧ k_ ≠ gb498) (Kd.S_N (Kd.S_bound (Kd.S_apart' ho0 (Kd.S_typed ho1) (by decide)))) (fun k_ hk_ => ⟨(.inr (Nat.le_trans (below_size (by repeat (first | (with_reducible first | exact HB.out | apply jA | apply jN | apply jD | refine jS ?_ GE494.out | refine jS ?_ GE495.out | refine jS ?_ GE498.out) | exact HB.out))) hk_.2.1)), hk_.1.2, (Kd.fresh' (Kd.N_lt (by (with_reducible repeat (first | apply jn | apply jo | apply jp)); exact (Kd.N_mono (Kd.N_far (p := ⟨gb498, 3, none⟩) (Kd.N_mono HO507.out (fun k_ hk => (⟨hk, hk.1.2.2.2⟩ : _ ∧ k_ ≠ gb498))) (fun _ hk => hk.2) (.slice Ao43 y508.length co43)) (fun _ h_ => h_.1)))) k_ hk_.2.1), (Kd.fresh' (Kd.N_lt (by (with_reducible repeat (first | apply jn | apply jo | apply jp)); exact (Kd.N_mono (Kd.N_far (p := ⟨gb498, 3, none⟩) (Kd.N_mono HO510.out (fun k_ hk => (⟨hk, hk.2.2.2⟩ : _ ∧ k_ ≠ gb498))) (fun _ hk => hk.2) (.slice Ao43 y508.length co43)) (fun _ h_ => h_.1)))) k_ hk_.2.1), (Kd.freshB (g := gb494) (o := .cells #[.slice A0_0 l0_0.length c0_0, .slice A0_1 l0_1.length c0_1, .slice A0_2 l0_2.length c0_2, .slice A0_3 l0_3.length c0_3, .int .i64 a0_4] 27 (0, 0)) (by (with_reducible repeat (first | refine jY ?_ _ | refine jZ ?_ | refine jX ?_ _)); refine blk_far ?_ NB494_498.out _; (with_reducible repeat (first | refine jY ?_ _ | refine jZ ?_ | refine jX ?_ _)); exact BK494.out) k_ hk_.2.1), (Kd.freshB (g := gb495) (o := .cells #[.string (⟨#[122, 122]⟩ : ByteArray), .int .i64 a1_1, .slice A1_2 l1_2.length c1_2, .int .i64 a1_3] 64 (0, 0)) (by (with_reducible repeat (first | refine jY ?_ _ | refine jZ ?_ | refine jX ?_ _)); refine blk_far ?_ NB495_498.out _; (with_reducible repeat (first | refine jY ?_ _ | refine jZ ?_ | refine jX ?_ _)); exact BK495.out) k_ hk_.2.1), (Kd.freshB (g := gb498) (o := .cells #[.slice A0_0 l0_0.length c0_0, .slice A0_1 l0_1.length c0_1, .slice A0_2 l0_2.length c0_2, .slice Ao43 y508.length co43, .int .i64 a0_4] 27 (0, 0)) (by (with_reducible repeat (first | refine jY ?_ _ | refine jZ ?_ | refine jX ?_ _)); refine blk_put (cs := #[.slice A0_0 l0_0.length c0_0, .slice A0_1 l0_1.length c0_1, .slice A0_2 l0_2.length c0_2, .slice A0_3 l0_3.length c0_3, .int .i64 a0_4]) ?_ 3 _ rfl; (with_reducible repeat (first | refine jY ?_ _ | refine jZ ?_ | refine jX ?_ _)); exact BK498.out) k_ hk_.2.1)⟩)) (below_size (by repeat (first | (with_reducible first | exact HB.out | apply jA | apply jN | apply jD | refine jS ?_ GE494.out | refine jS ?_ GE495.out | refine jS ?_ GE498.out) | exact HB.out)))); have n5_ := jM (Kd.N_lower (Kd.N_mono (ok' := fun k_ => ((P0_3_ k_ ∨ P1_2_ k_) ∨ w.heap.size ≤ k_) ∧ some k_ ≠ (v512 : Value).ownBlock ∧ some k_ ≠ (.slice Ao42 y505.length co42 : Value).ownBlock ∧ some k_ ≠ (.slice Ao43 y508.length co43 : Value).ownBlock ∧ k_ ≠ gb494 ∧ k_ ≠ gb495 ∧ k_ ≠ gb498) (Kd.S_N (Kd.S_bound (Kd.S_apart' ho1 (Kd.S_typed ho0) (by decide)))) (fun k_ hk_ => ⟨(.inr (Nat.le_trans (below_size (by repeat (first | (with_reducible first | exact HB.out | apply jA | apply jN | apply jD | refine jS ?_ GE494.out | refine jS ?_ GE495.out | refine jS ?_ GE498.out) | exact HB.out))) hk_.2.1)), hk_.1.2, (Kd.fresh' (Kd.N_lt (by (with_reducible repeat (first | apply jn | apply jo | apply jp)); exact (Kd.N_mono (Kd.N_far (p := ⟨gb498, 3, none⟩) (Kd.N_mono HO507.out (fun k_ hk => (⟨hk, hk.1.2.2.2⟩ : _ ∧ k_ ≠ gb498))) (fun _ hk => hk.2) (.slice Ao43 y508.length co43)) (fun _ h_ => h_.1)))) k_ hk_.2.1), (Kd.fresh' (Kd.N_lt (by (with_reducible repeat (first | apply jn | apply jo | apply jp)); exact (Kd.N_mono (Kd.N_far (p := ⟨gb498, 3, none⟩) (Kd.N_mono HO510.out (fun k_ hk => (⟨hk, hk.2.2.2⟩ : _ ∧ k_ ≠ gb498))) (fun _ hk => hk.2) (.slice Ao43 y508.length co43)) (fun _ h_ => h_.1)))) k_ hk_.2.1), (Kd.freshB (g := gb494) (o := .cells #[.slice A0_0 l0_0.length c0_0, .slice A0_1 l0_1.length c0_1, .slice A0_2 l0_2.length c0_2, .slice A0_3 l0_3.length c0_3, .int .i64 a0_4] 27 (0, 0)) (by (with_reducible repeat (first | refine jY ?_ _ | refine jZ ?_ | refine jX ?_ _)); refine blk_far ?_ NB494_498.out _; (with_reducible repeat (first | refine jY ?_ _ | refine jZ ?_ | refine jX ?_ _)); exact BK494.out) k_ hk_.2.1), (Kd.freshB (g := gb495) (o := .cells #[.string (⟨#[122, 122]⟩ : ByteArray), .int .i64 a1_1, .slice A1_2 l1_2.length c1_2, .int .i64 a1_3] 64 (0, 0)) (by (with_reducible repeat (first | refine jY ?_ _ | refine jZ ?_ | refine jX ?_ _)); refine blk_far ?_ NB495_498.out _; (with_reducible repeat (first | refine jY ?_ _ | refine jZ ?_ | refine jX ?_ _)); exact BK495.out) k_ hk_.2.1), (Kd.freshB (g := gb498) (o := .cells #[.slice A0_0 l0_0.length c0_0, .slice A0_1 l0_1.length c0_1, .slice A0_2 l0_2.length c0_2, .slice Ao43 y508.length co43, .int .i64 a0_4] 27 (0, 0)) (by (with_reducible repeat (first | refine jY ?_ _ | refine jZ ?_ | refine jX ?_ _)); refine blk_put (cs := #[.slice A0_0 l0_0.length c0_0, .slice A0_1 l0_1.length c0_1, .slice A0_2 l0_2.length c0_2, .slice A0_3 l0_3.length c0_3, .int .i64 a0_4]) ?_ 3 _ rfl; (with_reducible repeat (first | refine jY ?_ _ | refine jZ ?_ | refine jX ?_ _)); exact BK498.out) k_ hk_.2.1)⟩)) (below_size (by repeat (first | (with_reducible first | exact HB.out | apply jA | apply jN | apply jD | refine jS ?_ GE494.out | refine jS ?_ GE495.out | refine jS ?_ GE498.out) | exact HB.out)))); have n6_ := jM (jW (g := gb494) (o := .cells #[.slice A0_0 l0_0.length c0_0, .slice A0_1 l0_1.length c0_1, .slice A0_2 l0_2.length c0_2, .slice A0_3 l0_3.length c0_3, .int .i64 a0_4] 27 (0, 0)) (by (with_reducible repeat (first | refine jY ?_ _ | refine jZ ?_ | refine jX ?_ _)); refine blk_far ?_ NB494_498.out _; (with_reducible repeat (first | refine jY ?_ _ | refine jZ ?_ | refine jX ?_ _)); exact BK494.out) hb); have n7_ := jM (jW (g := gb495) (o := .cells #[.string (⟨#[122, 122]⟩ : ByteArray), .int .i64 a1_1, .slice A1_2 l1_2.length c1_2, .int .i64 a1_3] 64 (0, 0)) (by (with_reducible repeat (first | refine jY ?_ _ | refine jZ ?_ | refine jX ?_ _)); refine blk_far ?_ NB495_498.out _; (with_reducible repeat (first | refine jY ?_ _ | refine jZ ?_ | refine jX ?_ _)); exact BK495.out) hb); have n8_ := jM (jW (g := gb498) (o := .cells #[.slice A0_0 l0_0.length c0_0, .slice A0_1 l0_1.length c0_1, .slice A0_2 l0_2.length c0_2, .slice Ao43 y508.length co43, .int .i64 a0_4] 27 (0, 0)) (by (with_reducible repeat (first | refine jY ?_ _ | refine jZ ?_ | refine jX ?_ _)); refine blk_put (cs := #[.slice A0_0 l0_0.length c0_0, .slice A0_1 l0_1.length c0_1, .slice A0_2 l0_2.length c0_2, .slice A0_3 l0_3.length c0_3, .int .i64 a0_4]) ?_ 3 _ rfl; (with_reducible repeat (first | refine jY ?_ _ | refine jZ ?_ | refine jX ?_ _)); exact BK498.out) hb); have n9_ := jM (jT (by repeat (first | (with_reducible first | exact HB.out | apply jA | apply jN | apply jD | refine jS ?_ GE494.out | refine jS ?_ GE495.out | refine jS ?_ GE498.out) | exact HB.out)) hb); clear HO_495003; clear HO_496002; clear HO507; clear HO510; clear BK494; clear BK495; clear BK498; clear HB; have HO_495003 := n0_; have HO_496002 := n1_; have HO507 := n2_; have HO510 := n3_; have HO513 := n4_; have HO516 := n5_; have BK494 := n6_; have BK495 := n7_; have BK498 := n8_; have HB := n9_; clear n0_ n1_ n2_ n3_ n4_ n5_ n6_ n7_ n8_ n9_; (try clear hb); (try clear hb2); (try clear hk); (try clear hi); (try clear ho0); (try clear ho1)) | ((with_reducible refine gate_dst (N := 8) rfl ?_); (try (refine gate_guard (by rfl) ?_; dsimp only)); refine box_event ?hg (N := 8) ?hd (cs := #[.slice none 0 0, .slice none 0 0]) (t := 49) ?hr ?_; (case hd => rfl); (case hg => rfl); (case hr => first | (go_simp; done) | (go_simp; rfl)); intro gb518 hg w47 hbox hb; have n0_ := jM (Kd.V_below (Kd.V_elderB (by (with_reducible repeat (first | apply jt | apply ju | apply jv)); exact HO_495003.out) gb518 (Nat.le_of_eq hg.symm)) hb); have n1_ := jM (Kd.V_below (Kd.V_elderB (by (with_reducible repeat (first | apply jt | apply ju | apply jv)); exact HO_496002.out) gb518 (Nat.le_of_eq hg.symm)) hb); have n2_ := jM (Kd.N_below (Kd.N_elderB (by (with_reducible repeat (first | apply jn | apply jo | apply jp)); exact HO507.out) gb518 (Nat.le_of_eq hg.symm)) hb); have n3_ := jM (Kd.N_below (Kd.N_elderB (by (with_reducible repeat (first | apply jn | apply jo | apply jp)); exact HO510.out) gb518 (Nat.le_of_eq hg.symm)) hb); have n4_ := jM (Kd.N_below (Kd.N_elderB (by (with_reducible repeat (first | apply jn | apply jo | apply jp)); exact HO513.out) gb518 (Nat.le_of_eq hg.symm)) hb); have n5_ := jM (Kd.N_below (Kd.N_elderB (by (with_reducible repeat (first | apply jn | apply jo | apply jp)); exact HO516.out) gb518 (Nat.le_of_eq hg.symm)) hb); have n6_ := jM (jW (g := gb494) (o := .cells #[.slice A0_0 l0_0.length c0_0, .slice A0_1 l0_1.length c0_1, .slice A0_2 l0_2.length c0_2, .slice A0_3 l0_3.length c0_3, .int .i64 a0_4] 27 (0, 0)) (by (with_reducible repeat (first | refine jY ?_ _ | refine jZ ?_ | refine jX ?_ _)); exact BK494.out) hb); have n7_ := jM (jW (g := gb495) (o := .cells #[.string (⟨#[122, 122]⟩ : ByteArray), .int .i64 a1_1, .slice A1_2 l1_2.length c1_2, .int .i64 a1_3] 64 (0, 0)) (by (with_reducible repeat (first | refine jY ?_ _ | refine jZ ?_ | refine jX ?_ _)); exact BK495.out) hb); have n8_ := jM (jW (g := gb498) (o := .cells #[.slice A0_0 l0_0.length c0_0, .slice A0_1 l0_1.length c0_1, .slice A0_2 l0_2.length c0_2, .slice Ao43 y508.length co43, .int .i64 a0_4] 27 (0, 0)) (by (with_reducible repeat (first | refine jY ?_ _ | refine jZ ?_ | refine jX ?_ _)); exact BK498.out) hb); have n9_ := jM (jT (by repeat (first | (with_reducible first | exact HB.out | apply jA | apply jN | apply jD | refine jS ?_ GE494.out | refine jS ?_ GE495.out | refine jS ?_ GE498.out) | exact HB.out)) hb); have n10_ := jM (hbox); have n11_ := jM ((by rw [hg]; exact (below_size (by repeat (first | (with_reducible first | exact HB.out | apply jA | apply jN | apply jD | refine jS ?_ GE494.out | refine jS ?_ GE495.out | refine jS ?_ GE498.out) | exact HB.out))) : w.heap.size ≤ gb518)); have n12_ := jM ((by rw [hg]; exact (below_size (by repeat (first | (with_reducible first | exact HB.out | apply jA | apply jN | apply jD | refine jS ?_ GE494.out | refine jS ?_ GE495.out | refine jS ?_ GE498.out) | exact HB.out))) : w.heap.size ≤ gb518)); have n13_ := jM ((by rw [hg]; exact Nat.ne_of_lt (blk_lt (g := gb494) (o := .cells #[.slice A0_0 l0_0.length c0_0, .slice A0_1 l0_1.length c0_1, .slice A0_2 l0_2.length c0_2, .slice A0_3 l0_3.length c0_3, .int .i64 a0_4] 27 (0, 0)) (by (with_reducible repeat (first | refine jY ?_ _ | refine jZ ?_ | refine jX ?_ _)); exact BK494.out)) : gb494 ≠ gb518)); have n14_ := jM ((by rw [hg]; exact Nat.ne_of_gt (blk_lt (g := gb494) (o := .cells #[.slice A0_0 l0_0.length c0_0, .slice A0_1 l0_1.length c0_1, .slice A0_2 l0_2.length c0_2, .slice A0_3 l0_3.length c0_3, .int .i64 a0_4] 27 (0, 0)) (by (with_reducible repeat (first | refine jY ?_ _ | refine jZ ?_ | refine jX ?_ _)); exact BK494.out)) : gb518 ≠ gb494)); have n15_ := jM ((by rw [hg]; exact Nat.ne_of_lt (blk_lt (g := gb495) (o := .cells #[.string (⟨#[122, 122]⟩ : ByteArray), .int .i64 a1_1, .slice A1_2 l1_2.length c1_2, .int .i64 a1_3] 64 (0, 0)) (by (with_reducible repeat (first | refine jY ?_ _ | refine jZ ?_ | refine jX ?_ _)); exact BK495.out)) : gb495 ≠ gb518)); have n16_ := jM ((by rw [hg]; exact Nat.ne_of_gt (blk_lt (g := gb495) (o := .cells #[.string (⟨#[122, 122]⟩ : ByteArray), .int .i64 a1_1, .slice A1_2 l1_2.length c1_2, .int .i64 a1_3] 64 (0, 0)) (by (with_reducible repeat (first | refine jY ?_ _ | refine jZ ?_ | refine jX ?_ _)); exact BK495.out)) : gb518 ≠ gb495)); have n17_ := jM ((by rw [hg]; exact Nat.ne_of_lt (blk_lt (g := gb498) (o := .cells #[.slice A0_0 l0_0.length c0_0, .slice A0_1 l0_1.length c0_1, .slice A0_2 l0_2.length c0_2, .slice Ao43 y508.length co43, .int .i64 a0_4] 27 (0, 0)) (by (with_reducible repeat (first | refine jY ?_ _ | refine jZ ?_ | refine jX ?_ _)); exact BK498.out)) : gb498 ≠ gb518)); have n18_ := jM ((by rw [hg]; exact Nat.ne_of_gt (blk_lt (g := gb498) (o := .cells #[.slice A0_0 l0_0.length c0_0, .slice A0_1 l0_1.length c0_1, .slice A0_2 l0_2.length c0_2, .slice Ao43 y508.length co43, .int .i64 a0_4] 27 (0, 0)) (by (with_reducible repeat (first | refine jY ?_ _ | refine jZ ?_ | refine jX ?_ _)); exact BK498.out)) : gb518 ≠ gb498)); clear HO_495003; clear HO_496002; clear HO507; clear HO510; clear HO513; clear HO516; clear BK494; clear BK495; clear BK498; clear HB; have HO_495003 := n0_; have HO_496002 := n1_; have HO507 := n2_; have HO510 := n3_; have HO513 := n4_; have HO516 := n5_; have BK494 := n6_; have BK495 := n7_; have BK498 := n8_; have HB := n9_; have BK518 := n10_; have GW518 := n11_; have GE518 := n12_; have NB494_518 := n13_; have NB518_494 := n14_; have NB495_518 := n15_; have NB518_495 := n16_; have NB498_518 := n17_; have NB518_498 := n18_; clear n0_ n1_ n2_ n3_ n4_ n5_ n6_ n7_ n8_ n9_ n10_ n11_ n12_ n13_ n14_ n15_ n16_ n17_ n18_; clear hb hbox hg; obtain ⟨Ao48, co48, eo48⟩ := Kd.N_slice HO513.out; subst eo48; have hnb49 := NB518_494.out; have hnc49 := NB494_518.out; have hnb50 := NB518_495.out; have hnc50 := NB495_518.out; have hnb51 := NB518_498.out; have hnc51 := NB498_518.out; have hcz52_0 : w47.cell? ⟨gb518, 0, none⟩ = some (.slice none 0 0) := (jC BK518.out 0).trans rfl; have hcz52_1 : w47.cell? ⟨gb518, 1, none⟩ = some (.slice none 0 0) := (jC BK518.out 1).trans rfl; have hfz52_0 := jF BK518.out 0; have hfz52_1 := jF BK518.out 1; obtain ⟨Ao53, co53, eo53⟩ := Kd.N_slice HO516.out; subst eo53; have hcz54_0 : w47.cell? ⟨gb498, 0, none⟩ = some (.slice A0_0 l0_0.length c0_0) := (jC BK498.out 0).trans rfl; have hcz54_1 : w47.cell? ⟨gb498, 1, none⟩ = some (.slice A0_1 l0_1.length c0_1) := (jC BK498.out 1).trans rfl; have hcz54_2 : w47.cell? ⟨gb498, 2, none⟩ = some (.slice A0_2 l0_2.length c0_2) := (jC BK498.out 2).trans rfl; have hcz54_3 : w47.cell? ⟨gb498, 3, none⟩ = some (.slice Ao43 y508.length co43) := (jC BK498.out 3).trans rfl; have hcz54_4 : w47.cell? ⟨gb498, 4, none⟩ = some (.int .i64 a0_4) := (jC BK498.out 4).trans rfl; have hfz54_0 := jF BK498.out 0; have hfz54_1 := jF BK498.out 1; have hfz54_2 := jF BK498.out 2; have hfz54_3 := jF BK498.out 3; have hfz54_4 := jF BK498.out 4) | ((with_reducible refine gate_callee (f := 23) rfl ?_); refine goesL_ (some 56) rfl rfl Tryd.func23 (by kernel_rfl) rfl #[.agg #[.slice A0_0 l0_0.length c0_0, .slice A0_1 l0_1.length c0_1, .slice A0_2 l0_2.length c0_2, .slice Ao43 y508.length co43, .int .i64 a0_4]] rfl (by (try simp only [List.map_toArray, List.map_cons, List.map_nil]); first | done | rfl | (simp only [List.length_drop, List.length_take]; rfl)) ?_; (with_reducible refine (states_Build.calls _ _ l0_0 _ _ l0_1 _ _ l0_2 _ _ y508 a0_4 t519 t522 t525 _ ?side1 ?side2 ?side3 ?side4 ?side5 ?side6 ?side7 ?side8 ?side9 A24.out).mono ?_); (case side1 => exact GTab.below HG.out (by repeat (first | (with_reducible first | exact HB.out | apply jA | apply jN | apply jD | refine jS ?_ GE494.out | refine jS ?_ GE495.out | refine jS ?_ GE498.out | refine jS ?_ GE518.out) | exact HB.out))); (case side2 => exact jB HR0_0.out (by repeat (first | (with_reducible first | exact HB.out | apply jA | apply jN | apply jD | refine jS ?_ GE494.out | refine jS ?_ GE495.out | refine jS ?_ GE498.out | refine jS ?_ GE518.out) | exact HB.out))); (case side3 => exact HC0_0.out); (case side4 => exact jB HR0_1.out (by repeat (first | (with_reducible first | exact HB.out | apply jA | apply jN | apply jD | refine jS ?_ GE494.out | refine jS ?_ GE495.out | refine jS ?_ GE498.out | refine jS ?_ GE518.out) | exact HB.out))); (case side5 => exact HC0_1.out); (case side6 => exact jB HR0_2.out (by repeat (first | (with_reducible first | exact HB.out | apply jA | apply jN | apply jD | refine jS ?_ GE494.out | refine jS ?_ GE495.out | refine jS ?_ GE498.out | refine jS ?_ GE518.out) | exact HB.out))); (case side7 => exact HC0_2.out); (case side8 => refine (Kd.N_reads' (e := 64) (base := w.heap.size) (ok := fun k_ => ((((((P0_3_ k_ ∨ P1_2_ k_) ∨ w.heap.size ≤ k_) ∧ (k_ ≠ gb494 ∧ (k_ ≠ gb495 ∧ k_ ≠ gb498))) ∧ some k_ ≠ (.slice Ao48 t511.length co48 : Value).ownBlock) ∧ some k_ ≠ (.slice Ao53 t514.length co53 : Value).ownBlock) ∧ k_ ≠ gb518)) (n := y508.length) (c := co43) ?_).2.2; exact (by (with_reducible repeat (first | apply jn | apply jo | apply jp)); exact (Kd.N_mono (Kd.N_far (p := ⟨gb518, 1, none⟩) (Kd.N_far (p := ⟨gb518, 0, none⟩) (Kd.N_mono HO510.out (fun k_ hk => (⟨hk, hk.2⟩ : _ ∧ k_ ≠ gb518))) (fun _ hk => hk.2) (.slice Ao48 t511.length co48)) (fun _ hk => hk.2) (.slice Ao53 t514.length co53)) (fun _ h_ => h_.1)))); (case side9 => exact (Kd.N_reads' HO510.out).2.1); rintro e w55 ⟨v520, v523, rfl, ho0, ho1, hb⟩; refine ⟨_, rfl, ?_⟩; have n0_ := jM (Kd.V_mono (Kd.V_told (Kd.V_told (Kd.V_old (by (with_reducible repeat (first | apply jt | apply ju | apply jv)); exact (Kd.V_mono (Kd.V_far (p := ⟨gb518, 1, none⟩) (Kd.V_far (p := ⟨gb518, 0, none⟩) (Kd.V_mono HO_495003.out (fun k_ hk => (⟨hk, hk.2⟩ : _ ∧ k_ ≠ gb518))) (fun _ hk => hk.2) (.slice Ao48 t511.length co48)) (fun _ hk => hk.2) (.slice Ao53 t514.length co53)) (fun _ h_ => h_.1))) hb) (Kd.S_base ho0)) (Kd.S_base ho1)) (fun _ h_ => h_.1)); have n1_ := jM (Kd.V_mono (Kd.V_told (Kd.V_told (Kd.V_old (by (with_reducible repeat (first | apply jt | apply ju | apply jv)); exact (Kd.V_mono (Kd.V_far (p := ⟨gb518, 1, none⟩) (Kd.V_far (p := ⟨gb518, 0, none⟩) (Kd.V_mono HO_496002.out (fun k_ hk => (⟨hk, hk.2⟩ : _ ∧ k_ ≠ gb518))) (fun _ hk => hk.2) (.slice Ao48 t511.length co48)) (fun _ hk => hk.2) (.slice Ao53 t514.length co53)) (fun _ h_ => h_.1))) hb) (Kd.S_base ho0)) (Kd.S_base ho1)) (fun _ h_ => h_.1)); have n2_ := jM (Kd.N_mono (Kd.N_told (Kd.N_told (Kd.N_old (by (with_reducible repeat (first | apply jn | apply jo | apply jp)); exact (Kd.N_mono (Kd.N_far (p := ⟨gb518, 1, none⟩) (Kd.N_far (p := ⟨gb518, 0, none⟩) (Kd.N_mono HO507.out (fun k_ hk => (⟨hk, hk.2⟩ : _ ∧ k_ ≠ gb518))) (fun _ hk => hk.2) (.slice Ao48 t511.length co48)) (fun _ hk => hk.2) (.slice Ao53 t514.length co53)) (fun _ h_ => h_.1))) hb) (Kd.S_base ho0)) (Kd.S_base ho1)) (fun _ h_ => h_.1)); have n3_ := jM (Kd.N_mono (Kd.N_told (Kd.N_told (Kd.N_old (by (with_reducible repeat (first | apply jn | apply jo | apply jp)); exact (Kd.N_mono (Kd.N_far (p := ⟨gb518, 1, none⟩) (Kd.N_far (p := ⟨gb518, 0, none⟩) (Kd.N_mono HO510.out (fun k_ hk => (⟨hk, hk.2⟩ : _ ∧ k_ ≠ gb518))) (fun _ hk => hk.2) (.slice Ao48 t511.length co48)) (fun _ hk => hk.2) (.slice Ao53 t514.length co53)) (fun _ h_ => h_.1))) hb) (Kd.S_base ho0)) (Kd.S_base ho1)) (fun _ h_ => h_.1)); have n4_ := jM (Kd.N_mono (Kd.N_told (Kd.N_told (Kd.N_old (by (with_reducible repeat (first | apply jn | apply jo | apply jp)); exact (Kd.N_mono (Kd.N_far (p := ⟨gb518, 1, none⟩) (Kd.N_far (p := ⟨gb518, 0, none⟩) (Kd.N_mono HO513.out (fun k_ hk => (⟨hk, hk.2⟩ : _ ∧ k_ ≠ gb518))) (fun _ hk => hk.2) (.slice Ao48 t511.length co48)) (fun _ hk => hk.2) (.slice Ao53 t514.length co53)) (fun _ h_ => h_.1))) hb) (Kd.S_base ho0)) (Kd.S_base ho1)) (fun _ h_ => h_.1)); have n5_ := jM (Kd.N_mono (Kd.N_told (Kd.N_told (Kd.N_old (by (with_reducible repeat (first | apply jn | apply jo | apply jp)); exact (Kd.N_mono (Kd.N_far (p := ⟨gb518, 1, none⟩) (Kd.N_far (p := ⟨gb518, 0, none⟩) (Kd.N_mono HO516.out (fun k_ hk => (⟨hk, hk.2⟩ : _ ∧ k_ ≠ gb518))) (fun _ hk => hk.2) (.slice Ao48 t511.length co48)) (fun _ hk => hk.2) (.slice Ao53 t514.length co53)) (fun _ h_ => h_.1))) hb) (Kd.S_base ho0)) (Kd.S_base ho1)) (fun _ h_ => h_.1)); have n6_ := jM (Kd.N_lower (Kd.N_mono (ok' := fun k_ => ((P0_3_ k_ ∨ P1_2_ k_) ∨ w.heap.size ≤ k_) ∧ some k_ ≠ (v523 : Value).ownBlock ∧ some k_ ≠ (.slice Ao42 y505.length co42 : Value).ownBlock ∧ some k_ ≠ (.slice Ao43 y508.length co43 : Value).ownBlock ∧ some k_ ≠ (.slice Ao48 t511.length co48 : Value).ownBlock ∧ some k_ ≠ (.slice Ao53 t514.length co53 : Value).ownBlock ∧ k_ ≠ gb494 ∧ k_ ≠ gb495 ∧ k_ ≠ gb498 ∧ k_ ≠ gb518) (Kd.S_N (Kd.S_bound (Kd.S_apart' ho0 (Kd.S_typed ho1) (by decide)))) (fun k_ hk_ => ⟨(.inr (Nat.le_trans (below_size (by repeat (first | (with_reducible first | exact HB.out | apply jA | apply jN | apply jD | refine jS ?_ GE494.out | refine jS ?_ GE495.out | refine jS ?_ GE498.out | refine jS ?_ GE518.out) | exact HB.out))) hk_.2.1)), hk_.1.2, (Kd.fresh' (Kd.N_lt (by (with_reducible repeat (first | apply jn | apply jo | apply jp)); exact (Kd.N_mono (Kd.N_far (p := ⟨gb518, 1, none⟩) (Kd.N_far (p := ⟨gb518, 0, none⟩) (Kd.N_mono HO507.out (fun k_ hk => (⟨hk, hk.2⟩ : _ ∧ k_ ≠ gb518))) (fun _ hk => hk.2) (.slice Ao48 t511.length co48)) (fun _ hk => hk.2) (.slice Ao53 t514.length co53)) (fun _ h_ => h_.1)))) k_ hk_.2.1), (Kd.fresh' (Kd.N_lt (by (with_reducible repeat (first | apply jn | apply jo | apply jp)); exact (Kd.N_mono (Kd.N_far (p := ⟨gb518, 1, none⟩) (Kd.N_far (p := ⟨gb518, 0, none⟩) (Kd.N_mono HO510.out (fun k_ hk => (⟨hk, hk.2⟩ : _ ∧ k_ ≠ gb518))) (fun _ hk => hk.2) (.slice Ao48 t511.length co48)) (fun _ hk => hk.2) (.slice Ao53 t514.length co53)) (fun _ h_ => h_.1)))) k_ hk_.2.1), (Kd.fresh' (Kd.N_lt (by (with_reducible repeat (first | apply jn | apply jo | apply jp)); exact (Kd.N_mono (Kd.N_far (p := ⟨gb518, 1, none⟩) (Kd.N_far (p := ⟨gb518, 0, none⟩) (Kd.N_mono HO513.out (fun k_ hk => (⟨hk, hk.2⟩ : _ ∧ k_ ≠ gb518))) (fun _ hk => hk.2) (.slice Ao48 t511.length co48)) (fun _ hk => hk.2) (.slice Ao53 t514.length co53)) (fun _ h_ => h_.1)))) k_ hk_.2.1), (Kd.fresh' (Kd.N_lt (by (with_reducible repeat (first | apply jn | apply jo | apply jp)); exact (Kd.N_mono (Kd.N_far (p := ⟨gb518, 1, none⟩) (Kd.N_far (p := ⟨gb518, 0, none⟩) (Kd.N_mono HO516.out (fun k_ hk => (⟨hk, hk.2⟩ : _ ∧ k_ ≠ gb518))) (fun _ hk => hk.2) (.slice Ao48 t511.length co48)) (fun _ hk => hk.2) (.slice Ao53 t514.length co53)) (fun _ h_ => h_.1)))) k_ hk_.2.1), (Kd.freshB (g := gb494) (o := .cells #[.slice A0_0 l0_0.length c0_0, .slice A0_1 l0_1.length c0_1, .slice A0_2 l0_2.length c0_2, .slice A0_3 l0_3.length c0_3, .int .i64 a0_4] 27 (0, 0)) (by (with_reducible repeat (first | refine jY ?_ _ | refine jZ ?_ | refine jX ?_ _)); refine blk_far ?_ NB494_518.out _; (with_reducible repeat (first | refine jY ?_ _ | refine jZ ?_ | refine jX ?_ _)); refine blk_far ?_ NB494_518.out _; (with_reducible repeat (first | refine jY ?_ _ | refine jZ ?_ | refine jX ?_ _)); exact BK494.out) k_ hk_.2.1), (Kd.freshB (g := gb495) (o := .cells #[.string (⟨#[122, 122]⟩ : ByteArray), .int .i64 a1_1, .slice A1_2 l1_2.length c1_2, .int .i64 a1_3] 64 (0, 0)) (by (with_reducible repeat (first | refine jY ?_ _ | refine jZ ?_ | refine jX ?_ _)); refine blk_far ?_ NB495_518.out _; (with_reducible repeat (first | refine jY ?_ _ | refine jZ ?_ | refine jX ?_ _)); refine blk_far ?_ NB495_518.out _; (with_reducible repeat (first | refine jY ?_ _ | refine jZ ?_ | refine jX ?_ _)); exact BK495.out) k_ hk_.2.1), (Kd.freshB (g := gb498) (o := .cells #[.slice A0_0 l0_0.length c0_0, .slice A0_1 l0_1.length c0_1, .slice A0_2 l0_2.length c0_2, .slice Ao43 y508.length co43, .int .i64 a0_4] 27 (0, 0)) (by (with_reducible repeat (first | refine jY ?_ _ | refine jZ ?_ | refine jX ?_ _)); refine blk_far ?_ NB498_518.out _; (with_reducible repeat (first | refine jY ?_ _ | refine jZ ?_ | refine jX ?_ _)); refine blk_far ?_ NB498_518.out _; (with_reducible repeat (first | refine jY ?_ _ | refine jZ ?_ | refine jX ?_ _)); exact BK498.out) k_ hk_.2.1), (Kd.freshB (g := gb518) (o := .cells #[.slice Ao48 t511.length co48, .slice Ao53 t514.length co53] 49 (0, 0)) (by (with_reducible repeat (first | refine jY ?_ _ | refine jZ ?_ | refine jX ?_ _)); refine blk_put (cs := #[.slice Ao48 t511.length co48, .slice none 0 0]) ?_ 1 _ rfl; (with_reducible repeat (first | refine jY ?_ _ | refine jZ ?_ | refine jX ?_ _)); refine blk_put (cs := #[.slice none 0 0, .slice none 0 0]) ?_ 0 _ rfl; (with_reducible repeat (first | refine jY ?_ _ | refine jZ ?_ | refine jX ?_ _)); exact BK518.out) k_ hk_.2.1)⟩)) (below_size (by repeat (first | (with_reducible first | exact HB.out | apply jA | apply jN | apply jD | refine jS ?_ GE494.out | refine jS ?_ GE495.out | refine jS ?_ GE498.out | refine jS ?_ GE518.out) | exact HB.out)))); have n7_ := jM (Kd.N_lower (Kd.N_mono (ok' := fun k_ => ((P0_3_ k_ ∨ P1_2_ k_) ∨ w.heap.size ≤ k_) ∧ some k_ ≠ (v520 : Value).ownBlock ∧ some k_ ≠ (.slice Ao42 y505.length co42 : Value).ownBlock ∧ some k_ ≠ (.slice Ao43 y508.length co43 : Value).ownBlock ∧ some k_ ≠ (.slice Ao48 t511.length co48 : Value).ownBlock ∧ some k_ ≠ (.slice Ao53 t514.length co53 : Value).ownBlock ∧ k_ ≠ gb494 ∧ k_ ≠ gb495 ∧ k_ ≠ gb498 ∧ k_ ≠ gb518) (Kd.S_N (Kd.S_bound (Kd.S_apart' ho1 (Kd.S_typed ho0) (by decide)))) (fun k_ hk_ => ⟨(.inr (Nat.le_trans (below_size (by repeat (first | (with_reducible first | exact HB.out | apply jA | apply jN | apply jD | refine jS ?_ GE494.out | refine jS ?_ GE495.out | refine jS ?_ GE498.out | refine jS ?_ GE518.out) | exact HB.out))) hk_.2.1)), hk_.1.2, (Kd.fresh' (Kd.N_lt (by (with_reducible repeat (first | apply jn | apply jo | apply jp)); exact (Kd.N_mono (Kd.N_far (p := ⟨gb518, 1, none⟩) (Kd.N_far (p := ⟨gb518, 0, none⟩) (Kd.N_mono HO507.out (fun k_ hk => (⟨hk, hk.2⟩ : _ ∧ k_ ≠ gb518))) (fun _ hk => hk.2) (.slice Ao48 t511.length co48)) (fun _ hk => hk.2) (.slice Ao53 t514.length co53)) (fun _ h_ => h_.1)))) k_ hk_.2.1), (Kd.fresh' (Kd.N_lt (by (with_reducible repeat (first | apply jn | apply jo | apply jp)); exact (Kd.N_mono (Kd.N_far (p := ⟨gb518, 1, none⟩) (Kd.N_far (p := ⟨gb518, 0, none⟩) (Kd.N_mono HO510.out (fun k_ hk => (⟨hk, hk.2⟩ : _ ∧ k_ ≠ gb518))) (fun _ hk => hk.2) (.slice Ao48 t511.length co48)) (fun _ hk => hk.2) (.slice Ao53 t514.length co53)) (fun _ h_ => h_.1)))) k_ hk_.2.1), (Kd.fresh' (Kd.N_lt (by (with_reducible repeat (first | apply jn | apply jo | apply jp)); exact (Kd.N_mono (Kd.N_far (p := ⟨gb518, 1, none⟩) (Kd.N_far (p := ⟨gb518, 0, none⟩) (Kd.N_mono HO513.out (fun k_ hk => (⟨hk, hk.2⟩ : _ ∧ k_ ≠ gb518))) (fun _ hk => hk.2) (.slice Ao48 t511.length co48)) (fun _ hk => hk.2) (.slice Ao53 t514.length co53)) (fun _ h_ => h_.1)))) k_ hk_.2.1), (Kd.fresh' (Kd.N_lt (by (with_reducible repeat (first | apply jn | apply jo | apply jp)); exact (Kd.N_mono (Kd.N_far (p := ⟨gb518, 1, none⟩) (Kd.N_far (p := ⟨gb518, 0, none⟩) (Kd.N_mono HO516.out (fun k_ hk => (⟨hk, hk.2⟩ : _ ∧ k_ ≠ gb518))) (fun _ hk => hk.2) (.slice Ao48 t511.length co48)) (fun _ hk => hk.2) (.slice Ao53 t514.length co53)) (fun _ h_ => h_.1)))) k_ hk_.2.1), (Kd.freshB (g := gb494) (o := .cells #[.slice A0_0 l0_0.length c0_0, .slice A0_1 l0_1.length c0_1, .slice A0_2 l0_2.length c0_2, .slice A0_3 l0_3.length c0_3, .int .i64 a0_4] 27 (0, 0)) (by (with_reducible repeat (first | refine jY ?_ _ | refine jZ ?_ | refine jX ?_ _)); refine blk_far ?_ NB494_518.out _; (with_reducible repeat (first | refine jY ?_ _ | refine jZ ?_ | refine jX ?_ _)); refine blk_far ?_ NB494_518.out _; (with_reducible repeat (first | refine jY ?_ _ | refine jZ ?_ | refine jX ?_ _)); exact BK494.out) k_ hk_.2.1), (Kd.freshB (g := gb495) (o := .cells #[.string (⟨#[122, 122]⟩ : ByteArray), .int .i64 a1_1, .slice A1_2 l1_2.length c1_2, .int .i64 a1_3] 64 (0, 0)) (by (with_reducible repeat (first | refine jY ?_ _ | refine jZ ?_ | refine jX ?_ _)); refine blk_far ?_ NB495_518.out _; (with_reducible repeat (first | refine jY ?_ _ | refine jZ ?_ | refine jX ?_ _)); refine blk_far ?_ NB495_518.out _; (with_reducible repeat (first | refine jY ?_ _ | refine jZ ?_ | refine jX ?_ _)); exact BK495.out) k_ hk_.2.1), (Kd.freshB (g := gb498) (o := .cells #[.slice A0_0 l0_0.length c0_0, .slice A0_1 l0_1.length c0_1, .slice A0_2 l0_2.length c0_2, .slice Ao43 y508.length co43, .int .i64 a0_4] 27 (0, 0)) (by (with_reducible repeat (first | refine jY ?_ _ | refine jZ ?_ | refine jX ?_ _)); refine blk_far ?_ NB498_518.out _; (with_reducible repeat (first | refine jY ?_ _ | refine jZ ?_ | refine jX ?_ _)); refine blk_far ?_ NB498_518.out _; (with_reducible repeat (first | refine jY ?_ _ | refine jZ ?_ | refine jX ?_ _)); exact BK498.out) k_ hk_.2.1), (Kd.freshB (g := gb518) (o := .cells #[.slice Ao48 t511.length co48, .slice Ao53 t514.length co53] 49 (0, 0)) (by (with_reducible repeat (first | refine jY ?_ _ | refine jZ ?_ | refine jX ?_ _)); refine blk_put (cs := #[.slice Ao48 t511.length co48, .slice none 0 0]) ?_ 1 _ rfl; (with_reducible repeat (first | refine jY ?_ _ | refine jZ ?_ | refine jX ?_ _)); refine blk_put (cs := #[.slice none 0 0, .slice none 0 0]) ?_ 0 _ rfl; (with_reducible repeat (first | refine jY ?_ _ | refine jZ ?_ | refine jX ?_ _)); exact BK518.out) k_ hk_.2.1)⟩)) (below_size (by repeat (first | (with_reducible first | exact HB.out | apply jA | apply jN | apply jD | refine jS ?_ GE494.out | refine jS ?_ GE495.out | refine jS ?_ GE498.out | refine jS ?_ GE518.out) | exact HB.out)))); have n8_ := jM (jW (g := gb494) (o := .cells #[.slice A0_0 l0_0.length c0_0, .slice A0_1 l0_1.length c0_1, .slice A0_2 l0_2.length c0_2, .slice A0_3 l0_3.length c0_3, .int .i64 a0_4] 27 (0, 0)) (by (with_reducible repeat (first | refine jY ?_ _ | refine jZ ?_ | refine jX ?_ _)); refine blk_far ?_ NB494_518.out _; (with_reducible repeat (first | refine jY ?_ _ | refine jZ ?_ | refine jX ?_ _)); refine blk_far ?_ NB494_518.out _; (with_reducible repeat (first | refine jY ?_ _ | refine jZ ?_ | refine jX ?_ _)); exact BK494.out) hb); have n9_ := jM (jW (g := gb495) (o := .cells #[.string (⟨#[122, 122]⟩ : ByteArray), .int .i64 a1_1, .slice A1_2 l1_2.length c1_2, .int .i64 a1_3] 64 (0, 0)) (by (with_reducible repeat (first | refine jY ?_ _ | refine jZ ?_ | refine jX ?_ _)); refine blk_far ?_ NB495_518.out _; (with_reducible repeat (first | refine jY ?_ _ | refine jZ ?_ | refine jX ?_ _)); refine blk_far ?_ NB495_518.out _; (with_reducible repeat (first | refine jY ?_ _ | refine jZ ?_ | refine jX ?_ _)); exact BK495.out) hb); have n10_ := jM (jW (g := gb498) (o := .cells #[.slice A0_0 l0_0.length c0_0, .slice A0_1 l0_1.length c0_1, .slice A0_2 l0_2.length c0_2, .slice Ao43 y508.length co43, .int .i64 a0_4] 27 (0, 0)) (by (with_reducible repeat (first | refine jY ?_ _ | refine jZ ?_ | refine jX ?_ _)); refine blk_far ?_ NB498_518.out _; (with_reducible repeat (first | refine jY ?_ _ | refine jZ ?_ | refine jX ?_ _)); refine blk_far ?_ NB498_518.out _; (with_reducible repeat (first | refine jY ?_ _ | refine jZ ?_ | refine jX ?_ _)); exact BK498.out) hb); have n11_ := jM (jW (g := gb518) (o := .cells #[.slice Ao48 t511.length co48, .slice Ao53 t514.length co53] 49 (0, 0)) (by (with_reducible repeat (first | refine jY ?_ _ | refine jZ ?_ | refine jX ?_ _)); refine blk_put (cs := #[.slice Ao48 t511.length co48, .slice none 0 0]) ?_ 1 _ rfl; (with_reducible repeat (first | refine jY ?_ _ | refine jZ ?_ | refine jX ?_ _)); refine blk_put (cs := #[.slice none 0 0, .slice none 0 0]) ?_ 0 _ rfl; (with_reducible repeat (first | refine jY ?_ _ | refine jZ ?_ | refine jX ?_ _)); exact BK518.out) hb); have n12_ := jM (jT (by repeat (first | (with_reducible first | exact HB.out | apply jA | apply jN | apply jD | refine jS ?_ GE494.out | refine jS ?_ GE495.out | refine jS ?_ GE498.out | refine jS ?_ GE518.out) | exact HB.out)) hb); clear HO_495003; clear HO_496002; clear HO507; clear HO510; clear HO513; clear HO516; clear BK494; clear BK495; clear BK498; clear BK518; clear HB; have HO_495003 := n0_; have HO_496002 := n1_; have HO507 := n2_; have HO510 := n3_; have HO513 := n4_; have HO516 := n5_; have HO521 := n6_; have HO524 := n7_; have BK494 := n8_; have BK495 := n9_; have BK498 := n10_; have BK518 := n11_; have HB := n12_; clear n0_ n1_ n2_ n3_ n4_ n5_ n6_ n7_ n8_ n9_ n10_ n11_ n12_; (try clear hb); (try clear hb2); (try clear hk); (try clear hi); (try clear ho0); (try clear ho1)) | ((with_reducible refine gate_dst (N := 10) rfl ?_); (try (refine gate_guard (by rfl) ?_; dsimp only)); refine box_event ?hg (N := 10) ?hd (cs := #[.slice none 0 0, .slice none 0 0]) (t := 49) ?hr ?_; (case hd => rfl); (case hg => rfl); (case hr => first | (go_simp; done) | (go_simp; rfl)); intro gb526 hg w56 hbox hb; have n0_ := jM (Kd.V_below (Kd.V_elderB (by (with_reducible repeat (first | apply jt | apply ju | apply jv)); exact HO_495003.out) gb526 (Nat.le_of_eq hg.symm)) hb); have n1_ := jM (Kd.V_below (Kd.V_elderB (by (with_reducible repeat (first | apply jt | apply ju | apply jv)); exact HO_496002.out) gb526 (Nat.le_of_eq hg.symm)) hb); have n2_ := jM (Kd.N_below (Kd.N_elderB (by (with_reducible repeat (first | apply jn | apply jo | apply jp)); exact HO507.out) gb526 (Nat.le_of_eq hg.symm)) hb); have n3_ := jM (Kd.N_below (Kd.N_elderB (by (with_reducible repeat (first | apply jn | apply jo | apply jp)); exact HO510.out) gb526 (Nat.le_of_eq hg.symm)) hb); have n4_ := jM (Kd.N_below (Kd.N_elderB (by (with_reducible repeat (first | apply jn | apply jo | apply jp)); exact HO513.out) gb526 (Nat.le_of_eq hg.symm)) hb); have n5_ := jM (Kd.N_below (Kd.N_elderB (by (with_reducible repeat (first | apply jn | apply jo | apply jp)); exact HO516.out) gb526 (Nat.le_of_eq hg.symm)) hb); have n6_ := jM (Kd.N_below (Kd.N_elderB (by (with_reducible repeat (first | apply jn | apply jo | apply jp)); exact HO521.out) gb526 (Nat.le_of_eq hg.symm)) hb); have n7_ := jM (Kd.N_below (Kd.N_elderB (by (with_reducible repeat (first | apply jn | apply jo | apply jp)); exact HO524.out) gb526 (Nat.le_of_eq hg.symm)) hb); have n8_ := jM (jW (g := gb494) (o := .cells #[.slice A0_0 l0_0.length c0_0, .slice A0_1 l0_1.length c0_1, .slice A0_2 l0_2.length c0_2, .slice A0_3 l0_3.length c0_3, .int .i64 a0_4] 27 (0, 0)) (by (with_reducible repeat (first | refine jY ?_ _ | refine jZ ?_ | refine jX ?_ _)); exact BK494.out) hb); have n9_ := jM (jW (g := gb495) (o := .cells #[.string (⟨#[122, 122]⟩ : ByteArray), .int .i64 a1_1, .slice A1_2 l1_2.length c1_2, .int .i64 a1_3] 64 (0, 0)) (by (with_reducible repeat (first | refine jY ?_ _ | refine jZ ?_ | refine jX ?_ _)); exact BK495.out) hb); have n10_ := jM (jW (g := gb498) (o := .cells #[.slice A0_0 l0_0.length c0_0, .slice A0_1 l0_1.length c0_1, .slice A0_2 l0_2.length c0_2, .slice Ao43 y508.length co43, .int .i64 a0_4] 27 (0, 0)) (by (with_reducible repeat (first | refine jY ?_ _ | refine jZ ?_ | refine jX ?_ _)); exact BK498.out) hb); have n11_ := jM (jW (g := gb518) (o := .cells #[.slice Ao48 t511.length co48, .slice Ao53 t514.length co53] 49 (0, 0)) (by (with_reducible repeat (first | refine jY ?_ _ | refine jZ ?_ | refine jX ?_ _)); exact BK518.out) hb); have n12_ := jM (jT (by repeat (first | (with_reducible first | exact HB.out | apply jA | apply jN | apply jD | refine jS ?_ GE494.out | refine jS ?_ GE495.out | refine jS ?_ GE498.out | refine jS ?_ GE518.out) | exact HB.out)) hb); have n13_ := jM (hbox); have n14_ := jM ((by rw [hg]; exact (below_size (by repeat (first | (with_reducible first | exact HB.out | apply jA | apply jN | apply jD | refine jS ?_ GE494.out | refine jS ?_ GE495.out | refine jS ?_ GE498.out | refine jS ?_ GE518.out) | exact HB.out))) : w.heap.size ≤ gb526)); have n15_ := jM ((by rw [hg]; exact (below_size (by repeat (first | (with_reducible first | exact HB.out | apply jA | apply jN | apply jD | refine jS ?_ GE494.out | refine jS ?_ GE495.out | refine jS ?_ GE498.out | refine jS ?_ GE518.out) | exact HB.out))) : w.heap.size ≤ gb526)); have n16_ := jM ((by rw [hg]; exact Nat.ne_of_lt (blk_lt (g := gb494) (o := .cells #[.slice A0_0 l0_0.length c0_0, .slice A0_1 l0_1.length c0_1, .slice A0_2 l0_2.length c0_2, .slice A0_3 l0_3.length c0_3, .int .i64 a0_4] 27 (0, 0)) (by (with_reducible repeat (first | refine jY ?_ _ | refine jZ ?_ | refine jX ?_ _)); exact BK494.out)) : gb494 ≠ gb526)); have n17_ := jM ((by rw [hg]; exact Nat.ne_of_gt (blk_lt (g := gb494) (o := .cells #[.slice A0_0 l0_0.length c0_0, .slice A0_1 l0_1.length c0_1, .slice A0_2 l0_2.length c0_2, .slice A0_3 l0_3.length c0_3, .int .i64 a0_4] 27 (0, 0)) (by (with_reducible repeat (first | refine jY ?_ _ | refine jZ ?_ | refine jX ?_ _)); exact BK494.out)) : gb526 ≠ gb494)); have n18_ := jM ((by rw [hg]; exact Nat.ne_of_lt (blk_lt (g := gb495) (o := .cells #[.string (⟨#[122, 122]⟩ : ByteArray), .int .i64 a1_1, .slice A1_2 l1_2.length c1_2, .int .i64 a1_3] 64 (0, 0)) (by (with_reducible repeat (first | refine jY ?_ _ | refine jZ ?_ | refine jX ?_ _)); exact BK495.out)) : gb495 ≠ gb526)); have n19_ := jM ((by rw [hg]; exact Nat.ne_of_gt (blk_lt (g := gb495) (o := .cells #[.string (⟨#[122, 122]⟩ : ByteArray), .int .i64 a1_1, .slice A1_2 l1_2.length c1_2, .int .i64 a1_3] 64 (0, 0)) (by (with_reducible repeat (first | refine jY ?_ _ | refine jZ ?_ | refine jX ?_ _)); exact BK495.out)) : gb526 ≠ gb495)); have n20_ := jM ((by rw [hg]; exact Nat.ne_of_lt (blk_lt (g := gb498) (o := .cells #[.slice A0_0 l0_0.length c0_0, .slice A0_1 l0_1.length c0_1, .slice A0_2 l0_2.length c0_2, .slice Ao43 y508.length co43, .int .i64 a0_4] 27 (0, 0)) (by (with_reducible repeat (first | refine jY ?_ _ | refine jZ ?_ | refine jX ?_ _)); exact BK498.out)) : gb498 ≠ gb526)); have n21_ := jM ((by rw [hg]; exact Nat.ne_of_gt (blk_lt (g := gb498) (o := .cells #[.slice A0_0 l0_0.length c0_0, .slice A0_1 l0_1.length c0_1, .slice A0_2 l0_2.length c0_2, .slice Ao43 y508.length co43, .int .i64 a0_4] 27 (0, 0)) (by (with_reducible repeat (first | refine jY ?_ _ | refine jZ ?_ | refine jX ?_ _)); exact BK498.out)) : gb526 ≠ gb498)); have n22_ := jM ((by rw [hg]; exact Nat.ne_of_lt (blk_lt (g := gb518) (o := .cells #[.slice Ao48 t511.length co48, .slice Ao53 t514.length co53] 49 (0, 0)) (by (with_reducible repeat (first | refine jY ?_ _ | refine jZ ?_ | refine jX ?_ _)); exact BK518.out)) : gb518 ≠ gb526)); have n23_ := jM ((by rw [hg]; exact Nat.ne_of_gt (blk_lt (g := gb518) (o := .cells #[.slice Ao48 t511.length co48, .slice Ao53 t514.length co53] 49 (0, 0)) (by (with_reducible repeat (first | refine jY ?_ _ | refine jZ ?_ | refine jX ?_ _)); exact BK518.out)) : gb526 ≠ gb518)); clear HO_495003; clear HO_496002; clear HO507; clear HO510; clear HO513; clear HO516; clear HO521; clear HO524; clear BK494; clear BK495; clear BK498; clear BK518; clear HB; have HO_495003 := n0_; have HO_496002 := n1_; have HO507 := n2_; have HO510 := n3_; have HO513 := n4_; have HO516 := n5_; have HO521 := n6_; have HO524 := n7_; have BK494 := n8_; have BK495 := n9_; have BK498 := n10_; have BK518 := n11_; have HB := n12_; have BK526 := n13_; have GW526 := n14_; have GE526 := n15_; have NB494_526 := n16_; have NB526_494 := n17_; have NB495_526 := n18_; have NB526_495 := n19_; have NB498_526 := n20_; have NB526_498 := n21_; have NB518_526 := n22_; have NB526_518 := n23_; clear n0_ n1_ n2_ n3_ n4_ n5_ n6_ n7_ n8_ n9_ n10_ n11_ n12_ n13_ n14_ n15_ n16_ n17_ n18_ n19_ n20_ n21_ n22_ n23_; clear hb hbox hg; obtain ⟨Ao57, co57, eo57⟩ := Kd.N_slice HO521.out; subst eo57; have hnb58 := NB526_494.out; have hnc58 := NB494_526.out; have hnb59 := NB526_495.out; have hnc59 := NB495_526.out; have hnb60 := NB526_498.out; have hnc60 := NB498_526.out; have hnb61 := NB526_518.out; have hnc61 := NB518_526.out; have hcz62_0 : w56.cell? ⟨gb526, 0, none⟩ = some (.slice none 0 0) := (jC BK526.out 0).trans rfl; have hcz62_1 : w56.cell? ⟨gb526, 1, none⟩ = some (.slice none 0 0) := (jC BK526.out 1).trans rfl; have hfz62_0 := jF BK526.out 0; have hfz62_1 := jF BK526.out 1; obtain ⟨Ao63, co63, eo63⟩ := Kd.N_slice HO524.out; subst eo63))
       (try simp only [Act.put, sA])
       go_cut [64] (fun v64 wc => ∃ (kq : Nat) (x64_24 : Bool), v64 = .bool x64_24 ∧ Aside0 (sl14_StatesMore.j1 kq true x64_24 t511 t514 t519 t522 = some r) ∧ Aside0 (kq ≤ kj5) ∧ Aside0 (Kd.V k64 64 wc w.heap.size (fun k_ => ((P0_3_ k_ ∨ P1_2_ k_) ∨ w.heap.size ≤ k_) ∧ some k_ ≠ ((.slice Ao43 y508.length co43) : Value).ownBlock ∧ some k_ ≠ ((.slice Ao48 t511.length co48) : Value).ownBlock ∧ some k_ ≠ ((.slice Ao53 t514.length co53) : Value).ownBlock ∧ some k_ ≠ ((.slice Ao57 t519.length co57) : Value).ownBlock ∧ some k_ ≠ ((.slice Ao63 t522.length co63) : Value).ownBlock ∧ k_ ≠ gb494 ∧ k_ ≠ gb495 ∧ k_ ≠ gb498 ∧ k_ ≠ gb518 ∧ k_ ≠ gb526) (.slice A0_3 l0_3.length c0_3) l0_3) ∧ Aside0 (Kd.V (Kd.int .i64) 29 wc w.heap.size (fun k_ => ((P0_3_ k_ ∨ P1_2_ k_) ∨ w.heap.size ≤ k_) ∧ some k_ ≠ ((.slice Ao43 y508.length co43) : Value).ownBlock ∧ some k_ ≠ ((.slice Ao48 t511.length co48) : Value).ownBlock ∧ some k_ ≠ ((.slice Ao53 t514.length co53) : Value).ownBlock ∧ some k_ ≠ ((.slice Ao57 t519.length co57) : Value).ownBlock ∧ some k_ ≠ ((.slice Ao63 t522.length co63) : Value).ownBlock ∧ k_ ≠ gb494 ∧ k_ ≠ gb495 ∧ k_ ≠ gb498 ∧ k_ ≠ gb518 ∧ k_ ≠ gb526) (.slice A1_2 l1_2.length c1_2) l1_2) ∧ Aside0 (Kd.N k64 64 wc w.heap.size (fun k_ => ((P0_3_ k_ ∨ P1_2_ k_) ∨ w.heap.size ≤ k_) ∧ some k_ ≠ ((.slice Ao48 t511.length co48) : Value).ownBlock ∧ some k_ ≠ ((.slice Ao53 t514.length co53) : Value).ownBlock ∧ some k_ ≠ ((.slice Ao57 t519.length co57) : Value).ownBlock ∧ some k_ ≠ ((.slice Ao63 t522.length co63) : Value).ownBlock ∧ k_ ≠ gb494 ∧ k_ ≠ gb495 ∧ k_ ≠ gb498 ∧ k_ ≠ gb518 ∧ k_ ≠ gb526) (.slice Ao43 y508.length co43) y508) ∧ Aside0 (Kd.N (Kd.slice 37 k37) 28 wc w.heap.size (fun k_ => ((P0_3_ k_ ∨ P1_2_ k_) ∨ w.heap.size ≤ k_) ∧ some k_ ≠ ((.slice Ao43 y508.length co43) : Value).ownBlock ∧ some k_ ≠ ((.slice Ao53 t514.length co53) : Value).ownBlock ∧ some k_ ≠ ((.slice Ao57 t519.length co57) : Value).ownBlock ∧ some k_ ≠ ((.slice Ao63 t522.length co63) : Value).ownBlock ∧ k_ ≠ gb494 ∧ k_ ≠ gb495 ∧ k_ ≠ gb498 ∧ k_ ≠ gb518 ∧ k_ ≠ gb526) (.slice Ao48 t511.length co48) t511) ∧ Aside0 (Kd.N (Kd.slice 3 (Kd.int .i64)) 58 wc w.heap.size (fun k_ => ((P0_3_ k_ ∨ P1_2_ k_) ∨ w.heap.size ≤ k_) ∧ some k_ ≠ ((.slice Ao43 y508.length co43) : Value).ownBlock ∧ some k_ ≠ ((.slice Ao48 t511.length co48) : Value).ownBlock ∧ some k_ ≠ ((.slice Ao57 t519.length co57) : Value).ownBlock ∧ some k_ ≠ ((.slice Ao63 t522.length co63) : Value).ownBlock ∧ k_ ≠ gb494 ∧ k_ ≠ gb495 ∧ k_ ≠ gb498 ∧ k_ ≠ gb518 ∧ k_ ≠ gb526) (.slice Ao53 t514.length co53) t514) ∧ Aside0 (Kd.N (Kd.slice 37 k37) 28 wc w.heap.size (fun k_ => ((P0_3_ k_ ∨ P1_2_ k_) ∨ w.heap.size ≤ k_) ∧ some k_ ≠ ((.slice Ao43 y508.length co43) : Value).ownBlock ∧ some k_ ≠ ((.slice Ao48 t511.length co48) : Value).ownBlock ∧ some k_ ≠ ((.slice Ao53 t514.length co53) : Value).ownBlock ∧ some k_ ≠ ((.slice Ao63 t522.length co63) : Value).ownBlock ∧ k_ ≠ gb494 ∧ k_ ≠ gb495 ∧ k_ ≠ gb498 ∧ k_ ≠ gb518 ∧ k_ ≠ gb526) (.slice Ao57 t519.length co57) t519) ∧ Aside0 (Kd.N (Kd.slice 3 (Kd.int .i64)) 58 wc w.heap.size (fun k_ => ((P0_3_ k_ ∨ P1_2_ k_) ∨ w.heap.size ≤ k_) ∧ some k_ ≠ ((.slice Ao43 y508.length co43) : Value).ownBlock ∧ some k_ ≠ ((.slice Ao48 t511.length co48) : Value).ownBlock ∧ some k_ ≠ ((.slice Ao53 t514.length co53) : Value).ownBlock ∧ some k_ ≠ ((.slice Ao57 t519.length co57) : Value).ownBlock ∧ k_ ≠ gb494 ∧ k_ ≠ gb495 ∧ k_ ≠ gb498 ∧ k_ ≠ gb518 ∧ k_ ≠ gb526) (.slice Ao63 t522.length co63) t522) ∧ Aside0 (wc.heap[gb494]? = some (.cells #[(.slice A0_0 l0_0.length c0_0), (.slice A0_1 l0_1.length c0_1), (.slice A0_2 l0_2.length c0_2), (.slice A0_3 l0_3.length c0_3), .int .i64 a0_4] 27 (0, 0))) ∧ Aside0 (wc.heap[gb495]? = some (.cells #[.string (⟨#[122, 122]⟩ : ByteArray), .int .i64 a1_1, (.slice A1_2 l1_2.length c1_2), .int .i64 a1_3] 64 (0, 0))) ∧ Aside0 (wc.heap[gb498]? = some (.cells #[(.slice A0_0 l0_0.length c0_0), (.slice A0_1 l0_1.length c0_1), (.slice A0_2 l0_2.length c0_2), (.slice Ao43 y508.length co43), .int .i64 a0_4] 27 (0, 0))) ∧ Aside0 (wc.heap[gb518]? = some (.cells #[(.slice Ao48 t511.length co48), (.slice Ao53 t514.length co53)] 49 (0, 0))) ∧ Aside0 (wc.heap[gb526]? = some (.cells #[(.slice Ao57 t519.length co57), (.slice Ao63 t522.length co63)] 49 (0, 0))) ∧ Aside0 (Below w.heap.size w wc))
       case first =>
        have H := HC25.out
        clear HC25
        by_cases c64 : t517 = 0
        ·rw [if_pos c64] at H
         have c64b0 : (t517 == 0) = true := beq_iff_eq.mpr c64
         have c64b1 : (t517 != 0) = false := bne_eq_false_iff_eq.mpr c64
         clear c64
         (first | rw [c64b0] | (simp only [i64_w, i32_w]; rw [c64b0]) | skip)
         have H' := jM H
         clear H
         go_wp2
         go_meet
         case rel => exact ⟨_, ((t525 != 0)), (by first | rfl | (simp; done) | (simp [*]; done)), H', ⟨by have := HJ5.out; first | omega | exact Nat.le_refl _⟩, ⟨by (with_reducible repeat (first | apply jt | apply ju | apply jv)); exact Kd.V_mono (Kd.V_far (p := ⟨gb526, 1, none⟩) (Kd.V_far (p := ⟨gb526, 0, none⟩) (Kd.V_mono HO_495003.out (fun k_ hk => (⟨hk, hk.2⟩ : _ ∧ k_ ≠ gb526))) (fun _ hk => hk.2) (.slice Ao57 t519.length co57)) (fun _ hk => hk.2) (.slice Ao63 t522.length co63)) (fun _ hk => ⟨hk.1.1.1.1.1.1.1.1.1, ⟨hk.1.1.1.1.1.1.1.2, ⟨hk.1.1.1.1.1.1.2, ⟨hk.1.1.1.1.1.2, ⟨hk.1.1.1.2, ⟨hk.1.1.2, ⟨hk.1.1.1.1.1.1.1.1.2.2.1, ⟨hk.1.1.1.1.1.1.1.1.2.2.2.1, ⟨hk.1.1.1.1.1.1.1.1.2.2.2.2, ⟨hk.1.1.1.1.2, hk.1.2⟩⟩⟩⟩⟩⟩⟩⟩⟩⟩)⟩, ⟨by (with_reducible repeat (first | apply jt | apply ju | apply jv)); exact Kd.V_mono (Kd.V_far (p := ⟨gb526, 1, none⟩) (Kd.V_far (p := ⟨gb526, 0, none⟩) (Kd.V_mono HO_496002.out (fun k_ hk => (⟨hk, hk.2⟩ : _ ∧ k_ ≠ gb526))) (fun _ hk => hk.2) (.slice Ao57 t519.length co57)) (fun _ hk => hk.2) (.slice Ao63 t522.length co63)) (fun _ hk => ⟨hk.1.1.1.1.1.1.1.1.1, ⟨hk.1.1.1.1.1.1.1.2, ⟨hk.1.1.1.1.1.1.2, ⟨hk.1.1.1.1.1.2, ⟨hk.1.1.1.2, ⟨hk.1.1.2, ⟨hk.1.1.1.1.1.1.1.1.2.2.1, ⟨hk.1.1.1.1.1.1.1.1.2.2.2.1, ⟨hk.1.1.1.1.1.1.1.1.2.2.2.2, ⟨hk.1.1.1.1.2, hk.1.2⟩⟩⟩⟩⟩⟩⟩⟩⟩⟩)⟩, ⟨by (with_reducible repeat (first | apply jn | apply jo | apply jp)); exact Kd.N_mono (Kd.N_far (p := ⟨gb526, 1, none⟩) (Kd.N_far (p := ⟨gb526, 0, none⟩) (Kd.N_mono HO510.out (fun k_ hk => (⟨hk, hk.2⟩ : _ ∧ k_ ≠ gb526))) (fun _ hk => hk.2) (.slice Ao57 t519.length co57)) (fun _ hk => hk.2) (.slice Ao63 t522.length co63)) (fun _ hk => ⟨hk.1.1.1.1.1.1.1.1, ⟨hk.1.1.1.1.1.1.2, ⟨hk.1.1.1.1.1.2, ⟨hk.1.1.1.2, ⟨hk.1.1.2, ⟨hk.1.1.1.1.1.1.1.2.1, ⟨hk.1.1.1.1.1.1.1.2.2.1, ⟨hk.1.1.1.1.1.1.1.2.2.2, ⟨hk.1.1.1.1.2, hk.1.2⟩⟩⟩⟩⟩⟩⟩⟩⟩)⟩, ⟨by (with_reducible repeat (first | apply jn | apply jo | apply jp)); exact Kd.N_mono (Kd.N_far (p := ⟨gb526, 1, none⟩) (Kd.N_far (p := ⟨gb526, 0, none⟩) (Kd.N_mono HO513.out (fun k_ hk => (⟨hk, hk.2⟩ : _ ∧ k_ ≠ gb526))) (fun _ hk => hk.2) (.slice Ao57 t519.length co57)) (fun _ hk => hk.2) (.slice Ao63 t522.length co63)) (fun _ hk => ⟨hk.1.1.1.1.1.1, ⟨hk.1.1.1.1.1.2.2.2.1, ⟨hk.1.1.1.1.1.2.1, ⟨hk.1.1.1.2, ⟨hk.1.1.2, ⟨hk.1.1.1.1.1.2.2.2.2.1, ⟨hk.1.1.1.1.1.2.2.2.2.2.1, ⟨hk.1.1.1.1.1.2.2.2.2.2.2, ⟨hk.1.1.1.1.2, hk.1.2⟩⟩⟩⟩⟩⟩⟩⟩⟩)⟩, ⟨by (with_reducible repeat (first | apply jn | apply jo | apply jp)); exact Kd.N_mono (Kd.N_far (p := ⟨gb526, 1, none⟩) (Kd.N_far (p := ⟨gb526, 0, none⟩) (Kd.N_mono HO516.out (fun k_ hk => (⟨hk, hk.2⟩ : _ ∧ k_ ≠ gb526))) (fun _ hk => hk.2) (.slice Ao57 t519.length co57)) (fun _ hk => hk.2) (.slice Ao63 t522.length co63)) (fun _ hk => ⟨hk.1.1.1.1.1.1, ⟨hk.1.1.1.1.1.2.2.2.1, ⟨hk.1.1.1.1.1.2.1, ⟨hk.1.1.1.2, ⟨hk.1.1.2, ⟨hk.1.1.1.1.1.2.2.2.2.1, ⟨hk.1.1.1.1.1.2.2.2.2.2.1, ⟨hk.1.1.1.1.1.2.2.2.2.2.2, ⟨hk.1.1.1.1.2, hk.1.2⟩⟩⟩⟩⟩⟩⟩⟩⟩)⟩, ⟨by (with_reducible repeat (first | apply jn | apply jo | apply jp)); exact Kd.N_mono (Kd.N_far (p := ⟨gb526, 1, none⟩) (Kd.N_far (p := ⟨gb526, 0, none⟩) (Kd.N_mono HO521.out (fun k_ hk => (⟨hk, hk.2⟩ : _ ∧ k_ ≠ gb526))) (fun _ hk => hk.2) (.slice Ao57 t519.length co57)) (fun _ hk => hk.2) (.slice Ao63 t522.length co63)) (fun _ hk => ⟨hk.1.1.1, ⟨hk.1.1.2.2.2.1, ⟨hk.1.1.2.2.2.2.1, ⟨hk.1.1.2.2.2.2.2.1, ⟨hk.1.1.2.1, ⟨hk.1.1.2.2.2.2.2.2.1, ⟨hk.1.1.2.2.2.2.2.2.2.1, ⟨hk.1.1.2.2.2.2.2.2.2.2.1, ⟨hk.1.1.2.2.2.2.2.2.2.2.2, hk.1.2⟩⟩⟩⟩⟩⟩⟩⟩⟩)⟩, ⟨by (with_reducible repeat (first | apply jn | apply jo | apply jp)); exact Kd.N_mono (Kd.N_far (p := ⟨gb526, 1, none⟩) (Kd.N_far (p := ⟨gb526, 0, none⟩) (Kd.N_mono HO524.out (fun k_ hk => (⟨hk, hk.2⟩ : _ ∧ k_ ≠ gb526))) (fun _ hk => hk.2) (.slice Ao57 t519.length co57)) (fun _ hk => hk.2) (.slice Ao63 t522.length co63)) (fun _ hk => ⟨hk.1.1.1, ⟨hk.1.1.2.2.2.1, ⟨hk.1.1.2.2.2.2.1, ⟨hk.1.1.2.2.2.2.2.1, ⟨hk.1.1.2.1, ⟨hk.1.1.2.2.2.2.2.2.1, ⟨hk.1.1.2.2.2.2.2.2.2.1, ⟨hk.1.1.2.2.2.2.2.2.2.2.1, ⟨hk.1.1.2.2.2.2.2.2.2.2.2, hk.1.2⟩⟩⟩⟩⟩⟩⟩⟩⟩)⟩, ⟨by (with_reducible repeat (first | refine jY ?_ _ | refine jZ ?_ | refine jX ?_ _)); refine blk_far ?_ NB494_526.out _; (with_reducible repeat (first | refine jY ?_ _ | refine jZ ?_ | refine jX ?_ _)); refine blk_far ?_ NB494_526.out _; (with_reducible repeat (first | refine jY ?_ _ | refine jZ ?_ | refine jX ?_ _)); exact BK494.out⟩, ⟨by (with_reducible repeat (first | refine jY ?_ _ | refine jZ ?_ | refine jX ?_ _)); refine blk_far ?_ NB495_526.out _; (with_reducible repeat (first | refine jY ?_ _ | refine jZ ?_ | refine jX ?_ _)); refine blk_far ?_ NB495_526.out _; (with_reducible repeat (first | refine jY ?_ _ | refine jZ ?_ | refine jX ?_ _)); exact BK495.out⟩, ⟨by (with_reducible repeat (first | refine jY ?_ _ | refine jZ ?_ | refine jX ?_ _)); refine blk_far ?_ NB498_526.out _; (with_reducible repeat (first | refine jY ?_ _ | refine jZ ?_ | refine jX ?_ _)); refine blk_far ?_ NB498_526.out _; (with_reducible repeat (first | refine jY ?_ _ | refine jZ ?_ | refine jX ?_ _)); exact BK498.out⟩, ⟨by (with_reducible repeat (first | refine jY ?_ _ | refine jZ ?_ | refine jX ?_ _)); refine blk_far ?_ NB518_526.out _; (with_reducible repeat (first | refine jY ?_ _ | refine jZ ?_ | refine jX ?_ _)); refine blk_far ?_ NB518_526.out _; (with_reducible repeat (first | refine jY ?_ _ | refine jZ ?_ | refine jX ?_ _)); exact BK518.out⟩, ⟨by (with_reducible repeat (first | refine jY ?_ _ | refine jZ ?_ | refine jX ?_ _)); refine blk_put (cs := #[.slice Ao57 t519.length co57, .slice none 0 0]) ?_ 1 _ rfl; (with_reducible repeat (first | refine jY ?_ _ | refine jZ ?_ | refine jX ?_ _)); refine blk_put (cs := #[.slice none 0 0, .slice none 0 0]) ?_ 0 _ rfl; (with_reducible repeat (first | refine jY ?_ _ | refine jZ ?_ | refine jX ?_ _)); exact BK526.out⟩, ⟨by repeat (first | (with_reducible first | exact HB.out | apply jA | apply jN | apply jD | refine jS ?_ GE494.out | refine jS ?_ GE495.out | refine jS ?_ GE498.out | refine jS ?_ GE518.out | refine jS ?_ GE526.out) | exact HB.out)⟩⟩
        ·rw [if_neg c64] at H
         have c64b0 : (t517 == 0) = false := beq_eq_false_iff_ne.mpr c64
         have c64b1 : (t517 != 0) = true := bne_iff_ne.mpr c64
         (first | rw [c64b0] | (simp only [i64_w, i32_w]; rw [c64b0]) | skip)
         have H' := jM H
         clear H
         go_wp2
         go_meet
         case rel => exact ⟨_, (true), (by first | rfl | (simp; done) | (simp [*]; done)), H', ⟨by have := HJ5.out; first | omega | exact Nat.le_refl _⟩, ⟨by (with_reducible repeat (first | apply jt | apply ju | apply jv)); exact Kd.V_mono (Kd.V_far (p := ⟨gb526, 1, none⟩) (Kd.V_far (p := ⟨gb526, 0, none⟩) (Kd.V_mono HO_495003.out (fun k_ hk => (⟨hk, hk.2⟩ : _ ∧ k_ ≠ gb526))) (fun _ hk => hk.2) (.slice Ao57 t519.length co57)) (fun _ hk => hk.2) (.slice Ao63 t522.length co63)) (fun _ hk => ⟨hk.1.1.1.1.1.1.1.1.1, ⟨hk.1.1.1.1.1.1.1.2, ⟨hk.1.1.1.1.1.1.2, ⟨hk.1.1.1.1.1.2, ⟨hk.1.1.1.2, ⟨hk.1.1.2, ⟨hk.1.1.1.1.1.1.1.1.2.2.1, ⟨hk.1.1.1.1.1.1.1.1.2.2.2.1, ⟨hk.1.1.1.1.1.1.1.1.2.2.2.2, ⟨hk.1.1.1.1.2, hk.1.2⟩⟩⟩⟩⟩⟩⟩⟩⟩⟩)⟩, ⟨by (with_reducible repeat (first | apply jt | apply ju | apply jv)); exact Kd.V_mono (Kd.V_far (p := ⟨gb526, 1, none⟩) (Kd.V_far (p := ⟨gb526, 0, none⟩) (Kd.V_mono HO_496002.out (fun k_ hk => (⟨hk, hk.2⟩ : _ ∧ k_ ≠ gb526))) (fun _ hk => hk.2) (.slice Ao57 t519.length co57)) (fun _ hk => hk.2) (.slice Ao63 t522.length co63)) (fun _ hk => ⟨hk.1.1.1.1.1.1.1.1.1, ⟨hk.1.1.1.1.1.1.1.2, ⟨hk.1.1.1.1.1.1.2, ⟨hk.1.1.1.1.1.2, ⟨hk.1.1.1.2, ⟨hk.1.1.2, ⟨hk.1.1.1.1.1.1.1.1.2.2.1, ⟨hk.1.1.1.1.1.1.1.1.2.2.2.1, ⟨hk.1.1.1.1.1.1.1.1.2.2.2.2, ⟨hk.1.1.1.1.2, hk.1.2⟩⟩⟩⟩⟩⟩⟩⟩⟩⟩)⟩, ⟨by (with_reducible repeat (first | apply jn | apply jo | apply jp)); exact Kd.N_mono (Kd.N_far (p := ⟨gb526, 1, none⟩) (Kd.N_far (p := ⟨gb526, 0, none⟩) (Kd.N_mono HO510.out (fun k_ hk => (⟨hk, hk.2⟩ : _ ∧ k_ ≠ gb526))) (fun _ hk => hk.2) (.slice Ao57 t519.length co57)) (fun _ hk => hk.2) (.slice Ao63 t522.length co63)) (fun _ hk => ⟨hk.1.1.1.1.1.1.1.1, ⟨hk.1.1.1.1.1.1.2, ⟨hk.1.1.1.1.1.2, ⟨hk.1.1.1.2, ⟨hk.1.1.2, ⟨hk.1.1.1.1.1.1.1.2.1, ⟨hk.1.1.1.1.1.1.1.2.2.1, ⟨hk.1.1.1.1.1.1.1.2.2.2, ⟨hk.1.1.1.1.2, hk.1.2⟩⟩⟩⟩⟩⟩⟩⟩⟩)⟩, ⟨by (with_reducible repeat (first | apply jn | apply jo | apply jp)); exact Kd.N_mono (Kd.N_far (p := ⟨gb526, 1, none⟩) (Kd.N_far (p := ⟨gb526, 0, none⟩) (Kd.N_mono HO513.out (fun k_ hk => (⟨hk, hk.2⟩ : _ ∧ k_ ≠ gb526))) (fun _ hk => hk.2) (.slice Ao57 t519.length co57)) (fun _ hk => hk.2) (.slice Ao63 t522.length co63)) (fun _ hk => ⟨hk.1.1.1.1.1.1, ⟨hk.1.1.1.1.1.2.2.2.1, ⟨hk.1.1.1.1.1.2.1, ⟨hk.1.1.1.2, ⟨hk.1.1.2, ⟨hk.1.1.1.1.1.2.2.2.2.1, ⟨hk.1.1.1.1.1.2.2.2.2.2.1, ⟨hk.1.1.1.1.1.2.2.2.2.2.2, ⟨hk.1.1.1.1.2, hk.1.2⟩⟩⟩⟩⟩⟩⟩⟩⟩)⟩, ⟨by (with_reducible repeat (first | apply jn | apply jo | apply jp)); exact Kd.N_mono (Kd.N_far (p := ⟨gb526, 1, none⟩) (Kd.N_far (p := ⟨gb526, 0, none⟩) (Kd.N_mono HO516.out (fun k_ hk => (⟨hk, hk.2⟩ : _ ∧ k_ ≠ gb526))) (fun _ hk => hk.2) (.slice Ao57 t519.length co57)) (fun _ hk => hk.2) (.slice Ao63 t522.length co63)) (fun _ hk => ⟨hk.1.1.1.1.1.1, ⟨hk.1.1.1.1.1.2.2.2.1, ⟨hk.1.1.1.1.1.2.1, ⟨hk.1.1.1.2, ⟨hk.1.1.2, ⟨hk.1.1.1.1.1.2.2.2.2.1, ⟨hk.1.1.1.1.1.2.2.2.2.2.1, ⟨hk.1.1.1.1.1.2.2.2.2.2.2, ⟨hk.1.1.1.1.2, hk.1.2⟩⟩⟩⟩⟩⟩⟩⟩⟩)⟩, ⟨by (with_reducible repeat (first | apply jn | apply jo | apply jp)); exact Kd.N_mono (Kd.N_far (p := ⟨gb526, 1, none⟩) (Kd.N_far (p := ⟨gb526, 0, none⟩) (Kd.N_mono HO521.out (fun k_ hk => (⟨hk, hk.2⟩ : _ ∧ k_ ≠ gb526))) (fun _ hk => hk.2) (.slice Ao57 t519.length co57)) (fun _ hk => hk.2) (.slice Ao63 t522.length co63)) (fun _ hk => ⟨hk.1.1.1, ⟨hk.1.1.2.2.2.1, ⟨hk.1.1.2.2.2.2.1, ⟨hk.1.1.2.2.2.2.2.1, ⟨hk.1.1.2.1, ⟨hk.1.1.2.2.2.2.2.2.1, ⟨hk.1.1.2.2.2.2.2.2.2.1, ⟨hk.1.1.2.2.2.2.2.2.2.2.1, ⟨hk.1.1.2.2.2.2.2.2.2.2.2, hk.1.2⟩⟩⟩⟩⟩⟩⟩⟩⟩)⟩, ⟨by (with_reducible repeat (first | apply jn | apply jo | apply jp)); exact Kd.N_mono (Kd.N_far (p := ⟨gb526, 1, none⟩) (Kd.N_far (p := ⟨gb526, 0, none⟩) (Kd.N_mono HO524.out (fun k_ hk => (⟨hk, hk.2⟩ : _ ∧ k_ ≠ gb526))) (fun _ hk => hk.2) (.slice Ao57 t519.length co57)) (fun _ hk => hk.2) (.slice Ao63 t522.length co63)) (fun _ hk => ⟨hk.1.1.1, ⟨hk.1.1.2.2.2.1, ⟨hk.1.1.2.2.2.2.1, ⟨hk.1.1.2.2.2.2.2.1, ⟨hk.1.1.2.1, ⟨hk.1.1.2.2.2.2.2.2.1, ⟨hk.1.1.2.2.2.2.2.2.2.1, ⟨hk.1.1.2.2.2.2.2.2.2.2.1, ⟨hk.1.1.2.2.2.2.2.2.2.2.2, hk.1.2⟩⟩⟩⟩⟩⟩⟩⟩⟩)⟩, ⟨by (with_reducible repeat (first | refine jY ?_ _ | refine jZ ?_ | refine jX ?_ _)); refine blk_far ?_ NB494_526.out _; (with_reducible repeat (first | refine jY ?_ _ | refine jZ ?_ | refine jX ?_ _)); refine blk_far ?_ NB494_526.out _; (with_reducible repeat (first | refine jY ?_ _ | refine jZ ?_ | refine jX ?_ _)); exact BK494.out⟩, ⟨by (with_reducible repeat (first | refine jY ?_ _ | refine jZ ?_ | refine jX ?_ _)); refine blk_far ?_ NB495_526.out _; (with_reducible repeat (first | refine jY ?_ _ | refine jZ ?_ | refine jX ?_ _)); refine blk_far ?_ NB495_526.out _; (with_reducible repeat (first | refine jY ?_ _ | refine jZ ?_ | refine jX ?_ _)); exact BK495.out⟩, ⟨by (with_reducible repeat (first | refine jY ?_ _ | refine jZ ?_ | refine jX ?_ _)); refine blk_far ?_ NB498_526.out _; (with_reducible repeat (first | refine jY ?_ _ | refine jZ ?_ | refine jX ?_ _)); refine blk_far ?_ NB498_526.out _; (with_reducible repeat (first | refine jY ?_ _ | refine jZ ?_ | refine jX ?_ _)); exact BK498.out⟩, ⟨by (with_reducible repeat (first | refine jY ?_ _ | refine jZ ?_ | refine jX ?_ _)); refine blk_far ?_ NB518_526.out _; (with_reducible repeat (first | refine jY ?_ _ | refine jZ ?_ | refine jX ?_ _)); refine blk_far ?_ NB518_526.out _; (with_reducible repeat (first | refine jY ?_ _ | refine jZ ?_ | refine jX ?_ _)); exact BK518.out⟩, ⟨by (with_reducible repeat (first | refine jY ?_ _ | refine jZ ?_ | refine jX ?_ _)); refine blk_put (cs := #[.slice Ao57 t519.length co57, .slice none 0 0]) ?_ 1 _ rfl; (with_reducible repeat (first | refine jY ?_ _ | refine jZ ?_ | refine jX ?_ _)); refine blk_put (cs := #[.slice none 0 0, .slice none 0 0]) ?_ 0 _ rfl; (with_reducible repeat (first | refine jY ?_ _ | refine jZ ?_ | refine jX ?_ _)); exact BK526.out⟩, ⟨by repeat (first | (with_reducible first | exact HB.out | apply jA | apply jN | apply jD | refine jS ?_ GE494.out | refine jS ?_ GE495.out | refine jS ?_ GE498.out | refine jS ?_ GE518.out | refine jS ?_ GE526.out) | exact HB.out)⟩⟩
       case rest =>
        clear HC25
        try clear c1
        try clear c2
        try clear p2
        try clear c3
        try clear c4
        try clear c5
        try clear c6
        try clear c20
        try clear c21
        try clear c22
        try clear c23
        try clear c26
        try clear c29
        try clear c30
        try clear c49
        try clear c50
        try clear c51
        try clear c58
        try clear c59
        try clear c60
        try clear c61
        try clear c64
        try clear c64b0
        try clear c64b1
        try clear hcz27_0
        try clear hcz27_1
        try clear hcz27_2
        try clear hcz27_3
        try clear hcz27_4
        try clear hcz31_0
        try clear hcz31_1
        try clear hcz31_2
        try clear hcz31_3
        try clear hcz31_4
        try clear hcz32_0
        try clear hcz32_1
        try clear hcz32_2
        try clear hcz32_3
        try clear hcz45_0
        try clear hcz45_1
        try clear hcz45_2
        try clear hcz45_3
        try clear hcz45_4
        try clear hcz52_0
        try clear hcz52_1
        try clear hcz54_0
        try clear hcz54_1
        try clear hcz54_2
        try clear hcz54_3
        try clear hcz54_4
        try clear hcz62_0
        try clear hcz62_1
        try clear hfz16_0
        try clear hfz16_1
        try clear hfz16_2
        try clear hfz16_3
        try clear hfz18_0
        try clear hfz18_1
        try clear hfz18_2
        try clear hfz18_3
        try clear hfz19_0
        try clear hfz19_1
        try clear hfz19_2
        try clear hfz19_3
        try clear hfz19_4
        try clear hfz27_0
        try clear hfz27_1
        try clear hfz27_2
        try clear hfz27_3
        try clear hfz27_4
        try clear hfz31_0
        try clear hfz31_1
        try clear hfz31_2
        try clear hfz31_3
        try clear hfz31_4
        try clear hfz32_0
        try clear hfz32_1
        try clear hfz32_2
        try clear hfz32_3
        try clear hfz45_0
        try clear hfz45_1
        try clear hfz45_2
        try clear hfz45_3
        try clear hfz45_4
        try clear hfz52_0
        try clear hfz52_1
        try clear hfz54_0
        try clear hfz54_1
        try clear hfz54_2
        try clear hfz54_3
        try clear hfz54_4
        try clear hfz62_0
        try clear hfz62_1
        obtain ⟨kq, x64_24, rfl, HA, HJ24, HO_495003, HO_496002, HO_499003, HO_519000, HO_519001, HO_527000, HO_527001, BK494, BK495, BK498, BK518, BK526, HB⟩ := hcut
        cases kq with
        | zero => exact absurd HA.out (by simp [sl14_StatesMore.j1])
        | succ kj24 =>
         have H := HA.out
         clear HA
         simp only [sl14_StatesMore.j1] at H
         by_cases c65 : x64_24 = true
         ·subst c65
          have H1 : (some true) = some r := by rw [if_pos rfl] at H; exact H
          clear H
          have H := H1
          clear H1
          obtain rfl := Option.some.inj H
          go_wp2
          go_ret
          exact ⟨by first | rfl | (simp [errW_none, errW_some] <;> rfl) | (simp [*, errW_none, errW_some] <;> rfl), by repeat (first | (with_reducible first | exact HB.out | apply jA | apply jN | apply jD | refine jS ?_ GE494.out | refine jS ?_ GE495.out | refine jS ?_ GE498.out | refine jS ?_ GE518.out | refine jS ?_ GE526.out) | exact HB.out)⟩
         ·replace c65 := Bool.eq_false_iff.mpr c65
          subst c65
          have H1 : (sl14_StatesMore.l0 kj24 true 0 t511 t514 t519 t522) = some r := by rw [if_neg (show ¬ (false = true) by decide)] at H; exact H
          clear H
          have H := H1
          clear H1
          have H' := jM H
          clear H
          go_wp2
          go_loopg [12] kj24 (fun kq v12 w' => ∃ (x12_3 : Int), v12 = .int .i64 x12_3 ∧ Aside0 (sl14_StatesMore.l0 kq true x12_3 t511 t514 t519 t522 = some r) ∧ Aside0 (kq ≤ kj24) ∧ Aside0 (Kd.V k64 64 w' w.heap.size (fun k_ => ((P0_3_ k_ ∨ P1_2_ k_) ∨ w.heap.size ≤ k_) ∧ some k_ ≠ ((.slice Ao43 y508.length co43) : Value).ownBlock ∧ some k_ ≠ ((.slice Ao48 t511.length co48) : Value).ownBlock ∧ some k_ ≠ ((.slice Ao53 t514.length co53) : Value).ownBlock ∧ some k_ ≠ ((.slice Ao57 t519.length co57) : Value).ownBlock ∧ some k_ ≠ ((.slice Ao63 t522.length co63) : Value).ownBlock ∧ k_ ≠ gb494 ∧ k_ ≠ gb495 ∧ k_ ≠ gb498 ∧ k_ ≠ gb518 ∧ k_ ≠ gb526) (.slice A0_3 l0_3.length c0_3) l0_3) ∧ Aside0 (Kd.V (Kd.int .i64) 29 w' w.heap.size (fun k_ => ((P0_3_ k_ ∨ P1_2_ k_) ∨ w.heap.size ≤ k_) ∧ some k_ ≠ ((.slice Ao43 y508.length co43) : Value).ownBlock ∧ some k_ ≠ ((.slice Ao48 t511.length co48) : Value).ownBlock ∧ some k_ ≠ ((.slice Ao53 t514.length co53) : Value).ownBlock ∧ some k_ ≠ ((.slice Ao57 t519.length co57) : Value).ownBlock ∧ some k_ ≠ ((.slice Ao63 t522.length co63) : Value).ownBlock ∧ k_ ≠ gb494 ∧ k_ ≠ gb495 ∧ k_ ≠ gb498 ∧ k_ ≠ gb518 ∧ k_ ≠ gb526) (.slice A1_2 l1_2.length c1_2) l1_2) ∧ Aside0 (Kd.N k64 64 w' w.heap.size (fun k_ => ((P0_3_ k_ ∨ P1_2_ k_) ∨ w.heap.size ≤ k_) ∧ some k_ ≠ ((.slice Ao48 t511.length co48) : Value).ownBlock ∧ some k_ ≠ ((.slice Ao53 t514.length co53) : Value).ownBlock ∧ some k_ ≠ ((.slice Ao57 t519.length co57) : Value).ownBlock ∧ some k_ ≠ ((.slice Ao63 t522.length co63) : Value).ownBlock ∧ k_ ≠ gb494 ∧ k_ ≠ gb495 ∧ k_ ≠ gb498 ∧ k_ ≠ gb518 ∧ k_ ≠ gb526) (.slice Ao43 y508.length co43) y508) ∧ Aside0 (Kd.N (Kd.slice 37 k37) 28 w' w.heap.size (fun k_ => ((P0_3_ k_ ∨ P1_2_ k_) ∨ w.heap.size ≤ k_) ∧ some k_ ≠ ((.slice Ao43 y508.length co43) : Value).ownBlock ∧ some k_ ≠ ((.slice Ao53 t514.length co53) : Value).ownBlock ∧ some k_ ≠ ((.slice Ao57 t519.length co57) : Value).ownBlock ∧ some k_ ≠ ((.slice Ao63 t522.length co63) : Value).ownBlock ∧ k_ ≠ gb494 ∧ k_ ≠ gb495 ∧ k_ ≠ gb498 ∧ k_ ≠ gb518 ∧ k_ ≠ gb526) (.slice Ao48 t511.length co48) t511) ∧ Aside0 (Kd.N (Kd.slice 3 (Kd.int .i64)) 58 w' w.heap.size (fun k_ => ((P0_3_ k_ ∨ P1_2_ k_) ∨ w.heap.size ≤ k_) ∧ some k_ ≠ ((.slice Ao43 y508.length co43) : Value).ownBlock ∧ some k_ ≠ ((.slice Ao48 t511.length co48) : Value).ownBlock ∧ some k_ ≠ ((.slice Ao57 t519.length co57) : Value).ownBlock ∧ some k_ ≠ ((.slice Ao63 t522.length co63) : Value).ownBlock ∧ k_ ≠ gb494 ∧ k_ ≠ gb495 ∧ k_ ≠ gb498 ∧ k_ ≠ gb518 ∧ k_ ≠ gb526) (.slice Ao53 t514.length co53) t514) ∧ Aside0 (Kd.N (Kd.slice 37 k37) 28 w' w.heap.size (fun k_ => ((P0_3_ k_ ∨ P1_2_ k_) ∨ w.heap.size ≤ k_) ∧ some k_ ≠ ((.slice Ao43 y508.length co43) : Value).ownBlock ∧ some k_ ≠ ((.slice Ao48 t511.length co48) : Value).ownBlock ∧ some k_ ≠ ((.slice Ao53 t514.length co53) : Value).ownBlock ∧ some k_ ≠ ((.slice Ao63 t522.length co63) : Value).ownBlock ∧ k_ ≠ gb494 ∧ k_ ≠ gb495 ∧ k_ ≠ gb498 ∧ k_ ≠ gb518 ∧ k_ ≠ gb526) (.slice Ao57 t519.length co57) t519) ∧ Aside0 (Kd.N (Kd.slice 3 (Kd.int .i64)) 58 w' w.heap.size (fun k_ => ((P0_3_ k_ ∨ P1_2_ k_) ∨ w.heap.size ≤ k_) ∧ some k_ ≠ ((.slice Ao43 y508.length co43) : Value).ownBlock ∧ some k_ ≠ ((.slice Ao48 t511.length co48) : Value).ownBlock ∧ some k_ ≠ ((.slice Ao53 t514.length co53) : Value).ownBlock ∧ some k_ ≠ ((.slice Ao57 t519.length co57) : Value).ownBlock ∧ k_ ≠ gb494 ∧ k_ ≠ gb495 ∧ k_ ≠ gb498 ∧ k_ ≠ gb518 ∧ k_ ≠ gb526) (.slice Ao63 t522.length co63) t522) ∧ Aside0 (w'.heap[gb494]? = some (.cells #[(.slice A0_0 l0_0.length c0_0), (.slice A0_1 l0_1.length c0_1), (.slice A0_2 l0_2.length c0_2), (.slice A0_3 l0_3.length c0_3), .int .i64 a0_4] 27 (0, 0))) ∧ Aside0 (w'.heap[gb495]? = some (.cells #[.string (⟨#[122, 122]⟩ : ByteArray), .int .i64 a1_1, (.slice A1_2 l1_2.length c1_2), .int .i64 a1_3] 64 (0, 0))) ∧ Aside0 (w'.heap[gb498]? = some (.cells #[(.slice A0_0 l0_0.length c0_0), (.slice A0_1 l0_1.length c0_1), (.slice A0_2 l0_2.length c0_2), (.slice Ao43 y508.length co43), .int .i64 a0_4] 27 (0, 0))) ∧ Aside0 (w'.heap[gb518]? = some (.cells #[(.slice Ao48 t511.length co48), (.slice Ao53 t514.length co53)] 49 (0, 0))) ∧ Aside0 (w'.heap[gb526]? = some (.cells #[(.slice Ao57 t519.length co57), (.slice Ao63 t522.length co63)] 49 (0, 0))) ∧ Aside0 (Below w.heap.size w w'))
          case atStart => exact ⟨(0), (by first | rfl | (simp; done) | (simp [*]; done)), H', ⟨Nat.le_refl _⟩, ⟨by (with_reducible repeat (first | apply jt | apply ju | apply jv)); exact HO_495003.out⟩, ⟨by (with_reducible repeat (first | apply jt | apply ju | apply jv)); exact HO_496002.out⟩, ⟨by (with_reducible repeat (first | apply jn | apply jo | apply jp)); exact HO_499003.out⟩, ⟨by (with_reducible repeat (first | apply jn | apply jo | apply jp)); exact HO_519000.out⟩, ⟨by (with_reducible repeat (first | apply jn | apply jo | apply jp)); exact HO_519001.out⟩, ⟨by (with_reducible repeat (first | apply jn | apply jo | apply jp)); exact HO_527000.out⟩, ⟨by (with_reducible repeat (first | apply jn | apply jo | apply jp)); exact HO_527001.out⟩, ⟨by (with_reducible repeat (first | refine jY ?_ _ | refine jZ ?_ | refine jX ?_ _)); exact BK494.out⟩, ⟨by (with_reducible repeat (first | refine jY ?_ _ | refine jZ ?_ | refine jX ?_ _)); exact BK495.out⟩, ⟨by (with_reducible repeat (first | refine jY ?_ _ | refine jZ ?_ | refine jX ?_ _)); exact BK498.out⟩, ⟨by (with_reducible repeat (first | refine jY ?_ _ | refine jZ ?_ | refine jX ?_ _)); exact BK518.out⟩, ⟨by (with_reducible repeat (first | refine jY ?_ _ | refine jZ ?_ | refine jX ?_ _)); exact BK526.out⟩, ⟨by repeat (first | (with_reducible first | exact HB.out | apply jA | apply jN | apply jD | refine jS ?_ GE494.out | refine jS ?_ GE495.out | refine jS ?_ GE498.out | refine jS ?_ GE518.out | refine jS ?_ GE526.out) | exact HB.out)⟩⟩
          case round =>
           clear H'
           try clear c1
           try clear c2
           try clear p2
           try clear c3
           try clear c4
           try clear c5
           try clear c6
           try clear c20
           try clear c21
           try clear c22
           try clear c23
           try clear c26
           try clear c29
           try clear c30
           try clear c49
           try clear c50
           try clear c51
           try clear c58
           try clear c59
           try clear c60
           try clear c61
           try clear c64
           try clear c64b0
           try clear c64b1
           try clear c65
           try clear hcz27_0
           try clear hcz27_1
           try clear hcz27_2
           try clear hcz27_3
           try clear hcz27_4
           try clear hcz31_0
           try clear hcz31_1
           try clear hcz31_2
           try clear hcz31_3
           try clear hcz31_4
           try clear hcz32_0
           try clear hcz32_1
           try clear hcz32_2
           try clear hcz32_3
           try clear hcz45_0
           try clear hcz45_1
           try clear hcz45_2
           try clear hcz45_3
           try clear hcz45_4
           try clear hcz52_0
           try clear hcz52_1
           try clear hcz54_0
           try clear hcz54_1
           try clear hcz54_2
           try clear hcz54_3
           try clear hcz54_4
           try clear hcz62_0
           try clear hcz62_1
           try clear hfz16_0
           try clear hfz16_1
           try clear hfz16_2
           try clear hfz16_3
           try clear hfz18_0
           try clear hfz18_1
           try clear hfz18_2
           try clear hfz18_3
           try clear hfz19_0
           try clear hfz19_1
           try clear hfz19_2
           try clear hfz19_3
           try clear hfz19_4
           try clear hfz27_0
           try clear hfz27_1
           try clear hfz27_2
           try clear hfz27_3
           try clear hfz27_4
           try clear hfz31_0
           try clear hfz31_1
           try clear hfz31_2
           try clear hfz31_3
           try clear hfz31_4
           try clear hfz32_0
           try clear hfz32_1
           try clear hfz32_2
           try clear hfz32_3
           try clear hfz45_0
           try clear hfz45_1
           try clear hfz45_2
           try clear hfz45_3
           try clear hfz45_4
           try clear hfz52_0
           try clear hfz52_1
           try clear hfz54_0
           try clear hfz54_1
           try clear hfz54_2
           try clear hfz54_3
           try clear hfz54_4
           try clear hfz62_0
           try clear hfz62_1
           try clear p2
           obtain ⟨x12_3, rfl, HA, HK3, HO_495003, HO_496002, HO_499003, HO_519000, HO_519001, HO_527000, HO_527001, BK494, BK495, BK498, BK518, BK526, HB⟩ := hrel
           cases gk with
           | zero => exact absurd HA.out (by simp [sl14_StatesMore.l0])
           | succ k3 =>
            have H := HA.out
            clear HA
            simp only [sl14_StatesMore.l0] at H
            by_cases c66 : x12_3 < (t511.length : Int)
            ·rw [if_pos c66] at H
             have c66b0 : decide (x12_3 < (t511.length : Int)) = true := decide_eq_true c66
             clear c66
             have H' := jM H
             clear H
             have hnb67 := NB518_494.out
             have hnc67 := NB494_518.out
             have hnb68 := NB518_495.out
             have hnc68 := NB495_518.out
             have hnb69 := NB518_498.out
             have hnc69 := NB498_518.out
             have hnb70 := NB518_526.out
             have hnc70 := NB526_518.out
             have hcz71_0 : wr.cell? ⟨gb518, 0, none⟩ = some (.slice Ao48 t511.length co48) := (jC BK518.out 0).trans rfl
             have hcz71_1 : wr.cell? ⟨gb518, 1, none⟩ = some (.slice Ao53 t514.length co53) := (jC BK518.out 1).trans rfl
             have hfz71_0 := jF BK518.out 0
             have hfz71_1 := jF BK518.out 1
             go_wp2
             go_loopg [13, 14] k3 (fun kq v13 v14 w' => ∃ (x13_4 : Bool) (x14_4 : Int), v13 = .bool x13_4 ∧ v14 = .int .i64 x14_4 ∧ Aside0 (sl14_StatesMore.l1 kq true x12_3 x13_4 x14_4 t511 t514 t519 t522 = some r) ∧ Aside0 (kq ≤ k3) ∧ Aside0 (Kd.V k64 64 w' w.heap.size (fun k_ => ((P0_3_ k_ ∨ P1_2_ k_) ∨ w.heap.size ≤ k_) ∧ some k_ ≠ ((.slice Ao43 y508.length co43) : Value).ownBlock ∧ some k_ ≠ ((.slice Ao48 t511.length co48) : Value).ownBlock ∧ some k_ ≠ ((.slice Ao53 t514.length co53) : Value).ownBlock ∧ some k_ ≠ ((.slice Ao57 t519.length co57) : Value).ownBlock ∧ some k_ ≠ ((.slice Ao63 t522.length co63) : Value).ownBlock ∧ k_ ≠ gb494 ∧ k_ ≠ gb495 ∧ k_ ≠ gb498 ∧ k_ ≠ gb518 ∧ k_ ≠ gb526) (.slice A0_3 l0_3.length c0_3) l0_3) ∧ Aside0 (Kd.V (Kd.int .i64) 29 w' w.heap.size (fun k_ => ((P0_3_ k_ ∨ P1_2_ k_) ∨ w.heap.size ≤ k_) ∧ some k_ ≠ ((.slice Ao43 y508.length co43) : Value).ownBlock ∧ some k_ ≠ ((.slice Ao48 t511.length co48) : Value).ownBlock ∧ some k_ ≠ ((.slice Ao53 t514.length co53) : Value).ownBlock ∧ some k_ ≠ ((.slice Ao57 t519.length co57) : Value).ownBlock ∧ some k_ ≠ ((.slice Ao63 t522.length co63) : Value).ownBlock ∧ k_ ≠ gb494 ∧ k_ ≠ gb495 ∧ k_ ≠ gb498 ∧ k_ ≠ gb518 ∧ k_ ≠ gb526) (.slice A1_2 l1_2.length c1_2) l1_2) ∧ Aside0 (Kd.N k64 64 w' w.heap.size (fun k_ => ((P0_3_ k_ ∨ P1_2_ k_) ∨ w.heap.size ≤ k_) ∧ some k_ ≠ ((.slice Ao48 t511.length co48) : Value).ownBlock ∧ some k_ ≠ ((.slice Ao53 t514.length co53) : Value).ownBlock ∧ some k_ ≠ ((.slice Ao57 t519.length co57) : Value).ownBlock ∧ some k_ ≠ ((.slice Ao63 t522.length co63) : Value).ownBlock ∧ k_ ≠ gb494 ∧ k_ ≠ gb495 ∧ k_ ≠ gb498 ∧ k_ ≠ gb518 ∧ k_ ≠ gb526) (.slice Ao43 y508.length co43) y508) ∧ Aside0 (Kd.N (Kd.slice 37 k37) 28 w' w.heap.size (fun k_ => ((P0_3_ k_ ∨ P1_2_ k_) ∨ w.heap.size ≤ k_) ∧ some k_ ≠ ((.slice Ao43 y508.length co43) : Value).ownBlock ∧ some k_ ≠ ((.slice Ao53 t514.length co53) : Value).ownBlock ∧ some k_ ≠ ((.slice Ao57 t519.length co57) : Value).ownBlock ∧ some k_ ≠ ((.slice Ao63 t522.length co63) : Value).ownBlock ∧ k_ ≠ gb494 ∧ k_ ≠ gb495 ∧ k_ ≠ gb498 ∧ k_ ≠ gb518 ∧ k_ ≠ gb526) (.slice Ao48 t511.length co48) t511) ∧ Aside0 (Kd.N (Kd.slice 3 (Kd.int .i64)) 58 w' w.heap.size (fun k_ => ((P0_3_ k_ ∨ P1_2_ k_) ∨ w.heap.size ≤ k_) ∧ some k_ ≠ ((.slice Ao43 y508.length co43) : Value).ownBlock ∧ some k_ ≠ ((.slice Ao48 t511.length co48) : Value).ownBlock ∧ some k_ ≠ ((.slice Ao57 t519.length co57) : Value).ownBlock ∧ some k_ ≠ ((.slice Ao63 t522.length co63) : Value).ownBlock ∧ k_ ≠ gb494 ∧ k_ ≠ gb495 ∧ k_ ≠ gb498 ∧ k_ ≠ gb518 ∧ k_ ≠ gb526) (.slice Ao53 t514.length co53) t514) ∧ Aside0 (Kd.N (Kd.slice 37 k37) 28 w' w.heap.size (fun k_ => ((P0_3_ k_ ∨ P1_2_ k_) ∨ w.heap.size ≤ k_) ∧ some k_ ≠ ((.slice Ao43 y508.length co43) : Value).ownBlock ∧ some k_ ≠ ((.slice Ao48 t511.length co48) : Value).ownBlock ∧ some k_ ≠ ((.slice Ao53 t514.length co53) : Value).ownBlock ∧ some k_ ≠ ((.slice Ao63 t522.length co63) : Value).ownBlock ∧ k_ ≠ gb494 ∧ k_ ≠ gb495 ∧ k_ ≠ gb498 ∧ k_ ≠ gb518 ∧ k_ ≠ gb526) (.slice Ao57 t519.length co57) t519) ∧ Aside0 (Kd.N (Kd.slice 3 (Kd.int .i64)) 58 w' w.heap.size (fun k_ => ((P0_3_ k_ ∨ P1_2_ k_) ∨ w.heap.size ≤ k_) ∧ some k_ ≠ ((.slice Ao43 y508.length co43) : Value).ownBlock ∧ some k_ ≠ ((.slice Ao48 t511.length co48) : Value).ownBlock ∧ some k_ ≠ ((.slice Ao53 t514.length co53) : Value).ownBlock ∧ some k_ ≠ ((.slice Ao57 t519.length co57) : Value).ownBlock ∧ k_ ≠ gb494 ∧ k_ ≠ gb495 ∧ k_ ≠ gb498 ∧ k_ ≠ gb518 ∧ k_ ≠ gb526) (.slice Ao63 t522.length co63) t522) ∧ Aside0 (w'.heap[gb494]? = some (.cells #[(.slice A0_0 l0_0.length c0_0), (.slice A0_1 l0_1.length c0_1), (.slice A0_2 l0_2.length c0_2), (.slice A0_3 l0_3.length c0_3), .int .i64 a0_4] 27 (0, 0))) ∧ Aside0 (w'.heap[gb495]? = some (.cells #[.string (⟨#[122, 122]⟩ : ByteArray), .int .i64 a1_1, (.slice A1_2 l1_2.length c1_2), .int .i64 a1_3] 64 (0, 0))) ∧ Aside0 (w'.heap[gb498]? = some (.cells #[(.slice A0_0 l0_0.length c0_0), (.slice A0_1 l0_1.length c0_1), (.slice A0_2 l0_2.length c0_2), (.slice Ao43 y508.length co43), .int .i64 a0_4] 27 (0, 0))) ∧ Aside0 (w'.heap[gb518]? = some (.cells #[(.slice Ao48 t511.length co48), (.slice Ao53 t514.length co53)] 49 (0, 0))) ∧ Aside0 (w'.heap[gb526]? = some (.cells #[(.slice Ao57 t519.length co57), (.slice Ao63 t522.length co63)] 49 (0, 0))) ∧ Aside0 (Below w.heap.size w w'))
             case atStart => exact ⟨(false), (0), (by first | rfl | (simp; done) | (simp [*]; done)), (by first | rfl | (simp; done) | (simp [*]; done)), H', ⟨Nat.le_refl _⟩, ⟨by (with_reducible repeat (first | apply jt | apply ju | apply jv)); exact HO_495003.out⟩, ⟨by (with_reducible repeat (first | apply jt | apply ju | apply jv)); exact HO_496002.out⟩, ⟨by (with_reducible repeat (first | apply jn | apply jo | apply jp)); exact HO_499003.out⟩, ⟨by (with_reducible repeat (first | apply jn | apply jo | apply jp)); exact HO_519000.out⟩, ⟨by (with_reducible repeat (first | apply jn | apply jo | apply jp)); exact HO_519001.out⟩, ⟨by (with_reducible repeat (first | apply jn | apply jo | apply jp)); exact HO_527000.out⟩, ⟨by (with_reducible repeat (first | apply jn | apply jo | apply jp)); exact HO_527001.out⟩, ⟨by (with_reducible repeat (first | refine jY ?_ _ | refine jZ ?_ | refine jX ?_ _)); exact BK494.out⟩, ⟨by (with_reducible repeat (first | refine jY ?_ _ | refine jZ ?_ | refine jX ?_ _)); exact BK495.out⟩, ⟨by (with_reducible repeat (first | refine jY ?_ _ | refine jZ ?_ | refine jX ?_ _)); exact BK498.out⟩, ⟨by (with_reducible repeat (first | refine jY ?_ _ | refine jZ ?_ | refine jX ?_ _)); exact BK518.out⟩, ⟨by (with_reducible repeat (first | refine jY ?_ _ | refine jZ ?_ | refine jX ?_ _)); exact BK526.out⟩, ⟨by repeat (first | (with_reducible first | exact HB.out | apply jA | apply jN | apply jD | refine jS ?_ GE494.out | refine jS ?_ GE495.out | refine jS ?_ GE498.out | refine jS ?_ GE518.out | refine jS ?_ GE526.out) | exact HB.out)⟩⟩
             case round =>
              clear H'
              try clear c1
              try clear c2
              try clear p2
              try clear c3
              try clear c4
              try clear c5
              try clear c6
              try clear c7
              try clear c20
              try clear c21
              try clear c22
              try clear c23
              try clear c26
              try clear c29
              try clear c30
              try clear c49
              try clear c50
              try clear c51
              try clear c58
              try clear c59
              try clear c60
              try clear c61
              try clear c64
              try clear c64b0
              try clear c64b1
              try clear c65
              try clear c66
              try clear c66b0
              try clear c67
              try clear c68
              try clear c69
              try clear c70
              try clear hcz27_0
              try clear hcz27_1
              try clear hcz27_2
              try clear hcz27_3
              try clear hcz27_4
              try clear hcz31_0
              try clear hcz31_1
              try clear hcz31_2
              try clear hcz31_3
              try clear hcz31_4
              try clear hcz32_0
              try clear hcz32_1
              try clear hcz32_2
              try clear hcz32_3
              try clear hcz45_0
              try clear hcz45_1
              try clear hcz45_2
              try clear hcz45_3
              try clear hcz45_4
              try clear hcz52_0
              try clear hcz52_1
              try clear hcz54_0
              try clear hcz54_1
              try clear hcz54_2
              try clear hcz54_3
              try clear hcz54_4
              try clear hcz62_0
              try clear hcz62_1
              try clear hcz71_0
              try clear hcz71_1
              try clear hfz16_0
              try clear hfz16_1
              try clear hfz16_2
              try clear hfz16_3
              try clear hfz18_0
              try clear hfz18_1
              try clear hfz18_2
              try clear hfz18_3
              try clear hfz19_0
              try clear hfz19_1
              try clear hfz19_2
              try clear hfz19_3
              try clear hfz19_4
              try clear hfz27_0
              try clear hfz27_1
              try clear hfz27_2
              try clear hfz27_3
              try clear hfz27_4
              try clear hfz31_0
              try clear hfz31_1
              try clear hfz31_2
              try clear hfz31_3
              try clear hfz31_4
              try clear hfz32_0
              try clear hfz32_1
              try clear hfz32_2
              try clear hfz32_3
              try clear hfz45_0
              try clear hfz45_1
              try clear hfz45_2
              try clear hfz45_3
              try clear hfz45_4
              try clear hfz52_0
              try clear hfz52_1
              try clear hfz54_0
              try clear hfz54_1
              try clear hfz54_2
              try clear hfz54_3
              try clear hfz54_4
              try clear hfz62_0
              try clear hfz62_1
              try clear hfz71_0
              try clear hfz71_1
              try clear p2
              obtain ⟨x13_4, x14_4, rfl, rfl, HA, HK4, HO_495003, HO_496002, HO_499003, HO_519000, HO_519001, HO_527000, HO_527001, BK494, BK495, BK498, BK518, BK526, HB⟩ := hrel
              cases gk with
              | zero => exact absurd HA.out (by simp [sl14_StatesMore.l1])
              | succ k4 =>
               have H := HA.out
               clear HA
               simp only [sl14_StatesMore.l1] at H
               by_cases c72 : x14_4 < (t519.length : Int)
               ·rw [if_pos c72] at H
                have c72b0 : decide (x14_4 < (t519.length : Int)) = true := decide_eq_true c72
                clear c72
                have H' := jM H
                clear H
                have hnb73 := NB526_494.out
                have hnc73 := NB494_526.out
                have hnb74 := NB526_495.out
                have hnc74 := NB495_526.out
                have hnb75 := NB526_498.out
                have hnc75 := NB498_526.out
                have hnb76 := NB526_518.out
                have hnc76 := NB518_526.out
                have hcz77_0 : wr.cell? ⟨gb526, 0, none⟩ = some (.slice Ao57 t519.length co57) := (jC BK526.out 0).trans rfl
                have hcz77_1 : wr.cell? ⟨gb526, 1, none⟩ = some (.slice Ao63 t522.length co63) := (jC BK526.out 1).trans rfl
                have hfz77_0 := jF BK526.out 0
                have hfz77_1 := jF BK526.out 1
                go_wp2
                go_loopg [15, 16] k4 (fun kq v15 v16 w' => ∃ (x15_5 : Bool) (x16_5 : Int), v15 = .bool x15_5 ∧ v16 = .int .i64 x16_5 ∧ Aside0 (sl14_StatesMore.l2 kq true x12_3 x13_4 x14_4 x15_5 x16_5 t511 t514 t519 t522 = some r) ∧ Aside0 (kq ≤ k4) ∧ Aside0 (Kd.V k64 64 w' w.heap.size (fun k_ => ((P0_3_ k_ ∨ P1_2_ k_) ∨ w.heap.size ≤ k_) ∧ some k_ ≠ ((.slice Ao43 y508.length co43) : Value).ownBlock ∧ some k_ ≠ ((.slice Ao48 t511.length co48) : Value).ownBlock ∧ some k_ ≠ ((.slice Ao53 t514.length co53) : Value).ownBlock ∧ some k_ ≠ ((.slice Ao57 t519.length co57) : Value).ownBlock ∧ some k_ ≠ ((.slice Ao63 t522.length co63) : Value).ownBlock ∧ k_ ≠ gb494 ∧ k_ ≠ gb495 ∧ k_ ≠ gb498 ∧ k_ ≠ gb518 ∧ k_ ≠ gb526) (.slice A0_3 l0_3.length c0_3) l0_3) ∧ Aside0 (Kd.V (Kd.int .i64) 29 w' w.heap.size (fun k_ => ((P0_3_ k_ ∨ P1_2_ k_) ∨ w.heap.size ≤ k_) ∧ some k_ ≠ ((.slice Ao43 y508.length co43) : Value).ownBlock ∧ some k_ ≠ ((.slice Ao48 t511.length co48) : Value).ownBlock ∧ some k_ ≠ ((.slice Ao53 t514.length co53) : Value).ownBlock ∧ some k_ ≠ ((.slice Ao57 t519.length co57) : Value).ownBlock ∧ some k_ ≠ ((.slice Ao63 t522.length co63) : Value).ownBlock ∧ k_ ≠ gb494 ∧ k_ ≠ gb495 ∧ k_ ≠ gb498 ∧ k_ ≠ gb518 ∧ k_ ≠ gb526) (.slice A1_2 l1_2.length c1_2) l1_2) ∧ Aside0 (Kd.N k64 64 w' w.heap.size (fun k_ => ((P0_3_ k_ ∨ P1_2_ k_) ∨ w.heap.size ≤ k_) ∧ some k_ ≠ ((.slice Ao48 t511.length co48) : Value).ownBlock ∧ some k_ ≠ ((.slice Ao53 t514.length co53) : Value).ownBlock ∧ some k_ ≠ ((.slice Ao57 t519.length co57) : Value).ownBlock ∧ some k_ ≠ ((.slice Ao63 t522.length co63) : Value).ownBlock ∧ k_ ≠ gb494 ∧ k_ ≠ gb495 ∧ k_ ≠ gb498 ∧ k_ ≠ gb518 ∧ k_ ≠ gb526) (.slice Ao43 y508.length co43) y508) ∧ Aside0 (Kd.N (Kd.slice 37 k37) 28 w' w.heap.size (fun k_ => ((P0_3_ k_ ∨ P1_2_ k_) ∨ w.heap.size ≤ k_) ∧ some k_ ≠ ((.slice Ao43 y508.length co43) : Value).ownBlock ∧ some k_ ≠ ((.slice Ao53 t514.length co53) : Value).ownBlock ∧ some k_ ≠ ((.slice Ao57 t519.length co57) : Value).ownBlock ∧ some k_ ≠ ((.slice Ao63 t522.length co63) : Value).ownBlock ∧ k_ ≠ gb494 ∧ k_ ≠ gb495 ∧ k_ ≠ gb498 ∧ k_ ≠ gb518 ∧ k_ ≠ gb526) (.slice Ao48 t511.length co48) t511) ∧ Aside0 (Kd.N (Kd.slice 3 (Kd.int .i64)) 58 w' w.heap.size (fun k_ => ((P0_3_ k_ ∨ P1_2_ k_) ∨ w.heap.size ≤ k_) ∧ some k_ ≠ ((.slice Ao43 y508.length co43) : Value).ownBlock ∧ some k_ ≠ ((.slice Ao48 t511.length co48) : Value).ownBlock ∧ some k_ ≠ ((.slice Ao57 t519.length co57) : Value).ownBlock ∧ some k_ ≠ ((.slice Ao63 t522.length co63) : Value).ownBlock ∧ k_ ≠ gb494 ∧ k_ ≠ gb495 ∧ k_ ≠ gb498 ∧ k_ ≠ gb518 ∧ k_ ≠ gb526) (.slice Ao53 t514.length co53) t514) ∧ Aside0 (Kd.N (Kd.slice 37 k37) 28 w' w.heap.size (fun k_ => ((P0_3_ k_ ∨ P1_2_ k_) ∨ w.heap.size ≤ k_) ∧ some k_ ≠ ((.slice Ao43 y508.length co43) : Value).ownBlock ∧ some k_ ≠ ((.slice Ao48 t511.length co48) : Value).ownBlock ∧ some k_ ≠ ((.slice Ao53 t514.length co53) : Value).ownBlock ∧ some k_ ≠ ((.slice Ao63 t522.length co63) : Value).ownBlock ∧ k_ ≠ gb494 ∧ k_ ≠ gb495 ∧ k_ ≠ gb498 ∧ k_ ≠ gb518 ∧ k_ ≠ gb526) (.slice Ao57 t519.length co57) t519) ∧ Aside0 (Kd.N (Kd.slice 3 (Kd.int .i64)) 58 w' w.heap.size (fun k_ => ((P0_3_ k_ ∨ P1_2_ k_) ∨ w.heap.size ≤ k_) ∧ some k_ ≠ ((.slice Ao43 y508.length co43) : Value).ownBlock ∧ some k_ ≠ ((.slice Ao48 t511.length co48) : Value).ownBlock ∧ some k_ ≠ ((.slice Ao53 t514.length co53) : Value).ownBlock ∧ some k_ ≠ ((.slice Ao57 t519.length co57) : Value).ownBlock ∧ k_ ≠ gb494 ∧ k_ ≠ gb495 ∧ k_ ≠ gb498 ∧ k_ ≠ gb518 ∧ k_ ≠ gb526) (.slice Ao63 t522.length co63) t522) ∧ Aside0 (w'.heap[gb494]? = some (.cells #[(.slice A0_0 l0_0.length c0_0), (.slice A0_1 l0_1.length c0_1), (.slice A0_2 l0_2.length c0_2), (.slice A0_3 l0_3.length c0_3), .int .i64 a0_4] 27 (0, 0))) ∧ Aside0 (w'.heap[gb495]? = some (.cells #[.string (⟨#[122, 122]⟩ : ByteArray), .int .i64 a1_1, (.slice A1_2 l1_2.length c1_2), .int .i64 a1_3] 64 (0, 0))) ∧ Aside0 (w'.heap[gb498]? = some (.cells #[(.slice A0_0 l0_0.length c0_0), (.slice A0_1 l0_1.length c0_1), (.slice A0_2 l0_2.length c0_2), (.slice Ao43 y508.length co43), .int .i64 a0_4] 27 (0, 0))) ∧ Aside0 (w'.heap[gb518]? = some (.cells #[(.slice Ao48 t511.length co48), (.slice Ao53 t514.length co53)] 49 (0, 0))) ∧ Aside0 (w'.heap[gb526]? = some (.cells #[(.slice Ao57 t519.length co57), (.slice Ao63 t522.length co63)] 49 (0, 0))) ∧ Aside0 (Below w.heap.size w w'))
                case atStart => exact ⟨(true), (0), (by first | rfl | (simp; done) | (simp [*]; done)), (by first | rfl | (simp; done) | (simp [*]; done)), H', ⟨Nat.le_refl _⟩, ⟨by (with_reducible repeat (first | apply jt | apply ju | apply jv)); exact HO_495003.out⟩, ⟨by (with_reducible repeat (first | apply jt | apply ju | apply jv)); exact HO_496002.out⟩, ⟨by (with_reducible repeat (first | apply jn | apply jo | apply jp)); exact HO_499003.out⟩, ⟨by (with_reducible repeat (first | apply jn | apply jo | apply jp)); exact HO_519000.out⟩, ⟨by (with_reducible repeat (first | apply jn | apply jo | apply jp)); exact HO_519001.out⟩, ⟨by (with_reducible repeat (first | apply jn | apply jo | apply jp)); exact HO_527000.out⟩, ⟨by (with_reducible repeat (first | apply jn | apply jo | apply jp)); exact HO_527001.out⟩, ⟨by (with_reducible repeat (first | refine jY ?_ _ | refine jZ ?_ | refine jX ?_ _)); exact BK494.out⟩, ⟨by (with_reducible repeat (first | refine jY ?_ _ | refine jZ ?_ | refine jX ?_ _)); exact BK495.out⟩, ⟨by (with_reducible repeat (first | refine jY ?_ _ | refine jZ ?_ | refine jX ?_ _)); exact BK498.out⟩, ⟨by (with_reducible repeat (first | refine jY ?_ _ | refine jZ ?_ | refine jX ?_ _)); exact BK518.out⟩, ⟨by (with_reducible repeat (first | refine jY ?_ _ | refine jZ ?_ | refine jX ?_ _)); exact BK526.out⟩, ⟨by repeat (first | (with_reducible first | exact HB.out | apply jA | apply jN | apply jD | refine jS ?_ GE494.out | refine jS ?_ GE495.out | refine jS ?_ GE498.out | refine jS ?_ GE518.out | refine jS ?_ GE526.out) | exact HB.out)⟩⟩
                case round =>
                 clear H'
                 try clear c1
                 try clear c2
                 try clear p2
                 try clear c3
                 try clear c4
                 try clear c5
                 try clear c6
                 try clear c7
                 try clear c20
                 try clear c21
                 try clear c22
                 try clear c23
                 try clear c26
                 try clear c29
                 try clear c30
                 try clear c49
                 try clear c50
                 try clear c51
                 try clear c58
                 try clear c59
                 try clear c60
                 try clear c61
                 try clear c64
                 try clear c64b0
                 try clear c64b1
                 try clear c65
                 try clear c66
                 try clear c66b0
                 try clear c67
                 try clear c68
                 try clear c69
                 try clear c70
                 try clear c72
                 try clear c72b0
                 try clear c73
                 try clear c74
                 try clear c75
                 try clear c76
                 try clear hcz27_0
                 try clear hcz27_1
                 try clear hcz27_2
                 try clear hcz27_3
                 try clear hcz27_4
                 try clear hcz31_0
                 try clear hcz31_1
                 try clear hcz31_2
                 try clear hcz31_3
                 try clear hcz31_4
                 try clear hcz32_0
                 try clear hcz32_1
                 try clear hcz32_2
                 try clear hcz32_3
                 try clear hcz45_0
                 try clear hcz45_1
                 try clear hcz45_2
                 try clear hcz45_3
                 try clear hcz45_4
                 try clear hcz52_0
                 try clear hcz52_1
                 try clear hcz54_0
                 try clear hcz54_1
                 try clear hcz54_2
                 try clear hcz54_3
                 try clear hcz54_4
                 try clear hcz62_0
                 try clear hcz62_1
                 try clear hcz71_0
                 try clear hcz71_1
                 try clear hcz77_0
                 try clear hcz77_1
                 try clear hfz16_0
                 try clear hfz16_1
                 try clear hfz16_2
                 try clear hfz16_3
                 try clear hfz18_0
                 try clear hfz18_1
                 try clear hfz18_2
                 try clear hfz18_3
                 try clear hfz19_0
                 try clear hfz19_1
                 try clear hfz19_2
                 try clear hfz19_3
                 try clear hfz19_4
                 try clear hfz27_0
                 try clear hfz27_1
                 try clear hfz27_2
                 try clear hfz27_3
                 try clear hfz27_4
                 try clear hfz31_0
                 try clear hfz31_1
                 try clear hfz31_2
                 try clear hfz31_3
                 try clear hfz31_4
                 try clear hfz32_0
                 try clear hfz32_1
                 try clear hfz32_2
                 try clear hfz32_3
                 try clear hfz45_0
                 try clear hfz45_1
                 try clear hfz45_2
                 try clear hfz45_3
                 try clear hfz45_4
                 try clear hfz52_0
                 try clear hfz52_1
                 try clear hfz54_0
                 try clear hfz54_1
                 try clear hfz54_2
                 try clear hfz54_3
                 try clear hfz54_4
                 try clear hfz62_0
                 try clear hfz62_1
                 try clear hfz71_0
                 try clear hfz71_1
                 try clear hfz77_0
                 try clear hfz77_1
                 try clear p2
                 obtain ⟨x15_5, x16_5, rfl, rfl, HA, HK5, HO_495003, HO_496002, HO_499003, HO_519000, HO_519001, HO_527000, HO_527001, BK494, BK495, BK498, BK518, BK526, HB⟩ := hrel
                 cases gk with
                 | zero => exact absurd HA.out (by simp [sl14_StatesMore.l2])
                 | succ k5 =>
                  have H := HA.out
                  clear HA
                  simp only [sl14_StatesMore.l2] at H
                  by_cases c78 : 0 ≤ x12_3
                  ·rw [if_pos c78] at H
                   have c78b0 : decide (0 ≤ x12_3) = true := decide_eq_true c78
                   clear c78
                   by_cases c79 : x12_3 < (t511.length : Int)
                   ·rw [if_pos c79] at H
                    have c79b0 : decide (x12_3 < (t511.length : Int)) = true := decide_eq_true c79
                    clear c79
                    by_cases c80 : x16_5 < ((rd_L15 t511 x12_3).length : Int)
                    ·rw [if_pos c80] at H
                     have c80b0 : decide (x16_5 < ((rd_L15 t511 x12_3).length : Int)) = true := decide_eq_true c80
                     clear c80
                     have H' := jM H
                     clear H
                     have hnb81 := NB518_494.out
                     have hnc81 := NB494_518.out
                     have hnb82 := NB518_495.out
                     have hnc82 := NB495_518.out
                     have hnb83 := NB518_498.out
                     have hnc83 := NB498_518.out
                     have hnb84 := NB518_526.out
                     have hnc84 := NB526_518.out
                     have hcz85_0 : wr.cell? ⟨gb518, 0, none⟩ = some (.slice Ao48 t511.length co48) := (jC BK518.out 0).trans rfl
                     have hcz85_1 : wr.cell? ⟨gb518, 1, none⟩ = some (.slice Ao53 t514.length co53) := (jC BK518.out 1).trans rfl
                     have hfz85_0 := jF BK518.out 0
                     have hfz85_1 := jF BK518.out 1
                     have p527 : 0 ≤ (x12_3 : Int) := of_decide_eq_true (by first | (with_reducible assumption) | assumption)
                     have q527 : x12_3 < (t511.length : Int) := of_decide_eq_true (by first | (with_reducible assumption) | assumption)
                     obtain ⟨ad527, A527_0, c527_0, e527, hx527_0, hl527_0, hi527_0⟩ := at_L15 (Kd.N_reads' HO_519000.out).2.2 x12_3 p527 q527
                     cases e527
                     obtain ⟨ce527, hce527, hMe527, hcc527⟩ := Kd.N_get HO_519000.out [] x12_3 p527 (by first | exact q527 | exact of_decide_eq_true (by first | (with_reducible assumption) | assumption) | (have e_ := (Kd.N_reads' HO_519000.out).1; omega))
                     obtain ⟨ua527_0, uc527_0, rfl, ul527_0, ge527_0⟩ := Kd.FK_slice_open hMe527
                     have hv527_0 := hcc527 0 _ rfl
                     rw [Nat.add_zero, show ((Kd.slice 37 k37)).sz = 1 from rfl, Nat.mul_one] at hv527_0
                     replace hv527_0 := Option.some.inj (hv527_0.symm.trans hx527_0)
                     injection hv527_0 with hva_ hvn_ hvc_
                     rw [hva_] at ge527_0
                     rw [hvc_] at ul527_0
                     have HL527_0 := jM (show Kd.V k37 37 _ w.heap.size _ _ (rd_L15 t511 x12_3) from Kd.V_mk ul527_0 ge527_0)
                     clear hva_ hvn_ hvc_ ge527_0 ul527_0 hcc527 hce527
                     have HR527_0 := jM hi527_0
                     have HC527_0 := jM hl527_0
                     clear hi527_0 hl527_0
                     replace p527 := eq_true p527
                     replace q527 := eq_true q527
                     go_wp2
                     go_loopg [17, 18] k5 (fun kq v17 v18 w' => ∃ (x17_6 : Bool) (x18_6 : Int), v17 = .bool x17_6 ∧ v18 = .int .i64 x18_6 ∧ Aside0 (sl14_StatesMore.l3 kq true x12_3 x13_4 x14_4 x15_5 x16_5 x17_6 x18_6 t511 t514 t519 t522 = some r) ∧ Aside0 (kq ≤ k5) ∧ Aside0 (Kd.V k64 64 w' w.heap.size (fun k_ => ((P0_3_ k_ ∨ P1_2_ k_) ∨ w.heap.size ≤ k_) ∧ some k_ ≠ ((.slice Ao43 y508.length co43) : Value).ownBlock ∧ some k_ ≠ ((.slice (some ad527) t511.length co48) : Value).ownBlock ∧ some k_ ≠ ((.slice Ao53 t514.length co53) : Value).ownBlock ∧ some k_ ≠ ((.slice Ao57 t519.length co57) : Value).ownBlock ∧ some k_ ≠ ((.slice Ao63 t522.length co63) : Value).ownBlock ∧ k_ ≠ gb494 ∧ k_ ≠ gb495 ∧ k_ ≠ gb498 ∧ k_ ≠ gb518 ∧ k_ ≠ gb526) (.slice A0_3 l0_3.length c0_3) l0_3) ∧ Aside0 (Kd.V (Kd.int .i64) 29 w' w.heap.size (fun k_ => ((P0_3_ k_ ∨ P1_2_ k_) ∨ w.heap.size ≤ k_) ∧ some k_ ≠ ((.slice Ao43 y508.length co43) : Value).ownBlock ∧ some k_ ≠ ((.slice (some ad527) t511.length co48) : Value).ownBlock ∧ some k_ ≠ ((.slice Ao53 t514.length co53) : Value).ownBlock ∧ some k_ ≠ ((.slice Ao57 t519.length co57) : Value).ownBlock ∧ some k_ ≠ ((.slice Ao63 t522.length co63) : Value).ownBlock ∧ k_ ≠ gb494 ∧ k_ ≠ gb495 ∧ k_ ≠ gb498 ∧ k_ ≠ gb518 ∧ k_ ≠ gb526) (.slice A1_2 l1_2.length c1_2) l1_2) ∧ Aside0 (Kd.N k64 64 w' w.heap.size (fun k_ => ((P0_3_ k_ ∨ P1_2_ k_) ∨ w.heap.size ≤ k_) ∧ some k_ ≠ ((.slice (some ad527) t511.length co48) : Value).ownBlock ∧ some k_ ≠ ((.slice Ao53 t514.length co53) : Value).ownBlock ∧ some k_ ≠ ((.slice Ao57 t519.length co57) : Value).ownBlock ∧ some k_ ≠ ((.slice Ao63 t522.length co63) : Value).ownBlock ∧ k_ ≠ gb494 ∧ k_ ≠ gb495 ∧ k_ ≠ gb498 ∧ k_ ≠ gb518 ∧ k_ ≠ gb526) (.slice Ao43 y508.length co43) y508) ∧ Aside0 (Kd.N (Kd.slice 37 k37) 28 w' w.heap.size (fun k_ => ((P0_3_ k_ ∨ P1_2_ k_) ∨ w.heap.size ≤ k_) ∧ some k_ ≠ ((.slice Ao43 y508.length co43) : Value).ownBlock ∧ some k_ ≠ ((.slice Ao53 t514.length co53) : Value).ownBlock ∧ some k_ ≠ ((.slice Ao57 t519.length co57) : Value).ownBlock ∧ some k_ ≠ ((.slice Ao63 t522.length co63) : Value).ownBlock ∧ k_ ≠ gb494 ∧ k_ ≠ gb495 ∧ k_ ≠ gb498 ∧ k_ ≠ gb518 ∧ k_ ≠ gb526) (.slice (some ad527) t511.length co48) t511) ∧ Aside0 (Kd.N (Kd.slice 3 (Kd.int .i64)) 58 w' w.heap.size (fun k_ => ((P0_3_ k_ ∨ P1_2_ k_) ∨ w.heap.size ≤ k_) ∧ some k_ ≠ ((.slice Ao43 y508.length co43) : Value).ownBlock ∧ some k_ ≠ ((.slice (some ad527) t511.length co48) : Value).ownBlock ∧ some k_ ≠ ((.slice Ao57 t519.length co57) : Value).ownBlock ∧ some k_ ≠ ((.slice Ao63 t522.length co63) : Value).ownBlock ∧ k_ ≠ gb494 ∧ k_ ≠ gb495 ∧ k_ ≠ gb498 ∧ k_ ≠ gb518 ∧ k_ ≠ gb526) (.slice Ao53 t514.length co53) t514) ∧ Aside0 (Kd.N (Kd.slice 37 k37) 28 w' w.heap.size (fun k_ => ((P0_3_ k_ ∨ P1_2_ k_) ∨ w.heap.size ≤ k_) ∧ some k_ ≠ ((.slice Ao43 y508.length co43) : Value).ownBlock ∧ some k_ ≠ ((.slice (some ad527) t511.length co48) : Value).ownBlock ∧ some k_ ≠ ((.slice Ao53 t514.length co53) : Value).ownBlock ∧ some k_ ≠ ((.slice Ao63 t522.length co63) : Value).ownBlock ∧ k_ ≠ gb494 ∧ k_ ≠ gb495 ∧ k_ ≠ gb498 ∧ k_ ≠ gb518 ∧ k_ ≠ gb526) (.slice Ao57 t519.length co57) t519) ∧ Aside0 (Kd.N (Kd.slice 3 (Kd.int .i64)) 58 w' w.heap.size (fun k_ => ((P0_3_ k_ ∨ P1_2_ k_) ∨ w.heap.size ≤ k_) ∧ some k_ ≠ ((.slice Ao43 y508.length co43) : Value).ownBlock ∧ some k_ ≠ ((.slice (some ad527) t511.length co48) : Value).ownBlock ∧ some k_ ≠ ((.slice Ao53 t514.length co53) : Value).ownBlock ∧ some k_ ≠ ((.slice Ao57 t519.length co57) : Value).ownBlock ∧ k_ ≠ gb494 ∧ k_ ≠ gb495 ∧ k_ ≠ gb498 ∧ k_ ≠ gb518 ∧ k_ ≠ gb526) (.slice Ao63 t522.length co63) t522) ∧ Aside0 (w'.heap[gb494]? = some (.cells #[(.slice A0_0 l0_0.length c0_0), (.slice A0_1 l0_1.length c0_1), (.slice A0_2 l0_2.length c0_2), (.slice A0_3 l0_3.length c0_3), .int .i64 a0_4] 27 (0, 0))) ∧ Aside0 (w'.heap[gb495]? = some (.cells #[.string (⟨#[122, 122]⟩ : ByteArray), .int .i64 a1_1, (.slice A1_2 l1_2.length c1_2), .int .i64 a1_3] 64 (0, 0))) ∧ Aside0 (w'.heap[gb498]? = some (.cells #[(.slice A0_0 l0_0.length c0_0), (.slice A0_1 l0_1.length c0_1), (.slice A0_2 l0_2.length c0_2), (.slice Ao43 y508.length co43), .int .i64 a0_4] 27 (0, 0))) ∧ Aside0 (w'.heap[gb518]? = some (.cells #[(.slice (some ad527) t511.length co48), (.slice Ao53 t514.length co53)] 49 (0, 0))) ∧ Aside0 (w'.heap[gb526]? = some (.cells #[(.slice Ao57 t519.length co57), (.slice Ao63 t522.length co63)] 49 (0, 0))) ∧ Aside0 (Kd.C k37 w' A527_0 (rd_L15 t511 x12_3).length (rd_L15 t511 x12_3)) ∧ Aside0 (Below w.heap.size w w'))
                     case atStart => exact ⟨(false), (0), (by first | rfl | (simp; done) | (simp [*]; done)), (by first | rfl | (simp; done) | (simp [*]; done)), H', ⟨Nat.le_refl _⟩, ⟨by (with_reducible repeat (first | apply jt | apply ju | apply jv)); exact HO_495003.out⟩, ⟨by (with_reducible repeat (first | apply jt | apply ju | apply jv)); exact HO_496002.out⟩, ⟨by (with_reducible repeat (first | apply jn | apply jo | apply jp)); exact HO_499003.out⟩, ⟨by (with_reducible repeat (first | apply jn | apply jo | apply jp)); exact HO_519000.out⟩, ⟨by (with_reducible repeat (first | apply jn | apply jo | apply jp)); exact HO_519001.out⟩, ⟨by (with_reducible repeat (first | apply jn | apply jo | apply jp)); exact HO_527000.out⟩, ⟨by (with_reducible repeat (first | apply jn | apply jo | apply jp)); exact HO_527001.out⟩, ⟨by (with_reducible repeat (first | refine jY ?_ _ | refine jZ ?_ | refine jX ?_ _)); exact BK494.out⟩, ⟨by (with_reducible repeat (first | refine jY ?_ _ | refine jZ ?_ | refine jX ?_ _)); exact BK495.out⟩, ⟨by (with_reducible repeat (first | refine jY ?_ _ | refine jZ ?_ | refine jX ?_ _)); exact BK498.out⟩, ⟨by (with_reducible repeat (first | refine jY ?_ _ | refine jZ ?_ | refine jX ?_ _)); exact BK518.out⟩, ⟨by (with_reducible repeat (first | refine jY ?_ _ | refine jZ ?_ | refine jX ?_ _)); exact BK526.out⟩, ⟨by repeat (first | (with_reducible exact HR527_0.out) | (with_reducible refine Kd.C_alloc ?_ _) | (with_reducible refine Kd.C_drewN ?_ _) | (with_reducible refine Kd.C_drew ?_) | exact HR527_0.out)⟩, ⟨by repeat (first | (with_reducible first | exact HB.out | apply jA | apply jN | apply jD | refine jS ?_ GE494.out | refine jS ?_ GE495.out | refine jS ?_ GE498.out | refine jS ?_ GE518.out | refine jS ?_ GE526.out) | exact HB.out)⟩⟩
                     case round =>
                      clear H'
                      try clear c1
                      try clear c2
                      try clear p2
                      try clear c3
                      try clear c4
                      try clear c5
                      try clear p5
                      try clear q5
                      try clear hx5
                      try clear c6
                      try clear c7
                      try clear c8
                      try clear c20
                      try clear c21
                      try clear c22
                      try clear c23
                      try clear c26
                      try clear c29
                      try clear c30
                      try clear c49
                      try clear c50
                      try clear c51
                      try clear c52
                      try clear p52
                      try clear q52
                      try clear hx52
                      try clear c58
                      try clear c59
                      try clear c60
                      try clear c61
                      try clear c64
                      try clear c64b0
                      try clear c64b1
                      try clear c65
                      try clear c66
                      try clear c66b0
                      try clear c67
                      try clear c68
                      try clear c69
                      try clear c70
                      try clear c72
                      try clear c72b0
                      try clear c73
                      try clear c74
                      try clear c75
                      try clear c76
                      try clear c78
                      try clear c78b0
                      try clear c79
                      try clear c79b0
                      try clear c80
                      try clear c80b0
                      try clear c81
                      try clear c82
                      try clear c83
                      try clear c84
                      try clear hcz27_0
                      try clear hcz27_1
                      try clear hcz27_2
                      try clear hcz27_3
                      try clear hcz27_4
                      try clear hcz31_0
                      try clear hcz31_1
                      try clear hcz31_2
                      try clear hcz31_3
                      try clear hcz31_4
                      try clear hcz32_0
                      try clear hcz32_1
                      try clear hcz32_2
                      try clear hcz32_3
                      try clear hcz45_0
                      try clear hcz45_1
                      try clear hcz45_2
                      try clear hcz45_3
                      try clear hcz45_4
                      try clear hcz52_0
                      try clear hcz52_1
                      try clear hcz54_0
                      try clear hcz54_1
                      try clear hcz54_2
                      try clear hcz54_3
                      try clear hcz54_4
                      try clear hcz62_0
                      try clear hcz62_1
                      try clear hcz71_0
                      try clear hcz71_1
                      try clear hcz77_0
                      try clear hcz77_1
                      try clear hcz85_0
                      try clear hcz85_1
                      try clear hfz16_0
                      try clear hfz16_1
                      try clear hfz16_2
                      try clear hfz16_3
                      try clear hfz18_0
                      try clear hfz18_1
                      try clear hfz18_2
                      try clear hfz18_3
                      try clear hfz19_0
                      try clear hfz19_1
                      try clear hfz19_2
                      try clear hfz19_3
                      try clear hfz19_4
                      try clear hfz27_0
                      try clear hfz27_1
                      try clear hfz27_2
                      try clear hfz27_3
                      try clear hfz27_4
                      try clear hfz31_0
                      try clear hfz31_1
                      try clear hfz31_2
                      try clear hfz31_3
                      try clear hfz31_4
                      try clear hfz32_0
                      try clear hfz32_1
                      try clear hfz32_2
                      try clear hfz32_3
                      try clear hfz45_0
                      try clear hfz45_1
                      try clear hfz45_2
                      try clear hfz45_3
                      try clear hfz45_4
                      try clear hfz52_0
                      try clear hfz52_1
                      try clear hfz54_0
                      try clear hfz54_1
                      try clear hfz54_2
                      try clear hfz54_3
                      try clear hfz54_4
                      try clear hfz62_0
                      try clear hfz62_1
                      try clear hfz71_0
                      try clear hfz71_1
                      try clear hfz77_0
                      try clear hfz77_1
                      try clear hfz85_0
                      try clear hfz85_1
                      try clear hx527_0
                      try clear p2
                      try clear p527
                      try clear q527
                      obtain ⟨x17_6, x18_6, rfl, rfl, HA, HK6, HO_495003, HO_496002, HO_499003, HO_519000, HO_519001, HO_527000, HO_527001, BK494, BK495, BK498, BK518, BK526, HR527_0, HB⟩ := hrel
                      cases gk with
                      | zero => exact absurd HA.out (by simp [sl14_StatesMore.l3])
                      | succ k6 =>
                       have H := HA.out
                       clear HA
                       simp only [sl14_StatesMore.l3] at H
                       by_cases c86 : 0 ≤ x14_4
                       ·rw [if_pos c86] at H
                        have c86b0 : decide (0 ≤ x14_4) = true := decide_eq_true c86
                        clear c86
                        by_cases c87 : x14_4 < (t519.length : Int)
                        ·rw [if_pos c87] at H
                         have c87b0 : decide (x14_4 < (t519.length : Int)) = true := decide_eq_true c87
                         clear c87
                         by_cases c88 : x18_6 < ((rd_L15 t519 x14_4).length : Int)
                         ·rw [if_pos c88] at H
                          have c88b0 : decide (x18_6 < ((rd_L15 t519 x14_4).length : Int)) = true := decide_eq_true c88
                          clear c88
                          by_cases c89 : x17_6 = true
                          ·subst c89
                           have H1 : (sl14_StatesMore.l3 k6 true x12_3 x13_4 x14_4 x15_5 x16_5 true (wrap64 (x18_6 + 1)) t511 t514 t519 t522) = some r := by rw [if_pos rfl] at H; exact H
                           clear H
                           have H := H1
                           clear H1
                           have H' := jM H
                           clear H
                           have hnb90 := NB526_494.out
                           have hnc90 := NB494_526.out
                           have hnb91 := NB526_495.out
                           have hnc91 := NB495_526.out
                           have hnb92 := NB526_498.out
                           have hnc92 := NB498_526.out
                           have hnb93 := NB526_518.out
                           have hnc93 := NB518_526.out
                           have hcz94_0 : wr.cell? ⟨gb526, 0, none⟩ = some (.slice Ao57 t519.length co57) := (jC BK526.out 0).trans rfl
                           have hcz94_1 : wr.cell? ⟨gb526, 1, none⟩ = some (.slice Ao63 t522.length co63) := (jC BK526.out 1).trans rfl
                           have hfz94_0 := jF BK526.out 0
                           have hfz94_1 := jF BK526.out 1
                           have p528 : 0 ≤ (x14_4 : Int) := of_decide_eq_true (by first | (with_reducible assumption) | assumption)
                           have q528 : x14_4 < (t519.length : Int) := of_decide_eq_true (by first | (with_reducible assumption) | assumption)
                           obtain ⟨ad528, A528_0, c528_0, e528, hx528_0, hl528_0, hi528_0⟩ := at_L15 (Kd.N_reads' HO_527000.out).2.2 x14_4 p528 q528
                           cases e528
                           obtain ⟨ce528, hce528, hMe528, hcc528⟩ := Kd.N_get HO_527000.out [] x14_4 p528 (by first | exact q528 | exact of_decide_eq_true (by first | (with_reducible assumption) | assumption) | (have e_ := (Kd.N_reads' HO_527000.out).1; omega))
                           obtain ⟨ua528_0, uc528_0, rfl, ul528_0, ge528_0⟩ := Kd.FK_slice_open hMe528
                           have hv528_0 := hcc528 0 _ rfl
                           rw [Nat.add_zero, show ((Kd.slice 37 k37)).sz = 1 from rfl, Nat.mul_one] at hv528_0
                           replace hv528_0 := Option.some.inj (hv528_0.symm.trans hx528_0)
                           injection hv528_0 with hva_ hvn_ hvc_
                           rw [hva_] at ge528_0
                           rw [hvc_] at ul528_0
                           have HL528_0 := jM (show Kd.V k37 37 _ w.heap.size _ _ (rd_L15 t519 x14_4) from Kd.V_mk ul528_0 ge528_0)
                           clear hva_ hvn_ hvc_ ge528_0 ul528_0 hcc528 hce528
                           have HR528_0 := jM hi528_0
                           have HC528_0 := jM hl528_0
                           clear hi528_0 hl528_0
                           replace p528 := eq_true p528
                           replace q528 := eq_true q528
                           try go_wp2
                           have n0_ := jM (jv HO_495003.out)
                           have n1_ := jM (jv HO_496002.out)
                           have n2_ := jM (jp HO_499003.out)
                           have n3_ := jM (jp HO_519000.out)
                           have n4_ := jM (jp HO_519001.out)
                           have n5_ := jM (jp HO_527000.out)
                           have n6_ := jM (jp HO_527001.out)
                           have n7_ := jM (jv HL528_0.out)
                           have n8_ := jM (jZ BK494.out)
                           have n9_ := jM (jZ BK495.out)
                           have n10_ := jM (jZ BK498.out)
                           have n11_ := jM (jZ BK518.out)
                           have n12_ := jM (jZ BK526.out)
                           have n13_ := jM (Kd.C_drew HR527_0.out)
                           have n14_ := jM (Kd.C_drew HR528_0.out)
                           have n15_ := jM (jD HB.out)
                           clear HO_495003 HO_496002 HO_499003 HO_519000 HO_519001 HO_527000 HO_527001 HL528_0 BK494 BK495 BK498 BK518 BK526 HR527_0 HR528_0 HB
                           have HO_495003 := n0_
                           have HO_496002 := n1_
                           have HO_499003 := n2_
                           have HO_519000 := n3_
                           have HO_519001 := n4_
                           have HO_527000 := n5_
                           have HO_527001 := n6_
                           have HL528_0 := n7_
                           have BK494 := n8_
                           have BK495 := n9_
                           have BK498 := n10_
                           have BK518 := n11_
                           have BK526 := n12_
                           have HR527_0 := n13_
                           have HR528_0 := n14_
                           have HB := n15_
                           clear n0_ n1_ n2_ n3_ n4_ n5_ n6_ n7_ n8_ n9_ n10_ n11_ n12_ n13_ n14_ n15_
                           refine start_ (n := 21) (S := fun w' => True) (ds := []) (tf 0 21) (by kernel_rfl) rfl rfl trivial (fun hHeld => ?_); refine with_tabW sl14_StatesMore.tab29 sl14_StatesMore.bits29 (fun HT_ HW_ => ?_)
                           generalize wr.drew = w95 at HO_495003 HO_496002 HO_499003 HO_519000 HO_519001 HO_527000 HO_527001 HL528_0 BK494 BK495 BK498 BK518 BK526 HR527_0 HR528_0 HB hHeld ⊢
                           refine pure_ (i := 0) (N := some 100) (v := ?_) (a' := ?_) (tf 1 20) rfl rfl (any_of HT_.out (by kernel_rfl)) (fun _ _ _ h => h) (Or.inl ⟨by rfl, ?_⟩) ?_ ?_
                           rotate_left
                           ·intro w';go_simp;with_reducible rfl
                           rotate_left
                           ·simp only [Act.put, sA, i64_w, i32_w];rfl
                           refine pure_ (i := 1) (N := some 101) (v := ?_) (a' := ?_) (tf 2 19) rfl rfl (any_of HT_.out (by kernel_rfl)) (fun _ _ _ h => h) (Or.inl ⟨by rfl, ?_⟩) ?_ ?_
                           rotate_left
                           ·intro w';go_simp;with_reducible rfl
                           rotate_left
                           ·simp only [Act.put, sA, i64_w, i32_w];rfl
                           refine pure_ (i := 2) (N := some 102) (v := undef) (a' := ?_) (tf 3 18) rfl rfl (any_of HT_.out (by kernel_rfl)) (fun _ _ _ h => h) (Or.inr ⟨by rfl, rfl⟩) ?_ ?_
                           rotate_left
                           ·simp only [Act.put, sA, i64_w, i32_w];rfl
                           refine pure_ (i := 3) (N := some 103) (v := undef) (a' := ?_) (tf 4 17) rfl rfl (any_of HT_.out (by kernel_rfl)) (fun _ _ _ h => h) (Or.inr ⟨by rfl, rfl⟩) ?_ ?_
                           rotate_left
                           ·simp only [Act.put, sA, i64_w, i32_w];rfl
                           refine pure_ (i := 4) (N := some 104) (v := undef) (a' := ?_) (tf 5 16) rfl rfl (any_of HT_.out (by kernel_rfl)) (fun _ _ _ h => h) (Or.inr ⟨by rfl, rfl⟩) ?_ ?_
                           rotate_left
                           ·simp only [Act.put, sA, i64_w, i32_w];rfl
                           refine pure_ (i := 5) (N := some 105) (v := undef) (a' := ?_) (tf 6 15) rfl rfl (any_of HT_.out (by kernel_rfl)) (fun _ _ _ h => h) (Or.inr ⟨by rfl, rfl⟩) ?_ ?_
                           rotate_left
                           ·simp only [Act.put, sA, i64_w, i32_w];rfl
                           refine pure_ (i := 6) (N := some 106) (v := undef) (a' := ?_) (tf 7 14) rfl rfl (any_of HT_.out (by kernel_rfl)) (fun _ _ _ h => h) (Or.inr ⟨by rfl, rfl⟩) ?_ ?_
                           rotate_left
                           ·simp only [Act.put, sA, i64_w, i32_w];rfl
                           refine pure_ (i := 7) (N := some 107) (v := undef) (a' := ?_) (tf 8 13) rfl rfl (any_of HT_.out (by kernel_rfl)) (fun _ _ _ h => h) (Or.inr ⟨by rfl, rfl⟩) ?_ ?_
                           rotate_left
                           ·simp only [Act.put, sA, i64_w, i32_w];rfl
                           refine pure_ (i := 8) (N := some 108) (v := undef) (a' := ?_) (tf 9 12) rfl rfl (any_of HT_.out (by kernel_rfl)) (fun _ _ _ h => h) (Or.inr ⟨by rfl, rfl⟩) ?_ ?_
                           rotate_left
                           ·simp only [Act.put, sA, i64_w, i32_w];rfl
                           refine pure_ (i := 9) (N := some 109) (v := undef) (a' := ?_) (tf 10 11) rfl rfl (any_of HT_.out (by kernel_rfl)) (fun _ _ _ h => h) (Or.inr ⟨by rfl, rfl⟩) ?_ ?_
                           rotate_left
                           ·simp only [Act.put, sA, i64_w, i32_w];rfl
                           refine pure_ (i := 10) (N := some 110) (v := undef) (a' := ?_) (tf 11 10) rfl rfl (any_of HT_.out (by kernel_rfl)) (fun _ _ _ h => h) (Or.inr ⟨by rfl, rfl⟩) ?_ ?_
                           rotate_left
                           ·simp only [Act.put, sA, i64_w, i32_w];rfl
                           refine pure_ (i := 11) (N := some 111) (v := undef) (a' := ?_) (tf 12 9) rfl rfl (any_of HT_.out (by kernel_rfl)) (fun _ _ _ h => h) (Or.inr ⟨by rfl, rfl⟩) ?_ ?_
                           rotate_left
                           ·simp only [Act.put, sA, i64_w, i32_w];rfl
                           refine pure_ (i := 12) (N := some 112) (v := undef) (a' := ?_) (tf 13 8) rfl rfl (any_of HT_.out (by kernel_rfl)) (fun _ _ _ h => h) (Or.inr ⟨by rfl, rfl⟩) ?_ ?_
                           rotate_left
                           ·simp only [Act.put, sA, i64_w, i32_w];rfl
                           refine pure_ (i := 13) (N := some 113) (v := undef) (a' := ?_) (tf 14 7) rfl rfl (any_of HT_.out (by kernel_rfl)) (fun _ _ _ h => h) (Or.inr ⟨by rfl, rfl⟩) ?_ ?_
                           rotate_left
                           ·simp only [Act.put, sA, i64_w, i32_w];rfl
                           refine pure_ (i := 14) (N := some 114) (v := undef) (a' := ?_) (tf 15 6) rfl rfl (any_of HT_.out (by kernel_rfl)) (fun _ _ _ h => h) (Or.inr ⟨by rfl, rfl⟩) ?_ ?_
                           rotate_left
                           ·simp only [Act.put, sA, i64_w, i32_w];rfl
                           refine pure_ (i := 15) (N := some 115) (v := undef) (a' := ?_) (tf 16 5) rfl rfl (any_of HT_.out (by kernel_rfl)) (fun _ _ _ h => h) (Or.inr ⟨by rfl, rfl⟩) ?_ ?_
                           rotate_left
                           ·simp only [Act.put, sA, i64_w, i32_w];rfl
                           refine pure_ (i := 16) (N := some 116) (v := undef) (a' := ?_) (tf 17 4) rfl rfl (any_of HT_.out (by kernel_rfl)) (fun _ _ _ h => h) (Or.inr ⟨by rfl, rfl⟩) ?_ ?_
                           rotate_left
                           ·simp only [Act.put, sA, i64_w, i32_w];rfl
                           refine pure_ (i := 17) (N := some 117) (v := undef) (a' := ?_) (tf 18 3) rfl rfl (any_of HT_.out (by kernel_rfl)) (fun _ _ _ h => h) (Or.inr ⟨by rfl, rfl⟩) ?_ ?_
                           rotate_left
                           ·simp only [Act.put, sA, i64_w, i32_w];rfl
                           refine pure_ (i := 18) (N := some 118) (v := undef) (a' := ?_) (tf 19 2) rfl rfl (any_of HT_.out (by kernel_rfl)) (fun _ _ _ h => h) (Or.inr ⟨by rfl, rfl⟩) ?_ ?_
                           rotate_left
                           ·simp only [Act.put, sA, i64_w, i32_w];rfl
                           refine pure_ (i := 19) (N := some 119) (v := ?_) (a' := ?_) (tf 20 1) rfl rfl (any_of HT_.out (by kernel_rfl)) (fun _ _ _ h => h) (Or.inl ⟨by rfl, ?_⟩) ?_ ?_
                           rotate_left
                           ·intro w';go_simp;with_reducible rfl
                           rotate_left
                           ·simp only [Act.put, sA, i64_w, i32_w];rfl
                           refine pure_ (i := 20) (N := some 17) (v := ?_) (a' := ?_) (tf 21 0) rfl rfl (any_of HT_.out (by kernel_rfl)) (fun _ _ _ h => h) (Or.inl ⟨by rfl, ?_⟩) ?_ ?_
                           rotate_left
                           ·intro w';go_simp;with_reducible rfl
                           rotate_left
                           ·simp only [Act.put, sA, i64_w, i32_w];rfl
                           refine done_ (done_of HT_.out (by kernel_rfl)) ?_
                           try go_wp2
                           go_roundg k6
                           case measure => have := HJ5.out; have := HJ24.out; have := HK3.out; have := HK4.out; have := HK5.out; have := HK6.out; omega
                           case rel => exact ⟨(true), (wrap64 (x18_6 + 1)), (by first | rfl | (simp; done) | (simp [*]; done)), (by first | rfl | (simp; done) | (simp [*]; done)), H', ⟨by have := HJ5.out; have := HJ24.out; have := HK3.out; have := HK4.out; have := HK5.out; have := HK6.out; omega⟩, ⟨by (with_reducible repeat (first | apply jt | apply ju | apply jv)); exact HO_495003.out⟩, ⟨by (with_reducible repeat (first | apply jt | apply ju | apply jv)); exact HO_496002.out⟩, ⟨by (with_reducible repeat (first | apply jn | apply jo | apply jp)); exact HO_499003.out⟩, ⟨by (with_reducible repeat (first | apply jn | apply jo | apply jp)); exact HO_519000.out⟩, ⟨by (with_reducible repeat (first | apply jn | apply jo | apply jp)); exact HO_519001.out⟩, ⟨by (with_reducible repeat (first | apply jn | apply jo | apply jp)); exact HO_527000.out⟩, ⟨by (with_reducible repeat (first | apply jn | apply jo | apply jp)); exact HO_527001.out⟩, ⟨by (with_reducible repeat (first | refine jY ?_ _ | refine jZ ?_ | refine jX ?_ _)); exact BK494.out⟩, ⟨by (with_reducible repeat (first | refine jY ?_ _ | refine jZ ?_ | refine jX ?_ _)); exact BK495.out⟩, ⟨by (with_reducible repeat (first | refine jY ?_ _ | refine jZ ?_ | refine jX ?_ _)); exact BK498.out⟩, ⟨by (with_reducible repeat (first | refine jY ?_ _ | refine jZ ?_ | refine jX ?_ _)); exact BK518.out⟩, ⟨by (with_reducible repeat (first | refine jY ?_ _ | refine jZ ?_ | refine jX ?_ _)); exact BK526.out⟩, ⟨by repeat (first | (with_reducible exact HR527_0.out) | (with_reducible refine Kd.C_alloc ?_ _) | (with_reducible refine Kd.C_drewN ?_ _) | (with_reducible refine Kd.C_drew ?_) | exact HR527_0.out)⟩, ⟨by repeat (first | (with_reducible first | exact HB.out | apply jA | apply jN | apply jD | refine jS ?_ GE494.out | refine jS ?_ GE495.out | refine jS ?_ GE498.out | refine jS ?_ GE518.out | refine jS ?_ GE526.out) | exact HB.out)⟩⟩
                          ·replace c89 := Bool.eq_false_iff.mpr c89
                           subst c89
                           have H1 : (if 0 ≤ x18_6 then (if 0 ≤ x12_3 then (if x12_3 < (t511.length : Int) then (if 0 ≤ x16_5 then (if x16_5 < ((rd_L15 t511 x12_3).length : Int) then (sl14_StatesMore.l3 k6 true x12_3 x13_4 x14_4 x15_5 x16_5 (((rd_T37 (rd_L15 t519 x14_4) x18_6).f0) == ((rd_T37 (rd_L15 t511 x12_3) x16_5).f0) && (((rd_T37 (rd_L15 t519 x14_4) x18_6).f1) == ((rd_T37 (rd_L15 t511 x12_3) x16_5).f1))) (wrap64 (x18_6 + 1)) t511 t514 t519 t522) else (none)) else (none)) else (none)) else (none)) else (none)) = some r := by rw [if_neg (show ¬ (false = true) by decide)] at H; exact H
                           clear H
                           have H := H1
                           clear H1
                           by_cases c96 : 0 ≤ x18_6
                           ·rw [if_pos c96] at H
                            have c96b0 : decide (0 ≤ x18_6) = true := decide_eq_true c96
                            clear c96
                            by_cases c97 : 0 ≤ x12_3
                            ·rw [if_pos c97] at H
                             have c97b0 : decide (0 ≤ x12_3) = true := decide_eq_true c97
                             clear c97
                             by_cases c98 : x12_3 < (t511.length : Int)
                             ·rw [if_pos c98] at H
                              have c98b0 : decide (x12_3 < (t511.length : Int)) = true := decide_eq_true c98
                              clear c98
                              by_cases c99 : 0 ≤ x16_5
                              ·rw [if_pos c99] at H
                               have c99b0 : decide (0 ≤ x16_5) = true := decide_eq_true c99
                               clear c99
                               by_cases c100 : x16_5 < ((rd_L15 t511 x12_3).length : Int)
                               ·rw [if_pos c100] at H
                                have c100b0 : decide (x16_5 < ((rd_L15 t511 x12_3).length : Int)) = true := decide_eq_true c100
                                clear c100
                                have H' := jM H
                                clear H
                                have hnb101 := NB526_494.out
                                have hnc101 := NB494_526.out
                                have hnb102 := NB526_495.out
                                have hnc102 := NB495_526.out
                                have hnb103 := NB526_498.out
                                have hnc103 := NB498_526.out
                                have hnb104 := NB526_518.out
                                have hnc104 := NB518_526.out
                                have hcz105_0 : wr.cell? ⟨gb526, 0, none⟩ = some (.slice Ao57 t519.length co57) := (jC BK526.out 0).trans rfl
                                have hcz105_1 : wr.cell? ⟨gb526, 1, none⟩ = some (.slice Ao63 t522.length co63) := (jC BK526.out 1).trans rfl
                                have hfz105_0 := jF BK526.out 0
                                have hfz105_1 := jF BK526.out 1
                                have p528 : 0 ≤ (x14_4 : Int) := of_decide_eq_true (by first | (with_reducible assumption) | assumption)
                                have q528 : x14_4 < (t519.length : Int) := of_decide_eq_true (by first | (with_reducible assumption) | assumption)
                                obtain ⟨ad528, A528_0, c528_0, e528, hx528_0, hl528_0, hi528_0⟩ := at_L15 (Kd.N_reads' HO_527000.out).2.2 x14_4 p528 q528
                                cases e528
                                obtain ⟨ce528, hce528, hMe528, hcc528⟩ := Kd.N_get HO_527000.out [] x14_4 p528 (by first | exact q528 | exact of_decide_eq_true (by first | (with_reducible assumption) | assumption) | (have e_ := (Kd.N_reads' HO_527000.out).1; omega))
                                obtain ⟨ua528_0, uc528_0, rfl, ul528_0, ge528_0⟩ := Kd.FK_slice_open hMe528
                                have hv528_0 := hcc528 0 _ rfl
                                rw [Nat.add_zero, show ((Kd.slice 37 k37)).sz = 1 from rfl, Nat.mul_one] at hv528_0
                                replace hv528_0 := Option.some.inj (hv528_0.symm.trans hx528_0)
                                injection hv528_0 with hva_ hvn_ hvc_
                                rw [hva_] at ge528_0
                                rw [hvc_] at ul528_0
                                have HL528_0 := jM (show Kd.V k37 37 _ w.heap.size _ _ (rd_L15 t519 x14_4) from Kd.V_mk ul528_0 ge528_0)
                                clear hva_ hvn_ hvc_ ge528_0 ul528_0 hcc528 hce528
                                have HR528_0 := jM hi528_0
                                have HC528_0 := jM hl528_0
                                clear hi528_0 hl528_0
                                replace p528 := eq_true p528
                                replace q528 := eq_true q528
                                try go_wp2
                                have n0_ := jM (jv HO_495003.out)
                                have n1_ := jM (jv HO_496002.out)
                                have n2_ := jM (jp HO_499003.out)
                                have n3_ := jM (jp HO_519000.out)
                                have n4_ := jM (jp HO_519001.out)
                                have n5_ := jM (jp HO_527000.out)
                                have n6_ := jM (jp HO_527001.out)
                                have n7_ := jM (jv HL528_0.out)
                                have n8_ := jM (jZ BK494.out)
                                have n9_ := jM (jZ BK495.out)
                                have n10_ := jM (jZ BK498.out)
                                have n11_ := jM (jZ BK518.out)
                                have n12_ := jM (jZ BK526.out)
                                have n13_ := jM (Kd.C_drew HR527_0.out)
                                have n14_ := jM (Kd.C_drew HR528_0.out)
                                have n15_ := jM (jD HB.out)
                                clear HO_495003 HO_496002 HO_499003 HO_519000 HO_519001 HO_527000 HO_527001 HL528_0 BK494 BK495 BK498 BK518 BK526 HR527_0 HR528_0 HB
                                have HO_495003 := n0_
                                have HO_496002 := n1_
                                have HO_499003 := n2_
                                have HO_519000 := n3_
                                have HO_519001 := n4_
                                have HO_527000 := n5_
                                have HO_527001 := n6_
                                have HL528_0 := n7_
                                have BK494 := n8_
                                have BK495 := n9_
                                have BK498 := n10_
                                have BK518 := n11_
                                have BK526 := n12_
                                have HR527_0 := n13_
                                have HR528_0 := n14_
                                have HB := n15_
                                clear n0_ n1_ n2_ n3_ n4_ n5_ n6_ n7_ n8_ n9_ n10_ n11_ n12_ n13_ n14_ n15_
                                have p529 : 0 ≤ (x14_4 : Int) := of_decide_eq_true (by first | (with_reducible assumption) | assumption)
                                have q529 : x14_4 < (t519.length : Int) := of_decide_eq_true (by first | (with_reducible assumption) | assumption)
                                obtain ⟨ad529, A529_0, c529_0, e529, hx529_0, hl529_0, hi529_0⟩ := at_L15 (Kd.N_reads' HO_527000.out).2.2 x14_4 p529 q529
                                obtain rfl : ad528 = ad529 := (by injection e529)
                                obtain ⟨ce529, hce529, hMe529, hcc529⟩ := Kd.N_get HO_527000.out [] x14_4 p529 (by first | exact q529 | exact of_decide_eq_true (by first | (with_reducible assumption) | assumption) | (have e_ := (Kd.N_reads' HO_527000.out).1; omega))
                                obtain ⟨ua529_0, uc529_0, rfl, ul529_0, ge529_0⟩ := Kd.FK_slice_open hMe529
                                have hv529_0 := hcc529 0 _ rfl
                                rw [Nat.add_zero, show ((Kd.slice 37 k37)).sz = 1 from rfl, Nat.mul_one] at hv529_0
                                replace hv529_0 := Option.some.inj (hv529_0.symm.trans hx529_0)
                                injection hv529_0 with hva_ hvn_ hvc_
                                rw [hva_] at ge529_0
                                rw [hvc_] at ul529_0
                                have HL529_0 := jM (show Kd.V k37 37 _ w.heap.size _ _ (rd_L15 t519 x14_4) from Kd.V_mk ul529_0 ge529_0)
                                clear hva_ hvn_ hvc_ ge529_0 ul529_0 hcc529 hce529
                                have HR529_0 := jM hi529_0
                                have HC529_0 := jM hl529_0
                                clear hi529_0 hl529_0
                                replace p529 := eq_true p529
                                replace q529 := eq_true q529
                                have p530 : 0 ≤ (x18_6 : Int) := of_decide_eq_true (by first | (with_reducible assumption) | assumption)
                                have q530 : x18_6 < ((rd_L15 t519 x14_4).length : Int) := of_decide_eq_true (by first | (with_reducible assumption) | assumption)
                                obtain ⟨ad530, e530, hx530_0, hx530_1⟩ := at_T37 (by repeat (first | (with_reducible exact HR529_0.out) | (with_reducible refine Kd.C_alloc ?_ _) | (with_reducible refine Kd.C_drewN ?_ _) | (with_reducible refine Kd.C_drew ?_) | exact HR529_0.out)) x18_6 p530 q530
                                cases e530
                                replace p530 := eq_true p530
                                replace q530 := eq_true q530
                                have p531 : 0 ≤ (x12_3 : Int) := of_decide_eq_true (by first | (with_reducible assumption) | assumption)
                                have q531 : x12_3 < (t511.length : Int) := of_decide_eq_true (by first | (with_reducible assumption) | assumption)
                                obtain ⟨ad531, A531_0, c531_0, e531, hx531_0, hl531_0, hi531_0⟩ := at_L15 (Kd.N_reads' HO_519000.out).2.2 x12_3 p531 q531
                                obtain rfl : ad527 = ad531 := (by injection e531)
                                obtain ⟨ce531, hce531, hMe531, hcc531⟩ := Kd.N_get HO_519000.out [] x12_3 p531 (by first | exact q531 | exact of_decide_eq_true (by first | (with_reducible assumption) | assumption) | (have e_ := (Kd.N_reads' HO_519000.out).1; omega))
                                obtain ⟨ua531_0, uc531_0, rfl, ul531_0, ge531_0⟩ := Kd.FK_slice_open hMe531
                                have hv531_0 := hcc531 0 _ rfl
                                rw [Nat.add_zero, show ((Kd.slice 37 k37)).sz = 1 from rfl, Nat.mul_one] at hv531_0
                                replace hv531_0 := Option.some.inj (hv531_0.symm.trans hx531_0)
                                injection hv531_0 with hva_ hvn_ hvc_
                                rw [hva_] at ge531_0
                                rw [hvc_] at ul531_0
                                have HL531_0 := jM (show Kd.V k37 37 _ w.heap.size _ _ (rd_L15 t511 x12_3) from Kd.V_mk ul531_0 ge531_0)
                                clear hva_ hvn_ hvc_ ge531_0 ul531_0 hcc531 hce531
                                have HR531_0 := jM hi531_0
                                have HC531_0 := jM hl531_0
                                clear hi531_0 hl531_0
                                replace p531 := eq_true p531
                                replace q531 := eq_true q531
                                have p532 : 0 ≤ (x16_5 : Int) := of_decide_eq_true (by first | (with_reducible assumption) | assumption)
                                have q532 : x16_5 < ((rd_L15 t511 x12_3).length : Int) := of_decide_eq_true (by first | (with_reducible assumption) | assumption)
                                obtain ⟨ad532, e532, hx532_0, hx532_1⟩ := at_T37 (by repeat (first | (with_reducible exact HR531_0.out) | (with_reducible refine Kd.C_alloc ?_ _) | (with_reducible refine Kd.C_drewN ?_ _) | (with_reducible refine Kd.C_drew ?_) | exact HR531_0.out)) x16_5 p532 q532
                                cases e532
                                replace p532 := eq_true p532
                                replace q532 := eq_true q532
                                refine start_ (n := 21) (S := fun w' => w'.cell? ⟨gb526, 0, none⟩ = some (.slice (some ad528) t519.length co57) ∧ w'.cell? ⟨gb526, 1, none⟩ = some (.slice Ao63 t522.length co63) ∧ w'.cell? ⟨gb518, 0, none⟩ = some (.slice (some ad527) t511.length co48) ∧ w'.cell? ⟨gb518, 1, none⟩ = some (.slice Ao53 t514.length co53) ∧ w'.cell? (ad528.add (x14_4).toNat) = some (.slice (some ad530) (rd_L15 t519 x14_4).length c529_0) ∧ w'.cell? (ad530.add ((x18_6).toNat * 2)) = some (.int .i64 ((rd_T37 (rd_L15 t519 x14_4) x18_6).f0)) ∧ w'.cell? ⟨(ad530.add ((x18_6).toNat * 2)).block, (ad530.add ((x18_6).toNat * 2)).off + 1, none⟩ = some (.int .i64 ((rd_T37 (rd_L15 t519 x14_4) x18_6).f1)) ∧ w'.cell? (ad527.add (x12_3).toNat) = some (.slice (some ad532) (rd_L15 t511 x12_3).length c531_0) ∧ w'.cell? (ad532.add ((x16_5).toNat * 2)) = some (.int .i64 ((rd_T37 (rd_L15 t511 x12_3) x16_5).f0)) ∧ w'.cell? ⟨(ad532.add ((x16_5).toNat * 2)).block, (ad532.add ((x16_5).toNat * 2)).off + 1, none⟩ = some (.int .i64 ((rd_T37 (rd_L15 t511 x12_3) x16_5).f1))) (ds := []) (tf 0 21) (by kernel_rfl) rfl rfl ⟨(jC BK526.out 0).trans rfl, (jC BK526.out 1).trans rfl, (jC BK518.out 0).trans rfl, (jC BK518.out 1).trans rfl, hx529_0, hx530_0, hx530_1, hx531_0, hx532_0, hx532_1⟩ (fun hHeld => ?_); refine with_tabW sl14_StatesMore.tab29 sl14_StatesMore.bits29 (fun HT_ HW_ => ?_)
                                generalize wr.drew = w106 at HO_495003 HO_496002 HO_499003 HO_519000 HO_519001 HO_527000 HO_527001 HL528_0 BK494 BK495 BK498 BK518 BK526 HR527_0 HR528_0 HB HL529_0 HL531_0 HR529_0 HR531_0 hx529_0 hx530_0 hx530_1 hx531_0 hx532_0 hx532_1 hHeld ⊢
                                refine pure_ (i := 0) (N := some 100) (v := ?_) (a' := ?_) (tf 1 20) rfl rfl (any_of HT_.out (by kernel_rfl)) (fun _ _ _ h => h) (Or.inl ⟨by rfl, ?_⟩) ?_ ?_
                                rotate_left
                                ·intro w';go_simp;with_reducible rfl
                                rotate_left
                                ·simp only [Act.put, sA, i64_w, i32_w];rfl
                                refine pure_ (i := 1) (N := some 101) (v := ?_) (a' := ?_) (tf 2 19) rfl rfl (any_of HT_.out (by kernel_rfl)) (fun _ _ _ h => h) (Or.inl ⟨by rfl, ?_⟩) ?_ ?_
                                rotate_left
                                ·intro w';go_simp;with_reducible rfl
                                rotate_left
                                ·simp only [Act.put, sA, i64_w, i32_w];rfl
                                refine pure_ (i := 2) (N := some 102) (v := ?_) (a' := ?_) (tf 3 18) rfl rfl (any_of HT_.out (by kernel_rfl)) (fun _ _ _ h => h) (Or.inl ⟨by rfl, ?_⟩) ?_ ?_
                                rotate_left
                                ·intro w';go_simp;with_reducible rfl
                                rotate_left
                                ·simp only [Act.put, sA, i64_w, i32_w];rfl
                                refine pure_ (i := 4) (N := some 104) (v := ?_) (a' := ?_) #[true, true, true, false, true, false, false, false, false, false, false, false, false, false, false, false, false, false, false, false, false] rfl rfl (any_of HT_.out (by kernel_rfl)) (fun _ _ _ h => h) (Or.inl ⟨by rfl, ?_⟩) ?_ ?_
                                rotate_left
                                ·intro w';go_simp;with_reducible rfl
                                rotate_left
                                ·simp only [Act.put, sA, i64_w, i32_w];rfl
                                refine pure_ (i := 7) (N := some 107) (v := ?_) (a' := ?_) #[true, true, true, false, true, false, false, true, false, false, false, false, false, false, false, false, false, false, false, false, false] rfl rfl (any_of HT_.out (by kernel_rfl)) (fun _ _ _ h => h) (Or.inl ⟨by rfl, ?_⟩) ?_ ?_
                                rotate_left
                                ·intro w';go_simp;with_reducible rfl
                                rotate_left
                                ·simp only [Act.put, sA, i64_w, i32_w];rfl
                                refine pure_ (i := 10) (N := some 110) (v := ?_) (a' := ?_) #[true, true, true, false, true, false, false, true, false, false, true, false, false, false, false, false, false, false, false, false, false] rfl rfl (any_of HT_.out (by kernel_rfl)) (fun _ _ _ h => h) (Or.inl ⟨by rfl, ?_⟩) ?_ ?_
                                rotate_left
                                ·intro w';go_simp;with_reducible rfl
                                rotate_left
                                ·simp only [Act.put, sA, i64_w, i32_w];rfl
                                refine pure_ (i := 12) (N := some 112) (v := ?_) (a' := ?_) #[true, true, true, false, true, false, false, true, false, false, true, false, true, false, false, false, false, false, false, false, false] rfl rfl (any_of HT_.out (by kernel_rfl)) (fun _ _ _ h => h) (Or.inl ⟨by rfl, ?_⟩) ?_ ?_
                                rotate_left
                                ·intro w';go_simp;with_reducible rfl
                                rotate_left
                                ·simp only [Act.put, sA, i64_w, i32_w];rfl
                                refine pure_ (i := 15) (N := some 115) (v := ?_) (a' := ?_) #[true, true, true, false, true, false, false, true, false, false, true, false, true, false, false, true, false, false, false, false, false] rfl rfl (any_of HT_.out (by kernel_rfl)) (fun _ _ _ h => h) (Or.inl ⟨by rfl, ?_⟩) ?_ ?_
                                rotate_left
                                ·intro w';go_simp;with_reducible rfl
                                rotate_left
                                ·simp only [Act.put, sA, i64_w, i32_w];rfl
                                refine take_ (i := 3) (N := some 103) (v := ?_) (a' := ?_) #[true, true, true, true, true, false, false, true, false, false, true, false, true, false, false, true, false, false, false, false, false] rfl rfl (take_ofW HT_.out HW_.out (by kernel_rfl)) (fun _ _ _ h => h) (Or.inl ⟨by rfl, ?_⟩) hHeld ?_ ?_
                                rotate_left
                                ·rintro w' ⟨s0, s1, s2, s3, s4, s5, s6, s7, s8, s9⟩;go_simp;with_reducible rfl
                                rotate_left
                                ·simp only [Act.put, sA, i64_w, i32_w];rfl
                                refine pure_ (i := 5) (N := some 105) (v := ?_) (a' := ?_) #[true, true, true, true, true, true, false, true, false, false, true, false, true, false, false, true, false, false, false, false, false] rfl rfl (any_of HT_.out (by kernel_rfl)) (fun _ _ _ h => h) (Or.inl ⟨by rfl, ?_⟩) ?_ ?_
                                rotate_left
                                ·intro w';go_simp;with_reducible rfl
                                rotate_left
                                ·simp only [Act.put, sA, i64_w, i32_w];rfl
                                refine take_ (i := 6) (N := some 106) (v := ?_) (a' := ?_) #[true, true, true, true, true, true, true, true, false, false, true, false, true, false, false, true, false, false, false, false, false] rfl rfl (take_ofW HT_.out HW_.out (by kernel_rfl)) (fun _ _ _ h => h) (Or.inl ⟨by rfl, ?_⟩) hHeld ?_ ?_
                                rotate_left
                                ·rintro w' ⟨s0, s1, s2, s3, s4, s5, s6, s7, s8, s9⟩;go_simp;with_reducible rfl
                                rotate_left
                                ·simp only [Act.put, sA, i64_w, i32_w];rfl
                                refine pure_ (i := 8) (N := some 108) (v := ?_) (a' := ?_) #[true, true, true, true, true, true, true, true, true, false, true, false, true, false, false, true, false, false, false, false, false] rfl rfl (any_of HT_.out (by kernel_rfl)) (fun _ _ _ h => h) (Or.inl ⟨by rfl, ?_⟩) ?_ ?_
                                rotate_left
                                ·intro w';go_simp;with_reducible rfl
                                rotate_left
                                ·simp only [Act.put, sA, i64_w, i32_w];rfl
                                refine take_ (i := 9) (N := some 109) (v := ?_) (a' := ?_) #[true, true, true, true, true, true, true, true, true, true, true, false, true, false, false, true, false, false, false, false, false] rfl rfl (take_ofW HT_.out HW_.out (by kernel_rfl)) (fun _ _ _ h => h) (Or.inl ⟨by rfl, ?_⟩) hHeld ?_ ?_
                                rotate_left
                                ·rintro w' ⟨s0, s1, s2, s3, s4, s5, s6, s7, s8, s9⟩;go_simp;with_reducible rfl
                                rotate_left
                                ·simp only [Act.put, sA, i64_w, i32_w];rfl
                                refine take_ (i := 11) (N := some 111) (v := ?_) (a' := ?_) #[true, true, true, true, true, true, true, true, true, true, true, true, true, false, false, true, false, false, false, false, false] rfl rfl (take_ofW HT_.out HW_.out (by kernel_rfl)) (fun _ _ _ h => h) (Or.inl ⟨by rfl, ?_⟩) hHeld ?_ ?_
                                rotate_left
                                ·rintro w' ⟨s0, s1, s2, s3, s4, s5, s6, s7, s8, s9⟩;go_simp;with_reducible rfl
                                rotate_left
                                ·simp only [Act.put, sA, i64_w, i32_w];rfl
                                refine pure_ (i := 13) (N := some 113) (v := ?_) (a' := ?_) #[true, true, true, true, true, true, true, true, true, true, true, true, true, true, false, true, false, false, false, false, false] rfl rfl (any_of HT_.out (by kernel_rfl)) (fun _ _ _ h => h) (Or.inl ⟨by rfl, ?_⟩) ?_ ?_
                                rotate_left
                                ·intro w';go_simp;with_reducible rfl
                                rotate_left
                                ·simp only [Act.put, sA, i64_w, i32_w];rfl
                                refine take_ (i := 14) (N := some 114) (v := ?_) (a' := ?_) (tf 16 5) rfl rfl (take_ofW HT_.out HW_.out (by kernel_rfl)) (fun _ _ _ h => h) (Or.inl ⟨by rfl, ?_⟩) hHeld ?_ ?_
                                rotate_left
                                ·rintro w' ⟨s0, s1, s2, s3, s4, s5, s6, s7, s8, s9⟩;go_simp;with_reducible rfl
                                rotate_left
                                ·simp only [Act.put, sA, i64_w, i32_w];rfl
                                refine pure_ (i := 16) (N := some 116) (v := ?_) (a' := ?_) (tf 17 4) rfl rfl (any_of HT_.out (by kernel_rfl)) (fun _ _ _ h => h) (Or.inl ⟨by rfl, ?_⟩) ?_ ?_
                                rotate_left
                                ·intro w';go_simp;with_reducible rfl
                                rotate_left
                                ·simp only [Act.put, sA, i64_w, i32_w];rfl
                                refine take_ (i := 17) (N := some 117) (v := ?_) (a' := ?_) (tf 18 3) rfl rfl (take_ofW HT_.out HW_.out (by kernel_rfl)) (fun _ _ _ h => h) (Or.inl ⟨by rfl, ?_⟩) hHeld ?_ ?_
                                rotate_left
                                ·rintro w' ⟨s0, s1, s2, s3, s4, s5, s6, s7, s8, s9⟩;go_simp;with_reducible rfl
                                rotate_left
                                ·simp only [Act.put, sA, i64_w, i32_w];rfl
                                refine pure_ (i := 18) (N := some 118) (v := ?_) (a' := ?_) (tf 19 2) rfl rfl (any_of HT_.out (by kernel_rfl)) (fun _ _ _ h => h) (Or.inl ⟨by rfl, ?_⟩) ?_ ?_
                                rotate_left
                                ·intro w';go_simp;with_reducible rfl
                                rotate_left
                                ·simp only [Act.put, sA, i64_w, i32_w];rfl
                                refine pure_ (i := 19) (N := some 119) (v := ?_) (a' := ?_) (tf 20 1) rfl rfl (any_of HT_.out (by kernel_rfl)) (fun _ _ _ h => h) (Or.inl ⟨by rfl, ?_⟩) ?_ ?_
                                rotate_left
                                ·intro w';go_simp;with_reducible rfl
                                rotate_left
                                ·simp only [Act.put, sA, i64_w, i32_w];rfl
                                refine pure_ (i := 20) (N := some 17) (v := ?_) (a' := ?_) (tf 21 0) rfl rfl (any_of HT_.out (by kernel_rfl)) (fun _ _ _ h => h) (Or.inl ⟨by rfl, ?_⟩) ?_ ?_
                                rotate_left
                                ·intro w';go_simp;with_reducible rfl
                                rotate_left
                                ·simp only [Act.put, sA, i64_w, i32_w];rfl
                                refine done_ (done_of HT_.out (by kernel_rfl)) ?_
                                try go_wp2
                                go_roundg k6
                                case measure => have := HJ5.out; have := HJ24.out; have := HK3.out; have := HK4.out; have := HK5.out; have := HK6.out; omega
                                case rel => exact ⟨((((rd_T37 (rd_L15 t519 x14_4) x18_6).f0) == ((rd_T37 (rd_L15 t511 x12_3) x16_5).f0) && (((rd_T37 (rd_L15 t519 x14_4) x18_6).f1) == ((rd_T37 (rd_L15 t511 x12_3) x16_5).f1)))), (wrap64 (x18_6 + 1)), (by first | rfl | (simp; done) | (simp [*]; done)), (by first | rfl | (simp; done) | (simp [*]; done)), H', ⟨by have := HJ5.out; have := HJ24.out; have := HK3.out; have := HK4.out; have := HK5.out; have := HK6.out; omega⟩, ⟨by (with_reducible repeat (first | apply jt | apply ju | apply jv)); exact HO_495003.out⟩, ⟨by (with_reducible repeat (first | apply jt | apply ju | apply jv)); exact HO_496002.out⟩, ⟨by (with_reducible repeat (first | apply jn | apply jo | apply jp)); exact HO_499003.out⟩, ⟨by (with_reducible repeat (first | apply jn | apply jo | apply jp)); exact HO_519000.out⟩, ⟨by (with_reducible repeat (first | apply jn | apply jo | apply jp)); exact HO_519001.out⟩, ⟨by (with_reducible repeat (first | apply jn | apply jo | apply jp)); exact HO_527000.out⟩, ⟨by (with_reducible repeat (first | apply jn | apply jo | apply jp)); exact HO_527001.out⟩, ⟨by (with_reducible repeat (first | refine jY ?_ _ | refine jZ ?_ | refine jX ?_ _)); exact BK494.out⟩, ⟨by (with_reducible repeat (first | refine jY ?_ _ | refine jZ ?_ | refine jX ?_ _)); exact BK495.out⟩, ⟨by (with_reducible repeat (first | refine jY ?_ _ | refine jZ ?_ | refine jX ?_ _)); exact BK498.out⟩, ⟨by (with_reducible repeat (first | refine jY ?_ _ | refine jZ ?_ | refine jX ?_ _)); exact BK518.out⟩, ⟨by (with_reducible repeat (first | refine jY ?_ _ | refine jZ ?_ | refine jX ?_ _)); exact BK526.out⟩, ⟨by repeat (first | (with_reducible exact HR527_0.out) | (with_reducible refine Kd.C_alloc ?_ _) | (with_reducible refine Kd.C_drewN ?_ _) | (with_reducible refine Kd.C_drew ?_) | exact HR527_0.out)⟩, ⟨by repeat (first | (with_reducible first | exact HB.out | apply jA | apply jN | apply jD | refine jS ?_ GE494.out | refine jS ?_ GE495.out | refine jS ?_ GE498.out | refine jS ?_ GE518.out | refine jS ?_ GE526.out) | exact HB.out)⟩⟩
                               ·rw [if_neg c100] at H
                                exact absurd H (by simp)
                              ·rw [if_neg c99] at H
                               exact absurd H (by simp)
                             ·rw [if_neg c98] at H
                              exact absurd H (by simp)
                            ·rw [if_neg c97] at H
                             exact absurd H (by simp)
                           ·rw [if_neg c96] at H
                            exact absurd H (by simp)
                         ·rw [if_neg c88] at H
                          have c88b0 : decide (x18_6 < ((rd_L15 t519 x14_4).length : Int)) = false := decide_eq_false c88
                          clear c88
                          by_cases c107 : x15_5 = true
                          ·subst c107
                           have H1 : (sl14_StatesMore.l2 k6 true x12_3 x13_4 x14_4 x17_6 (wrap64 (x16_5 + 1)) t511 t514 t519 t522) = some r := by rw [if_pos rfl] at H; exact H
                           clear H
                           have H := H1
                           clear H1
                           have H' := jM H
                           clear H
                           have hnb108 := NB526_494.out
                           have hnc108 := NB494_526.out
                           have hnb109 := NB526_495.out
                           have hnc109 := NB495_526.out
                           have hnb110 := NB526_498.out
                           have hnc110 := NB498_526.out
                           have hnb111 := NB526_518.out
                           have hnc111 := NB518_526.out
                           have hcz112_0 : wr.cell? ⟨gb526, 0, none⟩ = some (.slice Ao57 t519.length co57) := (jC BK526.out 0).trans rfl
                           have hcz112_1 : wr.cell? ⟨gb526, 1, none⟩ = some (.slice Ao63 t522.length co63) := (jC BK526.out 1).trans rfl
                           have hfz112_0 := jF BK526.out 0
                           have hfz112_1 := jF BK526.out 1
                           have p528 : 0 ≤ (x14_4 : Int) := of_decide_eq_true (by first | (with_reducible assumption) | assumption)
                           have q528 : x14_4 < (t519.length : Int) := of_decide_eq_true (by first | (with_reducible assumption) | assumption)
                           obtain ⟨ad528, A528_0, c528_0, e528, hx528_0, hl528_0, hi528_0⟩ := at_L15 (Kd.N_reads' HO_527000.out).2.2 x14_4 p528 q528
                           cases e528
                           obtain ⟨ce528, hce528, hMe528, hcc528⟩ := Kd.N_get HO_527000.out [] x14_4 p528 (by first | exact q528 | exact of_decide_eq_true (by first | (with_reducible assumption) | assumption) | (have e_ := (Kd.N_reads' HO_527000.out).1; omega))
                           obtain ⟨ua528_0, uc528_0, rfl, ul528_0, ge528_0⟩ := Kd.FK_slice_open hMe528
                           have hv528_0 := hcc528 0 _ rfl
                           rw [Nat.add_zero, show ((Kd.slice 37 k37)).sz = 1 from rfl, Nat.mul_one] at hv528_0
                           replace hv528_0 := Option.some.inj (hv528_0.symm.trans hx528_0)
                           injection hv528_0 with hva_ hvn_ hvc_
                           rw [hva_] at ge528_0
                           rw [hvc_] at ul528_0
                           have HL528_0 := jM (show Kd.V k37 37 _ w.heap.size _ _ (rd_L15 t519 x14_4) from Kd.V_mk ul528_0 ge528_0)
                           clear hva_ hvn_ hvc_ ge528_0 ul528_0 hcc528 hce528
                           have HR528_0 := jM hi528_0
                           have HC528_0 := jM hl528_0
                           clear hi528_0 hl528_0
                           replace p528 := eq_true p528
                           replace q528 := eq_true q528
                           go_wp2
                           go_roundg k6
                           case measure => have := HJ5.out; have := HJ24.out; have := HK3.out; have := HK4.out; have := HK5.out; have := HK6.out; omega
                           case rel => exact ⟨(x17_6), (wrap64 (x16_5 + 1)), (by first | rfl | (simp; done) | (simp [*]; done)), (by first | rfl | (simp; done) | (simp [*]; done)), H', ⟨by have := HJ5.out; have := HJ24.out; have := HK3.out; have := HK4.out; have := HK5.out; have := HK6.out; omega⟩, ⟨by (with_reducible repeat (first | apply jt | apply ju | apply jv)); exact HO_495003.out⟩, ⟨by (with_reducible repeat (first | apply jt | apply ju | apply jv)); exact HO_496002.out⟩, ⟨by (with_reducible repeat (first | apply jn | apply jo | apply jp)); exact HO_499003.out⟩, ⟨by (with_reducible repeat (first | apply jn | apply jo | apply jp)); exact HO_519000.out⟩, ⟨by (with_reducible repeat (first | apply jn | apply jo | apply jp)); exact HO_519001.out⟩, ⟨by (with_reducible repeat (first | apply jn | apply jo | apply jp)); exact HO_527000.out⟩, ⟨by (with_reducible repeat (first | apply jn | apply jo | apply jp)); exact HO_527001.out⟩, ⟨by (with_reducible repeat (first | refine jY ?_ _ | refine jZ ?_ | refine jX ?_ _)); exact BK494.out⟩, ⟨by (with_reducible repeat (first | refine jY ?_ _ | refine jZ ?_ | refine jX ?_ _)); exact BK495.out⟩, ⟨by (with_reducible repeat (first | refine jY ?_ _ | refine jZ ?_ | refine jX ?_ _)); exact BK498.out⟩, ⟨by (with_reducible repeat (first | refine jY ?_ _ | refine jZ ?_ | refine jX ?_ _)); exact BK518.out⟩, ⟨by (with_reducible repeat (first | refine jY ?_ _ | refine jZ ?_ | refine jX ?_ _)); exact BK526.out⟩, ⟨by repeat (first | (with_reducible first | exact HB.out | apply jA | apply jN | apply jD | refine jS ?_ GE494.out | refine jS ?_ GE495.out | refine jS ?_ GE498.out | refine jS ?_ GE518.out | refine jS ?_ GE526.out) | exact HB.out)⟩⟩
                          ·replace c107 := Bool.eq_false_iff.mpr c107
                           subst c107
                           have H1 : (sl14_StatesMore.l2 k6 true x12_3 x13_4 x14_4 false (wrap64 (x16_5 + 1)) t511 t514 t519 t522) = some r := by rw [if_neg (show ¬ (false = true) by decide)] at H; exact H
                           clear H
                           have H := H1
                           clear H1
                           have H' := jM H
                           clear H
                           have hnb113 := NB526_494.out
                           have hnc113 := NB494_526.out
                           have hnb114 := NB526_495.out
                           have hnc114 := NB495_526.out
                           have hnb115 := NB526_498.out
                           have hnc115 := NB498_526.out
                           have hnb116 := NB526_518.out
                           have hnc116 := NB518_526.out
                           have hcz117_0 : wr.cell? ⟨gb526, 0, none⟩ = some (.slice Ao57 t519.length co57) := (jC BK526.out 0).trans rfl
                           have hcz117_1 : wr.cell? ⟨gb526, 1, none⟩ = some (.slice Ao63 t522.length co63) := (jC BK526.out 1).trans rfl
                           have hfz117_0 := jF BK526.out 0
                           have hfz117_1 := jF BK526.out 1
                           have p528 : 0 ≤ (x14_4 : Int) := of_decide_eq_true (by first | (with_reducible assumption) | assumption)
                           have q528 : x14_4 < (t519.length : Int) := of_decide_eq_true (by first | (with_reducible assumption) | assumption)
                           obtain ⟨ad528, A528_0, c528_0, e528, hx528_0, hl528_0, hi528_0⟩ := at_L15 (Kd.N_reads' HO_527000.out).2.2 x14_4 p528 q528
                           cases e528
                           obtain ⟨ce528, hce528, hMe528, hcc528⟩ := Kd.N_get HO_527000.out [] x14_4 p528 (by first | exact q528 | exact of_decide_eq_true (by first | (with_reducible assumption) | assumption) | (have e_ := (Kd.N_reads' HO_527000.out).1; omega))
                           obtain ⟨ua528_0, uc528_0, rfl, ul528_0, ge528_0⟩ := Kd.FK_slice_open hMe528
                           have hv528_0 := hcc528 0 _ rfl
                           rw [Nat.add_zero, show ((Kd.slice 37 k37)).sz = 1 from rfl, Nat.mul_one] at hv528_0
                           replace hv528_0 := Option.some.inj (hv528_0.symm.trans hx528_0)
                           injection hv528_0 with hva_ hvn_ hvc_
                           rw [hva_] at ge528_0
                           rw [hvc_] at ul528_0
                           have HL528_0 := jM (show Kd.V k37 37 _ w.heap.size _ _ (rd_L15 t519 x14_4) from Kd.V_mk ul528_0 ge528_0)
                           clear hva_ hvn_ hvc_ ge528_0 ul528_0 hcc528 hce528
                           have HR528_0 := jM hi528_0
                           have HC528_0 := jM hl528_0
                           clear hi528_0 hl528_0
                           replace p528 := eq_true p528
                           replace q528 := eq_true q528
                           go_wp2
                           go_roundg k6
                           case measure => have := HJ5.out; have := HJ24.out; have := HK3.out; have := HK4.out; have := HK5.out; have := HK6.out; omega
                           case rel => exact ⟨(false), (wrap64 (x16_5 + 1)), (by first | rfl | (simp; done) | (simp [*]; done)), (by first | rfl | (simp; done) | (simp [*]; done)), H', ⟨by have := HJ5.out; have := HJ24.out; have := HK3.out; have := HK4.out; have := HK5.out; have := HK6.out; omega⟩, ⟨by (with_reducible repeat (first | apply jt | apply ju | apply jv)); exact HO_495003.out⟩, ⟨by (with_reducible repeat (first | apply jt | apply ju | apply jv)); exact HO_496002.out⟩, ⟨by (with_reducible repeat (first | apply jn | apply jo | apply jp)); exact HO_499003.out⟩, ⟨by (with_reducible repeat (first | apply jn | apply jo | apply jp)); exact HO_519000.out⟩, ⟨by (with_reducible repeat (first | apply jn | apply jo | apply jp)); exact HO_519001.out⟩, ⟨by (with_reducible repeat (first | apply jn | apply jo | apply jp)); exact HO_527000.out⟩, ⟨by (with_reducible repeat (first | apply jn | apply jo | apply jp)); exact HO_527001.out⟩, ⟨by (with_reducible repeat (first | refine jY ?_ _ | refine jZ ?_ | refine jX ?_ _)); exact BK494.out⟩, ⟨by (with_reducible repeat (first | refine jY ?_ _ | refine jZ ?_ | refine jX ?_ _)); exact BK495.out⟩, ⟨by (with_reducible repeat (first | refine jY ?_ _ | refine jZ ?_ | refine jX ?_ _)); exact BK498.out⟩, ⟨by (with_reducible repeat (first | refine jY ?_ _ | refine jZ ?_ | refine jX ?_ _)); exact BK518.out⟩, ⟨by (with_reducible repeat (first | refine jY ?_ _ | refine jZ ?_ | refine jX ?_ _)); exact BK526.out⟩, ⟨by repeat (first | (with_reducible first | exact HB.out | apply jA | apply jN | apply jD | refine jS ?_ GE494.out | refine jS ?_ GE495.out | refine jS ?_ GE498.out | refine jS ?_ GE518.out | refine jS ?_ GE526.out) | exact HB.out)⟩⟩
                        ·rw [if_neg c87] at H
                         exact absurd H (by simp)
                       ·rw [if_neg c86] at H
                        exact absurd H (by simp)
                    ·rw [if_neg c80] at H
                     have c80b0 : decide (x16_5 < ((rd_L15 t511 x12_3).length : Int)) = false := decide_eq_false c80
                     clear c80
                     by_cases c118 : x13_4 = true
                     ·subst c118
                      have H1 : (sl14_StatesMore.l1 k5 true x12_3 true (wrap64 (x14_4 + 1)) t511 t514 t519 t522) = some r := by rw [if_pos rfl] at H; exact H
                      clear H
                      have H := H1
                      clear H1
                      have H' := jM H
                      clear H
                      have hnb119 := NB518_494.out
                      have hnc119 := NB494_518.out
                      have hnb120 := NB518_495.out
                      have hnc120 := NB495_518.out
                      have hnb121 := NB518_498.out
                      have hnc121 := NB498_518.out
                      have hnb122 := NB518_526.out
                      have hnc122 := NB526_518.out
                      have hcz123_0 : wr.cell? ⟨gb518, 0, none⟩ = some (.slice Ao48 t511.length co48) := (jC BK518.out 0).trans rfl
                      have hcz123_1 : wr.cell? ⟨gb518, 1, none⟩ = some (.slice Ao53 t514.length co53) := (jC BK518.out 1).trans rfl
                      have hfz123_0 := jF BK518.out 0
                      have hfz123_1 := jF BK518.out 1
                      have p527 : 0 ≤ (x12_3 : Int) := of_decide_eq_true (by first | (with_reducible assumption) | assumption)
                      have q527 : x12_3 < (t511.length : Int) := of_decide_eq_true (by first | (with_reducible assumption) | assumption)
                      obtain ⟨ad527, A527_0, c527_0, e527, hx527_0, hl527_0, hi527_0⟩ := at_L15 (Kd.N_reads' HO_519000.out).2.2 x12_3 p527 q527
                      cases e527
                      obtain ⟨ce527, hce527, hMe527, hcc527⟩ := Kd.N_get HO_519000.out [] x12_3 p527 (by first | exact q527 | exact of_decide_eq_true (by first | (with_reducible assumption) | assumption) | (have e_ := (Kd.N_reads' HO_519000.out).1; omega))
                      obtain ⟨ua527_0, uc527_0, rfl, ul527_0, ge527_0⟩ := Kd.FK_slice_open hMe527
                      have hv527_0 := hcc527 0 _ rfl
                      rw [Nat.add_zero, show ((Kd.slice 37 k37)).sz = 1 from rfl, Nat.mul_one] at hv527_0
                      replace hv527_0 := Option.some.inj (hv527_0.symm.trans hx527_0)
                      injection hv527_0 with hva_ hvn_ hvc_
                      rw [hva_] at ge527_0
                      rw [hvc_] at ul527_0
                      have HL527_0 := jM (show Kd.V k37 37 _ w.heap.size _ _ (rd_L15 t511 x12_3) from Kd.V_mk ul527_0 ge527_0)
                      clear hva_ hvn_ hvc_ ge527_0 ul527_0 hcc527 hce527
                      have HR527_0 := jM hi527_0
                      have HC527_0 := jM hl527_0
                      clear hi527_0 hl527_0
                      replace p527 := eq_true p527
                      replace q527 := eq_true q527
                      go_wp2
                      go_roundg k5
                      case measure => have := HJ5.out; have := HJ24.out; have := HK3.out; have := HK4.out; have := HK5.out; omega
                      case rel => exact ⟨(true), (wrap64 (x14_4 + 1)), (by first | rfl | (simp; done) | (simp [*]; done)), (by first | rfl | (simp; done) | (simp [*]; done)), H', ⟨by have := HJ5.out; have := HJ24.out; have := HK3.out; have := HK4.out; have := HK5.out; omega⟩, ⟨by (with_reducible repeat (first | apply jt | apply ju | apply jv)); exact HO_495003.out⟩, ⟨by (with_reducible repeat (first | apply jt | apply ju | apply jv)); exact HO_496002.out⟩, ⟨by (with_reducible repeat (first | apply jn | apply jo | apply jp)); exact HO_499003.out⟩, ⟨by (with_reducible repeat (first | apply jn | apply jo | apply jp)); exact HO_519000.out⟩, ⟨by (with_reducible repeat (first | apply jn | apply jo | apply jp)); exact HO_519001.out⟩, ⟨by (with_reducible repeat (first | apply jn | apply jo | apply jp)); exact HO_527000.out⟩, ⟨by (with_reducible repeat (first | apply jn | apply jo | apply jp)); exact HO_527001.out⟩, ⟨by (with_reducible repeat (first | refine jY ?_ _ | refine jZ ?_ | refine jX ?_ _)); exact BK494.out⟩, ⟨by (with_reducible repeat (first | refine jY ?_ _ | refine jZ ?_ | refine jX ?_ _)); exact BK495.out⟩, ⟨by (with_reducible repeat (first | refine jY ?_ _ | refine jZ ?_ | refine jX ?_ _)); exact BK498.out⟩, ⟨by (with_reducible repeat (first | refine jY ?_ _ | refine jZ ?_ | refine jX ?_ _)); exact BK518.out⟩, ⟨by (with_reducible repeat (first | refine jY ?_ _ | refine jZ ?_ | refine jX ?_ _)); exact BK526.out⟩, ⟨by repeat (first | (with_reducible first | exact HB.out | apply jA | apply jN | apply jD | refine jS ?_ GE494.out | refine jS ?_ GE495.out | refine jS ?_ GE498.out | refine jS ?_ GE518.out | refine jS ?_ GE526.out) | exact HB.out)⟩⟩
                     ·replace c118 := Bool.eq_false_iff.mpr c118
                      subst c118
                      have H1 : (sl14_StatesMore.l1 k5 true x12_3 x15_5 (wrap64 (x14_4 + 1)) t511 t514 t519 t522) = some r := by rw [if_neg (show ¬ (false = true) by decide)] at H; exact H
                      clear H
                      have H := H1
                      clear H1
                      have H' := jM H
                      clear H
                      have hnb124 := NB518_494.out
                      have hnc124 := NB494_518.out
                      have hnb125 := NB518_495.out
                      have hnc125 := NB495_518.out
                      have hnb126 := NB518_498.out
                      have hnc126 := NB498_518.out
                      have hnb127 := NB518_526.out
                      have hnc127 := NB526_518.out
                      have hcz128_0 : wr.cell? ⟨gb518, 0, none⟩ = some (.slice Ao48 t511.length co48) := (jC BK518.out 0).trans rfl
                      have hcz128_1 : wr.cell? ⟨gb518, 1, none⟩ = some (.slice Ao53 t514.length co53) := (jC BK518.out 1).trans rfl
                      have hfz128_0 := jF BK518.out 0
                      have hfz128_1 := jF BK518.out 1
                      have p527 : 0 ≤ (x12_3 : Int) := of_decide_eq_true (by first | (with_reducible assumption) | assumption)
                      have q527 : x12_3 < (t511.length : Int) := of_decide_eq_true (by first | (with_reducible assumption) | assumption)
                      obtain ⟨ad527, A527_0, c527_0, e527, hx527_0, hl527_0, hi527_0⟩ := at_L15 (Kd.N_reads' HO_519000.out).2.2 x12_3 p527 q527
                      cases e527
                      obtain ⟨ce527, hce527, hMe527, hcc527⟩ := Kd.N_get HO_519000.out [] x12_3 p527 (by first | exact q527 | exact of_decide_eq_true (by first | (with_reducible assumption) | assumption) | (have e_ := (Kd.N_reads' HO_519000.out).1; omega))
                      obtain ⟨ua527_0, uc527_0, rfl, ul527_0, ge527_0⟩ := Kd.FK_slice_open hMe527
                      have hv527_0 := hcc527 0 _ rfl
                      rw [Nat.add_zero, show ((Kd.slice 37 k37)).sz = 1 from rfl, Nat.mul_one] at hv527_0
                      replace hv527_0 := Option.some.inj (hv527_0.symm.trans hx527_0)
                      injection hv527_0 with hva_ hvn_ hvc_
                      rw [hva_] at ge527_0
                      rw [hvc_] at ul527_0
                      have HL527_0 := jM (show Kd.V k37 37 _ w.heap.size _ _ (rd_L15 t511 x12_3) from Kd.V_mk ul527_0 ge527_0)
                      clear hva_ hvn_ hvc_ ge527_0 ul527_0 hcc527 hce527
                      have HR527_0 := jM hi527_0
                      have HC527_0 := jM hl527_0
                      clear hi527_0 hl527_0
                      replace p527 := eq_true p527
                      replace q527 := eq_true q527
                      go_wp2
                      go_roundg k5
                      case measure => have := HJ5.out; have := HJ24.out; have := HK3.out; have := HK4.out; have := HK5.out; omega
                      case rel => exact ⟨(x15_5), (wrap64 (x14_4 + 1)), (by first | rfl | (simp; done) | (simp [*]; done)), (by first | rfl | (simp; done) | (simp [*]; done)), H', ⟨by have := HJ5.out; have := HJ24.out; have := HK3.out; have := HK4.out; have := HK5.out; omega⟩, ⟨by (with_reducible repeat (first | apply jt | apply ju | apply jv)); exact HO_495003.out⟩, ⟨by (with_reducible repeat (first | apply jt | apply ju | apply jv)); exact HO_496002.out⟩, ⟨by (with_reducible repeat (first | apply jn | apply jo | apply jp)); exact HO_499003.out⟩, ⟨by (with_reducible repeat (first | apply jn | apply jo | apply jp)); exact HO_519000.out⟩, ⟨by (with_reducible repeat (first | apply jn | apply jo | apply jp)); exact HO_519001.out⟩, ⟨by (with_reducible repeat (first | apply jn | apply jo | apply jp)); exact HO_527000.out⟩, ⟨by (with_reducible repeat (first | apply jn | apply jo | apply jp)); exact HO_527001.out⟩, ⟨by (with_reducible repeat (first | refine jY ?_ _ | refine jZ ?_ | refine jX ?_ _)); exact BK494.out⟩, ⟨by (with_reducible repeat (first | refine jY ?_ _ | refine jZ ?_ | refine jX ?_ _)); exact BK495.out⟩, ⟨by (with_reducible repeat (first | refine jY ?_ _ | refine jZ ?_ | refine jX ?_ _)); exact BK498.out⟩, ⟨by (with_reducible repeat (first | refine jY ?_ _ | refine jZ ?_ | refine jX ?_ _)); exact BK518.out⟩, ⟨by (with_reducible repeat (first | refine jY ?_ _ | refine jZ ?_ | refine jX ?_ _)); exact BK526.out⟩, ⟨by repeat (first | (with_reducible first | exact HB.out | apply jA | apply jN | apply jD | refine jS ?_ GE494.out | refine jS ?_ GE495.out | refine jS ?_ GE498.out | refine jS ?_ GE518.out | refine jS ?_ GE526.out) | exact HB.out)⟩⟩
                   ·rw [if_neg c79] at H
                    exact absurd H (by simp)
                  ·rw [if_neg c78] at H
                   exact absurd H (by simp)
               ·rw [if_neg c72] at H
                have c72b0 : decide (x14_4 < (t519.length : Int)) = false := decide_eq_false c72
                clear c72
                by_cases c129 : x13_4 = true
                ·subst c129
                 have H1 : (sl14_StatesMore.l0 k4 true (wrap64 (x12_3 + 1)) t511 t514 t519 t522) = some r := by rw [if_pos rfl] at H; exact H
                 clear H
                 have H := H1
                 clear H1
                 have H' := jM H
                 clear H
                 have hnb130 := NB526_494.out
                 have hnc130 := NB494_526.out
                 have hnb131 := NB526_495.out
                 have hnc131 := NB495_526.out
                 have hnb132 := NB526_498.out
                 have hnc132 := NB498_526.out
                 have hnb133 := NB526_518.out
                 have hnc133 := NB518_526.out
                 have hcz134_0 : wr.cell? ⟨gb526, 0, none⟩ = some (.slice Ao57 t519.length co57) := (jC BK526.out 0).trans rfl
                 have hcz134_1 : wr.cell? ⟨gb526, 1, none⟩ = some (.slice Ao63 t522.length co63) := (jC BK526.out 1).trans rfl
                 have hfz134_0 := jF BK526.out 0
                 have hfz134_1 := jF BK526.out 1
                 go_wp2
                 go_roundg k4
                 case measure => have := HJ5.out; have := HJ24.out; have := HK3.out; have := HK4.out; omega
                 case rel => exact ⟨(wrap64 (x12_3 + 1)), (by first | rfl | (simp; done) | (simp [*]; done)), H', ⟨by have := HJ5.out; have := HJ24.out; have := HK3.out; have := HK4.out; omega⟩, ⟨by (with_reducible repeat (first | apply jt | apply ju | apply jv)); exact HO_495003.out⟩, ⟨by (with_reducible repeat (first | apply jt | apply ju | apply jv)); exact HO_496002.out⟩, ⟨by (with_reducible repeat (first | apply jn | apply jo | apply jp)); exact HO_499003.out⟩, ⟨by (with_reducible repeat (first | apply jn | apply jo | apply jp)); exact HO_519000.out⟩, ⟨by (with_reducible repeat (first | apply jn | apply jo | apply jp)); exact HO_519001.out⟩, ⟨by (with_reducible repeat (first | apply jn | apply jo | apply jp)); exact HO_527000.out⟩, ⟨by (with_reducible repeat (first | apply jn | apply jo | apply jp)); exact HO_527001.out⟩, ⟨by (with_reducible repeat (first | refine jY ?_ _ | refine jZ ?_ | refine jX ?_ _)); exact BK494.out⟩, ⟨by (with_reducible repeat (first | refine jY ?_ _ | refine jZ ?_ | refine jX ?_ _)); exact BK495.out⟩, ⟨by (with_reducible repeat (first | refine jY ?_ _ | refine jZ ?_ | refine jX ?_ _)); exact BK498.out⟩, ⟨by (with_reducible repeat (first | refine jY ?_ _ | refine jZ ?_ | refine jX ?_ _)); exact BK518.out⟩, ⟨by (with_reducible repeat (first | refine jY ?_ _ | refine jZ ?_ | refine jX ?_ _)); exact BK526.out⟩, ⟨by repeat (first | (with_reducible first | exact HB.out | apply jA | apply jN | apply jD | refine jS ?_ GE494.out | refine jS ?_ GE495.out | refine jS ?_ GE498.out | refine jS ?_ GE518.out | refine jS ?_ GE526.out) | exact HB.out)⟩⟩
                ·replace c129 := Bool.eq_false_iff.mpr c129
                 subst c129
                 have H1 : (some false) = some r := by rw [if_neg (show ¬ (false = true) by decide)] at H; exact H
                 clear H
                 have H := H1
                 clear H1
                 exact absurd ((Option.some.inj H).trans HT.out) (by decide)
            ·rw [if_neg c66] at H
             have c66b0 : decide (x12_3 < (t511.length : Int)) = false := decide_eq_false c66
             clear c66
             obtain rfl := Option.some.inj H
             have hnb135 := NB518_494.out
             have hnc135 := NB494_518.out
             have hnb136 := NB518_495.out
             have hnc136 := NB495_518.out
             have hnb137 := NB518_498.out
             have hnc137 := NB498_518.out
             have hnb138 := NB518_526.out
             have hnc138 := NB526_518.out
             have hcz139_0 : wr.cell? ⟨gb518, 0, none⟩ = some (.slice Ao48 t511.length co48) := (jC BK518.out 0).trans rfl
             have hcz139_1 : wr.cell? ⟨gb518, 1, none⟩ = some (.slice Ao53 t514.length co53) := (jC BK518.out 1).trans rfl
             have hfz139_0 := jF BK518.out 0
             have hfz139_1 := jF BK518.out 1
             go_wp2
             go_ret
             exact ⟨by first | rfl | (simp [errW_none, errW_some] <;> rfl) | (simp [*, errW_none, errW_some] <;> rfl), by repeat (first | (with_reducible first | exact HB.out | apply jA | apply jN | apply jD | refine jS ?_ GE494.out | refine jS ?_ GE495.out | refine jS ?_ GE498.out | refine jS ?_ GE518.out | refine jS ?_ GE526.out) | exact HB.out)⟩
      ·rw [if_neg c22] at H
       exact absurd H (by simp)
     ·rw [if_neg c21] at H
      exact absurd H (by simp)
 ·replace c4 := Bool.eq_false_iff.mpr c4
  subst c4
  have H1 : (some false) = some r := by rw [if_neg (show ¬ (false = true) by decide)] at H; exact H
  clear H
  have H := H1
  clear H1
  exact absurd ((Option.some.inj H).trans HT.out) (by decide)

end Go.Proofs.YtclollnicbcooaaDoor.P
end
