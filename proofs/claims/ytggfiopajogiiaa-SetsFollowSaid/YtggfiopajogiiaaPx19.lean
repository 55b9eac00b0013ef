/- Functions of the given program as plain Lean functions, each with the proof that its call comes to that function's answer (conditions: the hypotheses of each '.calls'). Printed by wip/tools/pw.py, a wrapper round the kit's print. -/
import Derived.Test.YtggfiopajogiiaaPx0
import Derived.Test.YtggfiopajogiiaaPx3
import Derived.Test.YtggfiopajogiiaaPx4
import Derived.Test.YtggfiopajogiiaaPx18
import Derived.Test.YtggfiopajogiiaaSFirst
import Derived.Test.YtggfiopajogiiaaSFollow
import Derived.Test.YtggfiopajogiiaaSVal
namespace Go.Proofs.Ytggfiopajogiiaa.P
open Go.RowKit Go.Proofs.YtggfiopajogiiaaW.PrintWords Go.Proofs.YtggfiopajogiiaaW.PrintLast Go.Proofs.YtggfiopajogiiaaW.PrintMore
attribute [local go_sem] max2_int min2_int max_two min_two max_three min_three max_four min_four   -- for this text's walks alone
set_option linter.unusedVariables false
set_option linter.unusedSimpArgs false

/-! ### syntagmlaw13_SetsFollow: function 9 -/
def syntagmlaw13_SetsFollow.j0 : Nat → Int → Int → Bool → Bool → List (S51) → List (S63) → List ByteArray → List (S45) → Int → Option (Bool)
  | 0, _, _, _, _, _, _, _, _, _ => none
  | k + 1, x1, x2, x7, x61, x476000, x476001, x476002, x476003, x476004 => if x61 = true then (some x7) else ((sets_Follow.f k x476000 x476001 x476002 x476003 x476004).bind fun t482 => (if 0 ≤ x1 then (if x1 < (x476003.length : Int) then (if 0 ≤ x2 then (if x2 < (((rd_T45 x476003 x1).f2).length : Int) then (if x2 = (wrap64 ((((rd_T45 x476003 x1).f2).length : Int) - 1)) then (if x7 = true then (if 0 ≤ ((rd_T45 x476003 x1).f1) then (if ((rd_T45 x476003 x1).f1) < (t482.length : Int) then (if 0 ≤ (wrap64 ((-1) - (rd ((rd_T45 x476003 x1).f2) x2))) then (if (wrap64 ((-1) - (rd ((rd_T45 x476003 x1).f2) x2))) < (t482.length : Int) then ((bits_In.f (rd t482 ((rd_T45 x476003 x1).f1)) (rd t482 (wrap64 ((-1) - (rd ((rd_T45 x476003 x1).f2) x2))))).bind fun t490 => (some t490)) else (none)) else (none)) else (none)) else (none)) else (some false)) else (if 0 ≤ (wrap64 (x2 + 1)) then (if (wrap64 (x2 + 1)) < (((rd_T45 x476003 x1).f2).length : Int) then (if (rd ((rd_T45 x476003 x1).f2) (wrap64 (x2 + 1))) ≥ 0 then (if x7 = true then (if 0 ≤ (wrap64 ((-1) - (rd ((rd_T45 x476003 x1).f2) x2))) then (if (wrap64 ((-1) - (rd ((rd_T45 x476003 x1).f2) x2))) < (t482.length : Int) then ((bits_Has.f (rd t482 (wrap64 ((-1) - (rd ((rd_T45 x476003 x1).f2) x2)))) (rd ((rd_T45 x476003 x1).f2) (wrap64 (x2 + 1)))).bind fun t494 => (some t494)) else (none)) else (none)) else (some false)) else (if x7 = true then ((sets_First.f k x476000 x476001 x476002 x476003 x476004).bind fun t495 => (if 0 ≤ (wrap64 ((-1) - (rd ((rd_T45 x476003 x1).f2) (wrap64 (x2 + 1))))) then (if (wrap64 ((-1) - (rd ((rd_T45 x476003 x1).f2) (wrap64 (x2 + 1))))) < (t495.length : Int) then (if 0 ≤ (wrap64 ((-1) - (rd ((rd_T45 x476003 x1).f2) x2))) then (if (wrap64 ((-1) - (rd ((rd_T45 x476003 x1).f2) x2))) < (t482.length : Int) then ((bits_In.f (rd t495 (wrap64 ((-1) - (rd ((rd_T45 x476003 x1).f2) (wrap64 (x2 + 1)))))) (rd t482 (wrap64 ((-1) - (rd ((rd_T45 x476003 x1).f2) x2))))).bind fun t501 => (some t501)) else (none)) else (none)) else (none)) else (none))) else (some false))) else (none)) else (none))) else (none)) else (none)) else (none)) else (none)))
def syntagmlaw13_SetsFollow.f (k : Nat) (l0_0 : List (S51)) (l0_1 : List (S63)) (l0_2 : List ByteArray) (l0_3 : List (S45)) (a0_4 : Int) (a1 : Int) (a2 : Int) : Option (Bool) := (syntagmlaw13_works.f k).bind fun t476 => (if t476 = true then ((syntagmlaw13_Few.f k l0_0 l0_1 l0_2 l0_3 a0_4).bind fun t477 => (if t477 = true then ((inst_Valid.f l0_0 l0_1 l0_2 l0_3 a0_4).bind fun t478 => (if t478 = true then (if a1 < 0 then (syntagmlaw13_SetsFollow.j0 k a1 a2 t476 true l0_0 l0_1 l0_2 l0_3 a0_4) else (if a1 ≥ (l0_3.length : Int) then (syntagmlaw13_SetsFollow.j0 k a1 a2 t476 true l0_0 l0_1 l0_2 l0_3 a0_4) else (if a2 < 0 then (syntagmlaw13_SetsFollow.j0 k a1 a2 t476 true l0_0 l0_1 l0_2 l0_3 a0_4) else (if 0 ≤ a1 then (if a1 < (l0_3.length : Int) then (if a2 ≥ (((rd_T45 l0_3 a1).f2).length : Int) then (syntagmlaw13_SetsFollow.j0 k a1 a2 t476 true l0_0 l0_1 l0_2 l0_3 a0_4) else (if 0 ≤ a2 then (if a2 < (((rd_T45 l0_3 a1).f2).length : Int) then (syntagmlaw13_SetsFollow.j0 k a1 a2 t476 (decide ((rd ((rd_T45 l0_3 a1).f2) a2) ≥ 0)) l0_0 l0_1 l0_2 l0_3 a0_4) else (none)) else (none))) else (none)) else (none))))) else (syntagmlaw13_SetsFollow.j0 k a1 a2 t476 true l0_0 l0_1 l0_2 l0_3 a0_4))) else (syntagmlaw13_SetsFollow.j0 k a1 a2 t476 true l0_0 l0_1 l0_2 l0_3 a0_4))) else (some false))
theorem syntagmlaw13_SetsFollow.mono_l : ∀ k, (∀ y0 y1 y2 y3 y4 y5 y6 y7 y8, LeO (syntagmlaw13_SetsFollow.j0 k y0 y1 y2 y3 y4 y5 y6 y7 y8) (syntagmlaw13_SetsFollow.j0 (k + 1) y0 y1 y2 y3 y4 y5 y6 y7 y8))
  | 0 => fun _ _ _ _ _ _ _ _ _ r h => by simp [syntagmlaw13_SetsFollow.j0] at h
  | k + 1 => by
    have ih0 := syntagmlaw13_SetsFollow.mono_l k
    · intro y0 y1 y2 y3 y4 y5 y6 y7 y8
      unfold syntagmlaw13_SetsFollow.j0
      repeat' first
      | (with_reducible exact ih0 _ _ _ _ _ _ _ _ _)
      | (with_reducible exact sets_First.mono _ _ _ _ _ _)
      | (with_reducible exact sets_Follow.mono _ _ _ _ _ _)
      | (with_reducible exact syntagmlaw13_Few.mono _ _ _ _ _ _)
      | (with_reducible exact syntagmlaw13_works.mono _)
      | (with_reducible exact LeO.refl _)
      | (with_reducible exact LeO.none _)
      | (with_reducible refine LeO.ite ?_ ?_)
      | (with_reducible refine LeO.bind ?_ (fun _ => ?_))
      | exact ih0 _ _ _ _ _ _ _ _ _
      | exact sets_First.mono _ _ _ _ _ _
      | exact sets_Follow.mono _ _ _ _ _ _
      | exact syntagmlaw13_Few.mono _ _ _ _ _ _
      | exact syntagmlaw13_works.mono _
      | exact LeO.none _
      | refine LeO.ite ?_ ?_
      | refine LeO.bind ?_ (fun _ => ?_)
theorem syntagmlaw13_SetsFollow.mono : ∀ a0 a1 a2 a3 a4 a5 a6 k, LeO (syntagmlaw13_SetsFollow.f k a0 a1 a2 a3 a4 a5 a6) (syntagmlaw13_SetsFollow.f (k + 1) a0 a1 a2 a3 a4 a5 a6) := by
  intro a0 a1 a2 a3 a4 a5 a6 k
  have ih0 := syntagmlaw13_SetsFollow.mono_l k
  unfold syntagmlaw13_SetsFollow.f
  repeat' first
      | (with_reducible exact ih0 _ _ _ _ _ _ _ _ _)
      | (with_reducible exact sets_First.mono _ _ _ _ _ _)
      | (with_reducible exact sets_Follow.mono _ _ _ _ _ _)
      | (with_reducible exact syntagmlaw13_Few.mono _ _ _ _ _ _)
      | (with_reducible exact syntagmlaw13_works.mono _)
      | (with_reducible exact LeO.refl _)
      | (with_reducible exact LeO.none _)
      | (with_reducible refine LeO.ite ?_ ?_)
      | (with_reducible refine LeO.bind ?_ (fun _ => ?_))
      | exact ih0 _ _ _ _ _ _ _ _ _
      | exact sets_First.mono _ _ _ _ _ _
      | exact sets_Follow.mono _ _ _ _ _ _
      | exact syntagmlaw13_Few.mono _ _ _ _ _ _
      | exact syntagmlaw13_works.mono _
      | exact LeO.none _
      | refine LeO.ite ?_ ?_
      | refine LeO.bind ?_ (fun _ => ?_)
def syntagmlaw13_SetsFollow.T11 : Bool × List (List Nat × List Nat) := (true, [([], []), ([0], [0]), ([1], [1]), ([1], [1]), ([3, 1], [1, 3]), ([1], [1]), ([4, 5, 1], [1, 4, 5]), ([6, 1], [1, 6]), ([7, 1], [1, 7]), ([2, 8, 1], [1, 2, 8]), ([9, 1], [1, 9]), ([1], [1]), ([1], [1]), ([11, 12, 1], [1, 11, 12]), ([13, 1], [1, 13]), ([10, 14, 1, 1], [1, 10, 14]), ([1, 15], [1, 15]), ([16, 15, 0, 1, 2, 3, 4, 5, 6, 7, 8, 9, 10, 11, 12, 13, 14, 15, 16], [16])])
def syntagmlaw13_SetsFollow.B11 : List Nat := [0, 1, 3, 3, 11, 3, 59, 123, 251, 511, 1023, 3, 3, 6147, 14339, 32767, 65535, 131071]
theorem syntagmlaw13_SetsFollow.tab11 : rtab .any (opsOf Try.f9 11) = syntagmlaw13_SetsFollow.T11 := by kernel_rfl
theorem syntagmlaw13_SetsFollow.bits11 : waitsOk syntagmlaw13_SetsFollow.T11.2 syntagmlaw13_SetsFollow.B11 = true := by kernel_rfl
def syntagmlaw13_SetsFollow.T13 : Bool × List (List Nat × List Nat) := (true, [([], []), ([0], [0]), ([1], [1]), ([1], [1]), ([2, 3, 1], [1, 2, 3]), ([4, 1], [1, 4]), ([1], [1]), ([1], [1]), ([7, 1], [1, 7]), ([6, 8, 1], [1, 6, 8]), ([9, 1], [1, 9]), ([5, 10, 1, 1], [1, 5, 10]), ([1, 11], [1, 11]), ([12, 11, 0, 1, 2, 3, 4, 5, 6, 7, 8, 9, 10, 11, 12], [12])])
def syntagmlaw13_SetsFollow.B13 : List Nat := [0, 1, 3, 3, 15, 31, 3, 3, 131, 451, 963, 2047, 4095, 8191]
theorem syntagmlaw13_SetsFollow.tab13 : rtab .any (opsOf Try.f9 13) = syntagmlaw13_SetsFollow.T13 := by kernel_rfl
theorem syntagmlaw13_SetsFollow.bits13 : waitsOk syntagmlaw13_SetsFollow.T13.2 syntagmlaw13_SetsFollow.B13 = true := by kernel_rfl
def syntagmlaw13_SetsFollow.T14 : Bool × List (List Nat × List Nat) := (true, [([], []), ([0], [0]), ([1], [1]), ([2, 1, 1], [1, 2]), ([1], [1]), ([1], [1]), ([5, 1], [1, 5]), ([4, 6, 1], [1, 4, 6]), ([7, 1], [1, 7]), ([8, 1], [1, 8]), ([3, 9, 1], [1, 3, 9]), ([10, 1], [1, 10]), ([1], [1]), ([1], [1]), ([12, 13, 1], [1, 12, 13]), ([14, 1], [1, 14]), ([11, 15, 3, 1], [1, 11, 15]), ([1, 16], [1, 16]), ([17, 16, 0, 1, 2, 3, 4, 5, 6, 7, 8, 9, 10, 11, 12, 13, 14, 15, 16, 17], [17])])
def syntagmlaw13_SetsFollow.B14 : List Nat := [0, 1, 3, 7, 3, 3, 35, 115, 243, 499, 1023, 2047, 3, 3, 12291, 28675, 65535, 131071, 262143]
theorem syntagmlaw13_SetsFollow.tab14 : rtab .any (opsOf Try.f9 14) = syntagmlaw13_SetsFollow.T14 := by kernel_rfl
theorem syntagmlaw13_SetsFollow.bits14 : waitsOk syntagmlaw13_SetsFollow.T14.2 syntagmlaw13_SetsFollow.B14 = true := by kernel_rfl
set_option maxHeartbeats 8000000 in
set_option maxRecDepth 100000 in
theorem syntagmlaw13_SetsFollow.calls (k : Nat) (A0_0 : Option Addr) (c0_0 : Nat) (l0_0 : List (S51)) (A0_1 : Option Addr) (c0_1 : Nat) (l0_1 : List (S63)) (A0_2 : Option Addr) (c0_2 : Nat) (l0_2 : List ByteArray) (A0_3 : Option Addr) (c0_3 : Nat) (l0_3 : List (S45)) (a0_4 : Int) (a1 : Int) (a2 : Int) (r : Bool) (w : World) (hT : r = true) (hr0_0 : Kd.C k51 w A0_0 l0_0.length l0_0) (hc0_0 : l0_0.length ≤ c0_0) (hr0_1 : Kd.C k63 w A0_1 l0_1.length l0_1) (hc0_1 : l0_1.length ≤ c0_1) (hr0_2 : Kd.C Kd.string w A0_2 l0_2.length l0_2) (hc0_2 : l0_2.length ≤ c0_2) (hr0_3 : Kd.C k45 w A0_3 l0_3.length l0_3) (hc0_3 : l0_3.length ≤ c0_3) (h : syntagmlaw13_SetsFollow.f k l0_0 l0_1 l0_2 l0_3 a0_4 a1 a2 = some r) :
    Calls Try.prog 9 #[.agg #[.slice A0_0 l0_0.length c0_0, .slice A0_1 l0_1.length c0_1, .slice A0_2 l0_2.length c0_2, .slice A0_3 l0_3.length c0_3, .int .i64 a0_4], .int .i64 a1, .int .i64 a2] w fun e w' => e = .returned (.bool r) ∧ Below w.heap.size w w' := by
  have hu27 := Try.underlying27
  have HT := Aside0.mk hT
  clear hT
  have HR0_0 := Aside0.mk hr0_0
  have HC0_0 := Aside0.mk hc0_0
  clear hr0_0 hc0_0
  have HR0_1 := Aside0.mk hr0_1
  have HC0_1 := Aside0.mk hc0_1
  clear hr0_1 hc0_1
  have HR0_2 := Aside0.mk hr0_2
  have HC0_2 := Aside0.mk hc0_2
  clear hr0_2 hc0_2
  have HR0_3 := Aside0.mk hr0_3
  have HC0_3 := Aside0.mk hc0_3
  clear hr0_3 hc0_3
  have HB := Aside0.mk (Below.refl w.heap.size w)
  have H : ((syntagmlaw13_works.f k).bind fun t476 => (if t476 = true then ((syntagmlaw13_Few.f k l0_0 l0_1 l0_2 l0_3 a0_4).bind fun t477 => (if t477 = true then ((inst_Valid.f l0_0 l0_1 l0_2 l0_3 a0_4).bind fun t478 => (if t478 = true then (if a1 < 0 then (syntagmlaw13_SetsFollow.j0 k a1 a2 t476 true l0_0 l0_1 l0_2 l0_3 a0_4) else (if a1 ≥ (l0_3.length : Int) then (syntagmlaw13_SetsFollow.j0 k a1 a2 t476 true l0_0 l0_1 l0_2 l0_3 a0_4) else (if a2 < 0 then (syntagmlaw13_SetsFollow.j0 k a1 a2 t476 true l0_0 l0_1 l0_2 l0_3 a0_4) else (if 0 ≤ a1 then (if a1 < (l0_3.length : Int) then (if a2 ≥ (((rd_T45 l0_3 a1).f2).length : Int) then (syntagmlaw13_SetsFollow.j0 k a1 a2 t476 true l0_0 l0_1 l0_2 l0_3 a0_4) else (if 0 ≤ a2 then (if a2 < (((rd_T45 l0_3 a1).f2).length : Int) then (syntagmlaw13_SetsFollow.j0 k a1 a2 t476 (decide ((rd ((rd_T45 l0_3 a1).f2) a2) ≥ 0)) l0_0 l0_1 l0_2 l0_3 a0_4) else (none)) else (none))) else (none)) else (none))))) else (syntagmlaw13_SetsFollow.j0 k a1 a2 t476 true l0_0 l0_1 l0_2 l0_3 a0_4))) else (syntagmlaw13_SetsFollow.j0 k a1 a2 t476 true l0_0 l0_1 l0_2 l0_3 a0_4))) else (some false))) = some r := h
  clear h
  replace H := Option.bind_eq_some_iff.mp H
  obtain ⟨t476, A40, H⟩ := H
  replace H : (if t476 = true then ((syntagmlaw13_Few.f k l0_0 l0_1 l0_2 l0_3 a0_4).bind fun t477 => (if t477 = true then ((inst_Valid.f l0_0 l0_1 l0_2 l0_3 a0_4).bind fun t478 => (if t478 = true then (if a1 < 0 then (syntagmlaw13_SetsFollow.j0 k a1 a2 t476 true l0_0 l0_1 l0_2 l0_3 a0_4) else (if a1 ≥ (l0_3.length : Int) then (syntagmlaw13_SetsFollow.j0 k a1 a2 t476 true l0_0 l0_1 l0_2 l0_3 a0_4) else (if a2 < 0 then (syntagmlaw13_SetsFollow.j0 k a1 a2 t476 true l0_0 l0_1 l0_2 l0_3 a0_4) else (if 0 ≤ a1 then (if a1 < (l0_3.length : Int) then (if a2 ≥ (((rd_T45 l0_3 a1).f2).length : Int) then (syntagmlaw13_SetsFollow.j0 k a1 a2 t476 true l0_0 l0_1 l0_2 l0_3 a0_4) else (if 0 ≤ a2 then (if a2 < (((rd_T45 l0_3 a1).f2).length : Int) then (syntagmlaw13_SetsFollow.j0 k a1 a2 t476 (decide ((rd ((rd_T45 l0_3 a1).f2) a2) ≥ 0)) l0_0 l0_1 l0_2 l0_3 a0_4) else (none)) else (none))) else (none)) else (none))))) else (syntagmlaw13_SetsFollow.j0 k a1 a2 t476 true l0_0 l0_1 l0_2 l0_3 a0_4))) else (syntagmlaw13_SetsFollow.j0 k a1 a2 t476 true l0_0 l0_1 l0_2 l0_3 a0_4))) else (some false)) = some r := H
  have A4 := Aside0.mk A40
  clear A40
  by_cases c5 : t476 = true
  · subst c5
    have H1 : ((syntagmlaw13_Few.f k l0_0 l0_1 l0_2 l0_3 a0_4).bind fun t477 => (if t477 = true then ((inst_Valid.f l0_0 l0_1 l0_2 l0_3 a0_4).bind fun t478 => (if t478 = true then (if a1 < 0 then (syntagmlaw13_SetsFollow.j0 k a1 a2 true true l0_0 l0_1 l0_2 l0_3 a0_4) else (if a1 ≥ (l0_3.length : Int) then (syntagmlaw13_SetsFollow.j0 k a1 a2 true true l0_0 l0_1 l0_2 l0_3 a0_4) else (if a2 < 0 then (syntagmlaw13_SetsFollow.j0 k a1 a2 true true l0_0 l0_1 l0_2 l0_3 a0_4) else (if 0 ≤ a1 then (if a1 < (l0_3.length : Int) then (if a2 ≥ (((rd_T45 l0_3 a1).f2).length : Int) then (syntagmlaw13_SetsFollow.j0 k a1 a2 true true l0_0 l0_1 l0_2 l0_3 a0_4) else (if 0 ≤ a2 then (if a2 < (((rd_T45 l0_3 a1).f2).length : Int) then (syntagmlaw13_SetsFollow.j0 k a1 a2 true (decide ((rd ((rd_T45 l0_3 a1).f2) a2) ≥ 0)) l0_0 l0_1 l0_2 l0_3 a0_4) else (none)) else (none))) else (none)) else (none))))) else (syntagmlaw13_SetsFollow.j0 k a1 a2 true true l0_0 l0_1 l0_2 l0_3 a0_4))) else (syntagmlaw13_SetsFollow.j0 k a1 a2 true true l0_0 l0_1 l0_2 l0_3 a0_4))) = some r := by rw [if_pos rfl] at H; exact H
    clear H
    have H := H1
    clear H1
    replace H := Option.bind_eq_some_iff.mp H
    obtain ⟨t477, A60, H⟩ := H
    replace H : (if t477 = true then ((inst_Valid.f l0_0 l0_1 l0_2 l0_3 a0_4).bind fun t478 => (if t478 = true then (if a1 < 0 then (syntagmlaw13_SetsFollow.j0 k a1 a2 true true l0_0 l0_1 l0_2 l0_3 a0_4) else (if a1 ≥ (l0_3.length : Int) then (syntagmlaw13_SetsFollow.j0 k a1 a2 true true l0_0 l0_1 l0_2 l0_3 a0_4) else (if a2 < 0 then (syntagmlaw13_SetsFollow.j0 k a1 a2 true true l0_0 l0_1 l0_2 l0_3 a0_4) else (if 0 ≤ a1 then (if a1 < (l0_3.length : Int) then (if a2 ≥ (((rd_T45 l0_3 a1).f2).length : Int) then (syntagmlaw13_SetsFollow.j0 k a1 a2 true true l0_0 l0_1 l0_2 l0_3 a0_4) else (if 0 ≤ a2 then (if a2 < (((rd_T45 l0_3 a1).f2).length : Int) then (syntagmlaw13_SetsFollow.j0 k a1 a2 true (decide ((rd ((rd_T45 l0_3 a1).f2) a2) ≥ 0)) l0_0 l0_1 l0_2 l0_3 a0_4) else (none)) else (none))) else (none)) else (none))))) else (syntagmlaw13_SetsFollow.j0 k a1 a2 true true l0_0 l0_1 l0_2 l0_3 a0_4))) else (syntagmlaw13_SetsFollow.j0 k a1 a2 true true l0_0 l0_1 l0_2 l0_3 a0_4)) = some r := H
    have A6 := Aside0.mk A60
    clear A60
    have HC7 := Aside0.mk H
    clear H
    go_enter Try.func9, Try.ntmps9
    go_upto_region 5 with (first | ((with_reducible refine gate_dst (N := 3) rfl ?_); (try (refine gate_guard (by rfl) ?_; dsimp only)); refine box_event ?hg (N := 3) ?hd (cs := #[.slice A0_0 l0_0.length c0_0, .slice A0_1 l0_1.length c0_1, .slice A0_2 l0_2.length c0_2, .slice A0_3 l0_3.length c0_3, .int .i64 a0_4]) (t := 27) ?hr ?_; (case hd => rfl); (case hg => rfl); (case hr => first | (go_simp; done) | (go_simp; rfl)); intro gb475 hg w8 hbox hb; have n0_ := Aside0.mk (below_step (by repeat (first | (with_reducible first | exact HB.out | apply below_alloc | apply pw_below_drewN | apply below_drew1) | exact HB.out)) hb); have n1_ := Aside0.mk (hbox); have n2_ := Aside0.mk ((by rw [hg]; exact (below_size (by repeat (first | (with_reducible first | exact HB.out | apply below_alloc | apply pw_below_drewN | apply below_drew1) | exact HB.out))) : w.heap.size ≤ gb475)); have n3_ := Aside0.mk ((by rw [hg]; exact (below_size (by repeat (first | (with_reducible first | exact HB.out | apply below_alloc | apply pw_below_drewN | apply below_drew1) | exact HB.out))) : w.heap.size ≤ gb475)); clear HB; have HB := n0_; have BK475 := n1_; have GW475 := n2_; have GE475 := n3_; clear n0_ n1_ n2_ n3_; clear hb hbox hg) | ((with_reducible refine gate_callee (f := 10) rfl ?_); refine goesL_ (some 12) rfl rfl Try.func10 (by kernel_rfl) rfl #[] rfl (by (try simp only [List.map_toArray, List.map_cons, List.map_nil]); first | done | rfl | (simp only [List.length_drop, List.length_take]; rfl)) ?_; (with_reducible refine (syntagmlaw13_works.calls k  true _ ?side1 A4.out).mono ?_); (case side1 => rfl); rintro e w9 ⟨rfl, hb⟩; refine ⟨_, rfl, ?_⟩; have n0_ := Aside0.mk (blk_below (g := gb475) (o := .cells #[.slice A0_0 l0_0.length c0_0, .slice A0_1 l0_1.length c0_1, .slice A0_2 l0_2.length c0_2, .slice A0_3 l0_3.length c0_3, .int .i64 a0_4] 27 (0, 0)) (by (with_reducible repeat (first | refine blk_drewN ?_ _ | refine blk_drew ?_ | refine blk_alloc ?_ _)); exact BK475.out) hb); have n1_ := Aside0.mk (below_step (by repeat (first | (with_reducible first | exact HB.out | apply below_alloc | apply pw_below_drewN | apply below_drew1 | refine below_set ?_ GE475.out) | exact HB.out)) hb); clear BK475; clear HB; have BK475 := n0_; have HB := n1_; clear n0_ n1_; (try clear hb); (try clear hb2); (try clear hk); (try clear hi); have hcz10_0 : w9.cell? ⟨gb475, 0, none⟩ = some (.slice A0_0 l0_0.length c0_0) := (blk_cell BK475.out 0).trans rfl; have hcz10_1 : w9.cell? ⟨gb475, 1, none⟩ = some (.slice A0_1 l0_1.length c0_1) := (blk_cell BK475.out 1).trans rfl; have hcz10_2 : w9.cell? ⟨gb475, 2, none⟩ = some (.slice A0_2 l0_2.length c0_2) := (blk_cell BK475.out 2).trans rfl; have hcz10_3 : w9.cell? ⟨gb475, 3, none⟩ = some (.slice A0_3 l0_3.length c0_3) := (blk_cell BK475.out 3).trans rfl; have hcz10_4 : w9.cell? ⟨gb475, 4, none⟩ = some (.int .i64 a0_4) := (blk_cell BK475.out 4).trans rfl; have hfz10_0 := blk_frozen BK475.out 0; have hfz10_1 := blk_frozen BK475.out 1; have hfz10_2 := blk_frozen BK475.out 2; have hfz10_3 := blk_frozen BK475.out 3; have hfz10_4 := blk_frozen BK475.out 4) | ((with_reducible refine gate_callee (f := 11) rfl ?_); refine goesL_ (some 16) rfl rfl Try.func11 (by kernel_rfl) rfl #[.agg #[.slice A0_0 l0_0.length c0_0, .slice A0_1 l0_1.length c0_1, .slice A0_2 l0_2.length c0_2, .slice A0_3 l0_3.length c0_3, .int .i64 a0_4]] rfl (by (try simp only [List.map_toArray, List.map_cons, List.map_nil]); first | done | rfl | (simp only [List.length_drop, List.length_take]; rfl)) ?_; (with_reducible refine (syntagmlaw13_Few.calls k _ _ l0_0 _ _ l0_1 _ _ l0_2 _ _ l0_3 a0_4 t477 _ ?side1 ?side2 ?side3 ?side4 ?side5 ?side6 ?side7 ?side8 A6.out).mono ?_); (case side1 => repeat (first | exact (Kd.C_below HR0_0.out HB.out) | (with_reducible refine Kd.C_alloc ?_ _) | (with_reducible refine Kd.C_drewN ?_ _) | (with_reducible refine Kd.C_drew ?_))); (case side2 => exact HC0_0.out); (case side3 => repeat (first | exact (Kd.C_below HR0_1.out HB.out) | (with_reducible refine Kd.C_alloc ?_ _) | (with_reducible refine Kd.C_drewN ?_ _) | (with_reducible refine Kd.C_drew ?_))); (case side4 => exact HC0_1.out); (case side5 => repeat (first | exact (Kd.C_below HR0_2.out HB.out) | (with_reducible refine Kd.C_alloc ?_ _) | (with_reducible refine Kd.C_drewN ?_ _) | (with_reducible refine Kd.C_drew ?_))); (case side6 => exact HC0_2.out); (case side7 => repeat (first | exact (Kd.C_below HR0_3.out HB.out) | (with_reducible refine Kd.C_alloc ?_ _) | (with_reducible refine Kd.C_drewN ?_ _) | (with_reducible refine Kd.C_drew ?_))); (case side8 => exact HC0_3.out); rintro e w11 ⟨rfl, hb⟩; refine ⟨_, rfl, ?_⟩; have n0_ := Aside0.mk (blk_below (g := gb475) (o := .cells #[.slice A0_0 l0_0.length c0_0, .slice A0_1 l0_1.length c0_1, .slice A0_2 l0_2.length c0_2, .slice A0_3 l0_3.length c0_3, .int .i64 a0_4] 27 (0, 0)) (by (with_reducible repeat (first | refine blk_drewN ?_ _ | refine blk_drew ?_ | refine blk_alloc ?_ _)); exact BK475.out) hb); have n1_ := Aside0.mk (below_step (by repeat (first | (with_reducible first | exact HB.out | apply below_alloc | apply pw_below_drewN | apply below_drew1 | refine below_set ?_ GE475.out) | exact HB.out)) hb); clear BK475; clear HB; have BK475 := n0_; have HB := n1_; clear n0_ n1_; (try clear hb); (try clear hb2); (try clear hk); (try clear hi)))
    (try simp only [Act.put, List.setIfInBounds_toArray, List.set_cons_zero, List.set_cons_succ])
    go_cut [61] (fun v61 wc => ∃ (kq : Nat) (x61_6 : Bool), v61 = .bool x61_6 ∧ Aside0 (syntagmlaw13_SetsFollow.j0 kq a1 a2 true x61_6 l0_0 l0_1 l0_2 l0_3 a0_4 = some r) ∧ Aside0 (kq ≤ k) ∧ Aside0 (wc.heap[gb475]? = some (.cells #[(.slice A0_0 l0_0.length c0_0), (.slice A0_1 l0_1.length c0_1), (.slice A0_2 l0_2.length c0_2), (.slice A0_3 l0_3.length c0_3), .int .i64 a0_4] 27 (0, 0))) ∧ Aside0 (Below w.heap.size w wc))
    case first =>
      have H := HC7.out
      clear HC7
      by_cases c12 : t477 = true
      · subst c12
        have H1 : ((inst_Valid.f l0_0 l0_1 l0_2 l0_3 a0_4).bind fun t478 => (if t478 = true then (if a1 < 0 then (syntagmlaw13_SetsFollow.j0 k a1 a2 true true l0_0 l0_1 l0_2 l0_3 a0_4) else (if a1 ≥ (l0_3.length : Int) then (syntagmlaw13_SetsFollow.j0 k a1 a2 true true l0_0 l0_1 l0_2 l0_3 a0_4) else (if a2 < 0 then (syntagmlaw13_SetsFollow.j0 k a1 a2 true true l0_0 l0_1 l0_2 l0_3 a0_4) else (if 0 ≤ a1 then (if a1 < (l0_3.length : Int) then (if a2 ≥ (((rd_T45 l0_3 a1).f2).length : Int) then (syntagmlaw13_SetsFollow.j0 k a1 a2 true true l0_0 l0_1 l0_2 l0_3 a0_4) else (if 0 ≤ a2 then (if a2 < (((rd_T45 l0_3 a1).f2).length : Int) then (syntagmlaw13_SetsFollow.j0 k a1 a2 true (decide ((rd ((rd_T45 l0_3 a1).f2) a2) ≥ 0)) l0_0 l0_1 l0_2 l0_3 a0_4) else (none)) else (none))) else (none)) else (none))))) else (syntagmlaw13_SetsFollow.j0 k a1 a2 true true l0_0 l0_1 l0_2 l0_3 a0_4))) = some r := by rw [if_pos rfl] at H; exact H
        clear H
        have H := H1
        clear H1
        replace H := Option.bind_eq_some_iff.mp H
        obtain ⟨t478, A130, H⟩ := H
        replace H : (if t478 = true then (if a1 < 0 then (syntagmlaw13_SetsFollow.j0 k a1 a2 true true l0_0 l0_1 l0_2 l0_3 a0_4) else (if a1 ≥ (l0_3.length : Int) then (syntagmlaw13_SetsFollow.j0 k a1 a2 true true l0_0 l0_1 l0_2 l0_3 a0_4) else (if a2 < 0 then (syntagmlaw13_SetsFollow.j0 k a1 a2 true true l0_0 l0_1 l0_2 l0_3 a0_4) else (if 0 ≤ a1 then (if a1 < (l0_3.length : Int) then (if a2 ≥ (((rd_T45 l0_3 a1).f2).length : Int) then (syntagmlaw13_SetsFollow.j0 k a1 a2 true true l0_0 l0_1 l0_2 l0_3 a0_4) else (if 0 ≤ a2 then (if a2 < (((rd_T45 l0_3 a1).f2).length : Int) then (syntagmlaw13_SetsFollow.j0 k a1 a2 true (decide ((rd ((rd_T45 l0_3 a1).f2) a2) ≥ 0)) l0_0 l0_1 l0_2 l0_3 a0_4) else (none)) else (none))) else (none)) else (none))))) else (syntagmlaw13_SetsFollow.j0 k a1 a2 true true l0_0 l0_1 l0_2 l0_3 a0_4)) = some r := H
        have A13 := Aside0.mk A130
        clear A130
        by_cases c14 : t478 = true
        · subst c14
          have H1 : (if a1 < 0 then (syntagmlaw13_SetsFollow.j0 k a1 a2 true true l0_0 l0_1 l0_2 l0_3 a0_4) else (if a1 ≥ (l0_3.length : Int) then (syntagmlaw13_SetsFollow.j0 k a1 a2 true true l0_0 l0_1 l0_2 l0_3 a0_4) else (if a2 < 0 then (syntagmlaw13_SetsFollow.j0 k a1 a2 true true l0_0 l0_1 l0_2 l0_3 a0_4) else (if 0 ≤ a1 then (if a1 < (l0_3.length : Int) then (if a2 ≥ (((rd_T45 l0_3 a1).f2).length : Int) then (syntagmlaw13_SetsFollow.j0 k a1 a2 true true l0_0 l0_1 l0_2 l0_3 a0_4) else (if 0 ≤ a2 then (if a2 < (((rd_T45 l0_3 a1).f2).length : Int) then (syntagmlaw13_SetsFollow.j0 k a1 a2 true (decide ((rd ((rd_T45 l0_3 a1).f2) a2) ≥ 0)) l0_0 l0_1 l0_2 l0_3 a0_4) else (none)) else (none))) else (none)) else (none))))) = some r := by rw [if_pos rfl] at H; exact H
          clear H
          have H := H1
          clear H1
          by_cases c15 : a1 < 0
          · rw [if_pos c15] at H
            have c15b0 : decide (a1 < 0) = true := decide_eq_true c15
            clear c15
            (first | rw [c15b0] | (simp only [i64_w, i32_w]; rw [c15b0]) | skip)
            have H' := Aside0.mk H
            clear H
            have hcz16_0 : w11.cell? ⟨gb475, 0, none⟩ = some (.slice A0_0 l0_0.length c0_0) := (blk_cell BK475.out 0).trans rfl
            have hcz16_1 : w11.cell? ⟨gb475, 1, none⟩ = some (.slice A0_1 l0_1.length c0_1) := (blk_cell BK475.out 1).trans rfl
            have hcz16_2 : w11.cell? ⟨gb475, 2, none⟩ = some (.slice A0_2 l0_2.length c0_2) := (blk_cell BK475.out 2).trans rfl
            have hcz16_3 : w11.cell? ⟨gb475, 3, none⟩ = some (.slice A0_3 l0_3.length c0_3) := (blk_cell BK475.out 3).trans rfl
            have hcz16_4 : w11.cell? ⟨gb475, 4, none⟩ = some (.int .i64 a0_4) := (blk_cell BK475.out 4).trans rfl
            have hfz16_0 := blk_frozen BK475.out 0
            have hfz16_1 := blk_frozen BK475.out 1
            have hfz16_2 := blk_frozen BK475.out 2
            have hfz16_3 := blk_frozen BK475.out 3
            have hfz16_4 := blk_frozen BK475.out 4
            go_wp2_with (first | (go_at_call 23; (with_reducible refine (inst_Valid.calls _ _ l0_0 _ _ l0_1 _ _ l0_2 _ _ l0_3 a0_4 true _ ?side1 ?side2 ?side3 ?side4 ?side5 ?side6 ?side7 ?side8 A13.out).mono ?_); (case side1 => repeat (first | exact (Kd.C_below HR0_0.out HB.out) | (with_reducible refine Kd.C_alloc ?_ _) | (with_reducible refine Kd.C_drewN ?_ _) | (with_reducible refine Kd.C_drew ?_))); (case side2 => exact HC0_0.out); (case side3 => repeat (first | exact (Kd.C_below HR0_1.out HB.out) | (with_reducible refine Kd.C_alloc ?_ _) | (with_reducible refine Kd.C_drewN ?_ _) | (with_reducible refine Kd.C_drew ?_))); (case side4 => exact HC0_1.out); (case side5 => repeat (first | exact (Kd.C_below HR0_2.out HB.out) | (with_reducible refine Kd.C_alloc ?_ _) | (with_reducible refine Kd.C_drewN ?_ _) | (with_reducible refine Kd.C_drew ?_))); (case side6 => exact HC0_2.out); (case side7 => repeat (first | exact (Kd.C_below HR0_3.out HB.out) | (with_reducible refine Kd.C_alloc ?_ _) | (with_reducible refine Kd.C_drewN ?_ _) | (with_reducible refine Kd.C_drew ?_))); (case side8 => exact HC0_3.out); rintro e w17 ⟨rfl, hb⟩; have n0_ := Aside0.mk (blk_below (g := gb475) (o := .cells #[.slice A0_0 l0_0.length c0_0, .slice A0_1 l0_1.length c0_1, .slice A0_2 l0_2.length c0_2, .slice A0_3 l0_3.length c0_3, .int .i64 a0_4] 27 (0, 0)) (by (with_reducible repeat (first | refine blk_drewN ?_ _ | refine blk_drew ?_ | refine blk_alloc ?_ _)); exact BK475.out) hb); have n1_ := Aside0.mk (below_step (by repeat (first | (with_reducible first | exact HB.out | apply below_alloc | apply pw_below_drewN | apply below_drew1 | refine below_set ?_ GE475.out) | exact HB.out)) hb); clear BK475; clear HB; have BK475 := n0_; have HB := n1_; clear n0_ n1_; (try clear hb); (try clear hb2); (try clear hk); (try clear hi)))
            go_meet
            case rel => exact ⟨_, (true), (by first | rfl | (simp; done) | (simp [*]; done)), H', ⟨by first | omega | exact Nat.le_refl _⟩, ⟨by (with_reducible repeat (first | refine blk_drewN ?_ _ | refine blk_drew ?_ | refine blk_alloc ?_ _)); exact BK475.out⟩, ⟨by repeat (first | (with_reducible first | exact HB.out | apply below_alloc | apply pw_below_drewN | apply below_drew1 | refine below_set ?_ GE475.out) | exact HB.out)⟩⟩
          · rw [if_neg c15] at H
            have c15b0 : decide (a1 < 0) = false := decide_eq_false c15
            clear c15
            (first | rw [c15b0] | (simp only [i64_w, i32_w]; rw [c15b0]) | skip)
            by_cases c18 : a1 ≥ (l0_3.length : Int)
            · rw [if_pos c18] at H
              have c18b0 : decide ((l0_3.length : Int) ≤ a1) = true := decide_eq_true c18
              clear c18
              have H' := Aside0.mk H
              clear H
              have hcz19_0 : w11.cell? ⟨gb475, 0, none⟩ = some (.slice A0_0 l0_0.length c0_0) := (blk_cell BK475.out 0).trans rfl
              have hcz19_1 : w11.cell? ⟨gb475, 1, none⟩ = some (.slice A0_1 l0_1.length c0_1) := (blk_cell BK475.out 1).trans rfl
              have hcz19_2 : w11.cell? ⟨gb475, 2, none⟩ = some (.slice A0_2 l0_2.length c0_2) := (blk_cell BK475.out 2).trans rfl
              have hcz19_3 : w11.cell? ⟨gb475, 3, none⟩ = some (.slice A0_3 l0_3.length c0_3) := (blk_cell BK475.out 3).trans rfl
              have hcz19_4 : w11.cell? ⟨gb475, 4, none⟩ = some (.int .i64 a0_4) := (blk_cell BK475.out 4).trans rfl
              have hfz19_0 := blk_frozen BK475.out 0
              have hfz19_1 := blk_frozen BK475.out 1
              have hfz19_2 := blk_frozen BK475.out 2
              have hfz19_3 := blk_frozen BK475.out 3
              have hfz19_4 := blk_frozen BK475.out 4
              go_wp2_with (first | (go_at_call 23; (with_reducible refine (inst_Valid.calls _ _ l0_0 _ _ l0_1 _ _ l0_2 _ _ l0_3 a0_4 true _ ?side1 ?side2 ?side3 ?side4 ?side5 ?side6 ?side7 ?side8 A13.out).mono ?_); (case side1 => repeat (first | exact (Kd.C_below HR0_0.out HB.out) | (with_reducible refine Kd.C_alloc ?_ _) | (with_reducible refine Kd.C_drewN ?_ _) | (with_reducible refine Kd.C_drew ?_))); (case side2 => exact HC0_0.out); (case side3 => repeat (first | exact (Kd.C_below HR0_1.out HB.out) | (with_reducible refine Kd.C_alloc ?_ _) | (with_reducible refine Kd.C_drewN ?_ _) | (with_reducible refine Kd.C_drew ?_))); (case side4 => exact HC0_1.out); (case side5 => repeat (first | exact (Kd.C_below HR0_2.out HB.out) | (with_reducible refine Kd.C_alloc ?_ _) | (with_reducible refine Kd.C_drewN ?_ _) | (with_reducible refine Kd.C_drew ?_))); (case side6 => exact HC0_2.out); (case side7 => repeat (first | exact (Kd.C_below HR0_3.out HB.out) | (with_reducible refine Kd.C_alloc ?_ _) | (with_reducible refine Kd.C_drewN ?_ _) | (with_reducible refine Kd.C_drew ?_))); (case side8 => exact HC0_3.out); rintro e w20 ⟨rfl, hb⟩; have n0_ := Aside0.mk (blk_below (g := gb475) (o := .cells #[.slice A0_0 l0_0.length c0_0, .slice A0_1 l0_1.length c0_1, .slice A0_2 l0_2.length c0_2, .slice A0_3 l0_3.length c0_3, .int .i64 a0_4] 27 (0, 0)) (by (with_reducible repeat (first | refine blk_drewN ?_ _ | refine blk_drew ?_ | refine blk_alloc ?_ _)); exact BK475.out) hb); have n1_ := Aside0.mk (below_step (by repeat (first | (with_reducible first | exact HB.out | apply below_alloc | apply pw_below_drewN | apply below_drew1 | refine below_set ?_ GE475.out) | exact HB.out)) hb); clear BK475; clear HB; have BK475 := n0_; have HB := n1_; clear n0_ n1_; (try clear hb); (try clear hb2); (try clear hk); (try clear hi); have hcz21_0 : w20.cell? ⟨gb475, 0, none⟩ = some (.slice A0_0 l0_0.length c0_0) := (blk_cell BK475.out 0).trans rfl; have hcz21_1 : w20.cell? ⟨gb475, 1, none⟩ = some (.slice A0_1 l0_1.length c0_1) := (blk_cell BK475.out 1).trans rfl; have hcz21_2 : w20.cell? ⟨gb475, 2, none⟩ = some (.slice A0_2 l0_2.length c0_2) := (blk_cell BK475.out 2).trans rfl; have hcz21_3 : w20.cell? ⟨gb475, 3, none⟩ = some (.slice A0_3 l0_3.length c0_3) := (blk_cell BK475.out 3).trans rfl; have hcz21_4 : w20.cell? ⟨gb475, 4, none⟩ = some (.int .i64 a0_4) := (blk_cell BK475.out 4).trans rfl; have hfz21_0 := blk_frozen BK475.out 0; have hfz21_1 := blk_frozen BK475.out 1; have hfz21_2 := blk_frozen BK475.out 2; have hfz21_3 := blk_frozen BK475.out 3; have hfz21_4 := blk_frozen BK475.out 4))
              go_meet
              case rel => exact ⟨_, (true), (by first | rfl | (simp; done) | (simp [*]; done)), H', ⟨by first | omega | exact Nat.le_refl _⟩, ⟨by (with_reducible repeat (first | refine blk_drewN ?_ _ | refine blk_drew ?_ | refine blk_alloc ?_ _)); exact BK475.out⟩, ⟨by repeat (first | (with_reducible first | exact HB.out | apply below_alloc | apply pw_below_drewN | apply below_drew1 | refine below_set ?_ GE475.out) | exact HB.out)⟩⟩
            · rw [if_neg c18] at H
              have c18b0 : decide ((l0_3.length : Int) ≤ a1) = false := decide_eq_false c18
              clear c18
              by_cases c22 : a2 < 0
              · rw [if_pos c22] at H
                have c22b0 : decide (a2 < 0) = true := decide_eq_true c22
                clear c22
                have H' := Aside0.mk H
                clear H
                have hcz23_0 : w11.cell? ⟨gb475, 0, none⟩ = some (.slice A0_0 l0_0.length c0_0) := (blk_cell BK475.out 0).trans rfl
                have hcz23_1 : w11.cell? ⟨gb475, 1, none⟩ = some (.slice A0_1 l0_1.length c0_1) := (blk_cell BK475.out 1).trans rfl
                have hcz23_2 : w11.cell? ⟨gb475, 2, none⟩ = some (.slice A0_2 l0_2.length c0_2) := (blk_cell BK475.out 2).trans rfl
                have hcz23_3 : w11.cell? ⟨gb475, 3, none⟩ = some (.slice A0_3 l0_3.length c0_3) := (blk_cell BK475.out 3).trans rfl
                have hcz23_4 : w11.cell? ⟨gb475, 4, none⟩ = some (.int .i64 a0_4) := (blk_cell BK475.out 4).trans rfl
                have hfz23_0 := blk_frozen BK475.out 0
                have hfz23_1 := blk_frozen BK475.out 1
                have hfz23_2 := blk_frozen BK475.out 2
                have hfz23_3 := blk_frozen BK475.out 3
                have hfz23_4 := blk_frozen BK475.out 4
                go_wp2_with (first | (go_at_call 23; (with_reducible refine (inst_Valid.calls _ _ l0_0 _ _ l0_1 _ _ l0_2 _ _ l0_3 a0_4 true _ ?side1 ?side2 ?side3 ?side4 ?side5 ?side6 ?side7 ?side8 A13.out).mono ?_); (case side1 => repeat (first | exact (Kd.C_below HR0_0.out HB.out) | (with_reducible refine Kd.C_alloc ?_ _) | (with_reducible refine Kd.C_drewN ?_ _) | (with_reducible refine Kd.C_drew ?_))); (case side2 => exact HC0_0.out); (case side3 => repeat (first | exact (Kd.C_below HR0_1.out HB.out) | (with_reducible refine Kd.C_alloc ?_ _) | (with_reducible refine Kd.C_drewN ?_ _) | (with_reducible refine Kd.C_drew ?_))); (case side4 => exact HC0_1.out); (case side5 => repeat (first | exact (Kd.C_below HR0_2.out HB.out) | (with_reducible refine Kd.C_alloc ?_ _) | (with_reducible refine Kd.C_drewN ?_ _) | (with_reducible refine Kd.C_drew ?_))); (case side6 => exact HC0_2.out); (case side7 => repeat (first | exact (Kd.C_below HR0_3.out HB.out) | (with_reducible refine Kd.C_alloc ?_ _) | (with_reducible refine Kd.C_drewN ?_ _) | (with_reducible refine Kd.C_drew ?_))); (case side8 => exact HC0_3.out); rintro e w24 ⟨rfl, hb⟩; have n0_ := Aside0.mk (blk_below (g := gb475) (o := .cells #[.slice A0_0 l0_0.length c0_0, .slice A0_1 l0_1.length c0_1, .slice A0_2 l0_2.length c0_2, .slice A0_3 l0_3.length c0_3, .int .i64 a0_4] 27 (0, 0)) (by (with_reducible repeat (first | refine blk_drewN ?_ _ | refine blk_drew ?_ | refine blk_alloc ?_ _)); exact BK475.out) hb); have n1_ := Aside0.mk (below_step (by repeat (first | (with_reducible first | exact HB.out | apply below_alloc | apply pw_below_drewN | apply below_drew1 | refine below_set ?_ GE475.out) | exact HB.out)) hb); clear BK475; clear HB; have BK475 := n0_; have HB := n1_; clear n0_ n1_; (try clear hb); (try clear hb2); (try clear hk); (try clear hi); have hcz25_0 : w24.cell? ⟨gb475, 0, none⟩ = some (.slice A0_0 l0_0.length c0_0) := (blk_cell BK475.out 0).trans rfl; have hcz25_1 : w24.cell? ⟨gb475, 1, none⟩ = some (.slice A0_1 l0_1.length c0_1) := (blk_cell BK475.out 1).trans rfl; have hcz25_2 : w24.cell? ⟨gb475, 2, none⟩ = some (.slice A0_2 l0_2.length c0_2) := (blk_cell BK475.out 2).trans rfl; have hcz25_3 : w24.cell? ⟨gb475, 3, none⟩ = some (.slice A0_3 l0_3.length c0_3) := (blk_cell BK475.out 3).trans rfl; have hcz25_4 : w24.cell? ⟨gb475, 4, none⟩ = some (.int .i64 a0_4) := (blk_cell BK475.out 4).trans rfl; have hfz25_0 := blk_frozen BK475.out 0; have hfz25_1 := blk_frozen BK475.out 1; have hfz25_2 := blk_frozen BK475.out 2; have hfz25_3 := blk_frozen BK475.out 3; have hfz25_4 := blk_frozen BK475.out 4))
                go_meet
                case rel => exact ⟨_, (true), (by first | rfl | (simp; done) | (simp [*]; done)), H', ⟨by first | omega | exact Nat.le_refl _⟩, ⟨by (with_reducible repeat (first | refine blk_drewN ?_ _ | refine blk_drew ?_ | refine blk_alloc ?_ _)); exact BK475.out⟩, ⟨by repeat (first | (with_reducible first | exact HB.out | apply below_alloc | apply pw_below_drewN | apply below_drew1 | refine below_set ?_ GE475.out) | exact HB.out)⟩⟩
              · rw [if_neg c22] at H
                have c22b0 : decide (a2 < 0) = false := decide_eq_false c22
                clear c22
                by_cases c26 : 0 ≤ a1
                · rw [if_pos c26] at H
                  have c26b0 : decide (0 ≤ a1) = true := decide_eq_true c26
                  clear c26
                  by_cases c27 : a1 < (l0_3.length : Int)
                  · rw [if_pos c27] at H
                    have c27b0 : decide (a1 < (l0_3.length : Int)) = true := decide_eq_true c27
                    clear c27
                    by_cases c28 : a2 ≥ (((rd_T45 l0_3 a1).f2).length : Int)
                    · rw [if_pos c28] at H
                      have c28b0 : decide ((((rd_T45 l0_3 a1).f2).length : Int) ≤ a2) = true := decide_eq_true c28
                      clear c28
                      have H' := Aside0.mk H
                      clear H
                      have hcz29_0 : w11.cell? ⟨gb475, 0, none⟩ = some (.slice A0_0 l0_0.length c0_0) := (blk_cell BK475.out 0).trans rfl
                      have hcz29_1 : w11.cell? ⟨gb475, 1, none⟩ = some (.slice A0_1 l0_1.length c0_1) := (blk_cell BK475.out 1).trans rfl
                      have hcz29_2 : w11.cell? ⟨gb475, 2, none⟩ = some (.slice A0_2 l0_2.length c0_2) := (blk_cell BK475.out 2).trans rfl
                      have hcz29_3 : w11.cell? ⟨gb475, 3, none⟩ = some (.slice A0_3 l0_3.length c0_3) := (blk_cell BK475.out 3).trans rfl
                      have hcz29_4 : w11.cell? ⟨gb475, 4, none⟩ = some (.int .i64 a0_4) := (blk_cell BK475.out 4).trans rfl
                      have hfz29_0 := blk_frozen BK475.out 0
                      have hfz29_1 := blk_frozen BK475.out 1
                      have hfz29_2 := blk_frozen BK475.out 2
                      have hfz29_3 := blk_frozen BK475.out 3
                      have hfz29_4 := blk_frozen BK475.out 4
                      go_wp2_with (first | (go_at_call 23; (with_reducible refine (inst_Valid.calls _ _ l0_0 _ _ l0_1 _ _ l0_2 _ _ l0_3 a0_4 true _ ?side1 ?side2 ?side3 ?side4 ?side5 ?side6 ?side7 ?side8 A13.out).mono ?_); (case side1 => repeat (first | exact (Kd.C_below HR0_0.out HB.out) | (with_reducible refine Kd.C_alloc ?_ _) | (with_reducible refine Kd.C_drewN ?_ _) | (with_reducible refine Kd.C_drew ?_))); (case side2 => exact HC0_0.out); (case side3 => repeat (first | exact (Kd.C_below HR0_1.out HB.out) | (with_reducible refine Kd.C_alloc ?_ _) | (with_reducible refine Kd.C_drewN ?_ _) | (with_reducible refine Kd.C_drew ?_))); (case side4 => exact HC0_1.out); (case side5 => repeat (first | exact (Kd.C_below HR0_2.out HB.out) | (with_reducible refine Kd.C_alloc ?_ _) | (with_reducible refine Kd.C_drewN ?_ _) | (with_reducible refine Kd.C_drew ?_))); (case side6 => exact HC0_2.out); (case side7 => repeat (first | exact (Kd.C_below HR0_3.out HB.out) | (with_reducible refine Kd.C_alloc ?_ _) | (with_reducible refine Kd.C_drewN ?_ _) | (with_reducible refine Kd.C_drew ?_))); (case side8 => exact HC0_3.out); rintro e w30 ⟨rfl, hb⟩; have n0_ := Aside0.mk (blk_below (g := gb475) (o := .cells #[.slice A0_0 l0_0.length c0_0, .slice A0_1 l0_1.length c0_1, .slice A0_2 l0_2.length c0_2, .slice A0_3 l0_3.length c0_3, .int .i64 a0_4] 27 (0, 0)) (by (with_reducible repeat (first | refine blk_drewN ?_ _ | refine blk_drew ?_ | refine blk_alloc ?_ _)); exact BK475.out) hb); have n1_ := Aside0.mk (below_step (by repeat (first | (with_reducible first | exact HB.out | apply below_alloc | apply pw_below_drewN | apply below_drew1 | refine below_set ?_ GE475.out) | exact HB.out)) hb); clear BK475; clear HB; have BK475 := n0_; have HB := n1_; clear n0_ n1_; (try clear hb); (try clear hb2); (try clear hk); (try clear hi); have hcz31_0 : w30.cell? ⟨gb475, 0, none⟩ = some (.slice A0_0 l0_0.length c0_0) := (blk_cell BK475.out 0).trans rfl; have hcz31_1 : w30.cell? ⟨gb475, 1, none⟩ = some (.slice A0_1 l0_1.length c0_1) := (blk_cell BK475.out 1).trans rfl; have hcz31_2 : w30.cell? ⟨gb475, 2, none⟩ = some (.slice A0_2 l0_2.length c0_2) := (blk_cell BK475.out 2).trans rfl; have hcz31_3 : w30.cell? ⟨gb475, 3, none⟩ = some (.slice A0_3 l0_3.length c0_3) := (blk_cell BK475.out 3).trans rfl; have hcz31_4 : w30.cell? ⟨gb475, 4, none⟩ = some (.int .i64 a0_4) := (blk_cell BK475.out 4).trans rfl; have hfz31_0 := blk_frozen BK475.out 0; have hfz31_1 := blk_frozen BK475.out 1; have hfz31_2 := blk_frozen BK475.out 2; have hfz31_3 := blk_frozen BK475.out 3; have hfz31_4 := blk_frozen BK475.out 4; have p479 : 0 ≤ (a1 : Int) := of_decide_eq_true (by first | (with_reducible assumption) | assumption); have q479 : a1 < (l0_3.length : Int) := of_decide_eq_true (by first | (with_reducible assumption) | assumption); obtain ⟨ad479, A479_2, c479_2, e479, hx479_0, hx479_1, hx479_2, hx479_3, hl479_2, hi479_2⟩ := at_T45 HR0_3.out a1 p479 q479; cases e479; replace hx479_0 := (HB.out.cell (World.block_lt_of_cell? w _ hx479_0)).trans hx479_0; replace hx479_1 := (HB.out.cell (World.block_lt_of_cell? w _ hx479_1)).trans hx479_1; replace hx479_2 := (HB.out.cell (World.block_lt_of_cell? w _ hx479_2)).trans hx479_2; replace hx479_3 := (HB.out.cell (World.block_lt_of_cell? w _ hx479_3)).trans hx479_3; have HR479_2 := Aside0.mk hi479_2; have HC479_2 := Aside0.mk hl479_2; clear hi479_2 hl479_2; replace p479 := eq_true p479; replace q479 := eq_true q479))
                      go_meet
                      case rel => exact ⟨_, (true), (by first | rfl | (simp; done) | (simp [*]; done)), H', ⟨by first | omega | exact Nat.le_refl _⟩, ⟨by (with_reducible repeat (first | refine blk_drewN ?_ _ | refine blk_drew ?_ | refine blk_alloc ?_ _)); exact BK475.out⟩, ⟨by repeat (first | (with_reducible first | exact HB.out | apply below_alloc | apply pw_below_drewN | apply below_drew1 | refine below_set ?_ GE475.out) | exact HB.out)⟩⟩
                    · rw [if_neg c28] at H
                      have c28b0 : decide ((((rd_T45 l0_3 a1).f2).length : Int) ≤ a2) = false := decide_eq_false c28
                      clear c28
                      by_cases c32 : 0 ≤ a2
                      · rw [if_pos c32] at H
                        have c32b0 : decide (0 ≤ a2) = true := decide_eq_true c32
                        clear c32
                        by_cases c33 : a2 < (((rd_T45 l0_3 a1).f2).length : Int)
                        · rw [if_pos c33] at H
                          have c33b0 : decide (a2 < (((rd_T45 l0_3 a1).f2).length : Int)) = true := decide_eq_true c33
                          clear c33
                          have H' := Aside0.mk H
                          clear H
                          have hcz34_0 : w11.cell? ⟨gb475, 0, none⟩ = some (.slice A0_0 l0_0.length c0_0) := (blk_cell BK475.out 0).trans rfl
                          have hcz34_1 : w11.cell? ⟨gb475, 1, none⟩ = some (.slice A0_1 l0_1.length c0_1) := (blk_cell BK475.out 1).trans rfl
                          have hcz34_2 : w11.cell? ⟨gb475, 2, none⟩ = some (.slice A0_2 l0_2.length c0_2) := (blk_cell BK475.out 2).trans rfl
                          have hcz34_3 : w11.cell? ⟨gb475, 3, none⟩ = some (.slice A0_3 l0_3.length c0_3) := (blk_cell BK475.out 3).trans rfl
                          have hcz34_4 : w11.cell? ⟨gb475, 4, none⟩ = some (.int .i64 a0_4) := (blk_cell BK475.out 4).trans rfl
                          have hfz34_0 := blk_frozen BK475.out 0
                          have hfz34_1 := blk_frozen BK475.out 1
                          have hfz34_2 := blk_frozen BK475.out 2
                          have hfz34_3 := blk_frozen BK475.out 3
                          have hfz34_4 := blk_frozen BK475.out 4
                          go_wp2_with (first | (go_at_call 23; (with_reducible refine (inst_Valid.calls _ _ l0_0 _ _ l0_1 _ _ l0_2 _ _ l0_3 a0_4 true _ ?side1 ?side2 ?side3 ?side4 ?side5 ?side6 ?side7 ?side8 A13.out).mono ?_); (case side1 => repeat (first | exact (Kd.C_below HR0_0.out HB.out) | (with_reducible refine Kd.C_alloc ?_ _) | (with_reducible refine Kd.C_drewN ?_ _) | (with_reducible refine Kd.C_drew ?_))); (case side2 => exact HC0_0.out); (case side3 => repeat (first | exact (Kd.C_below HR0_1.out HB.out) | (with_reducible refine Kd.C_alloc ?_ _) | (with_reducible refine Kd.C_drewN ?_ _) | (with_reducible refine Kd.C_drew ?_))); (case side4 => exact HC0_1.out); (case side5 => repeat (first | exact (Kd.C_below HR0_2.out HB.out) | (with_reducible refine Kd.C_alloc ?_ _) | (with_reducible refine Kd.C_drewN ?_ _) | (with_reducible refine Kd.C_drew ?_))); (case side6 => exact HC0_2.out); (case side7 => repeat (first | exact (Kd.C_below HR0_3.out HB.out) | (with_reducible refine Kd.C_alloc ?_ _) | (with_reducible refine Kd.C_drewN ?_ _) | (with_reducible refine Kd.C_drew ?_))); (case side8 => exact HC0_3.out); rintro e w35 ⟨rfl, hb⟩; have n0_ := Aside0.mk (blk_below (g := gb475) (o := .cells #[.slice A0_0 l0_0.length c0_0, .slice A0_1 l0_1.length c0_1, .slice A0_2 l0_2.length c0_2, .slice A0_3 l0_3.length c0_3, .int .i64 a0_4] 27 (0, 0)) (by (with_reducible repeat (first | refine blk_drewN ?_ _ | refine blk_drew ?_ | refine blk_alloc ?_ _)); exact BK475.out) hb); have n1_ := Aside0.mk (below_step (by repeat (first | (with_reducible first | exact HB.out | apply below_alloc | apply pw_below_drewN | apply below_drew1 | refine below_set ?_ GE475.out) | exact HB.out)) hb); clear BK475; clear HB; have BK475 := n0_; have HB := n1_; clear n0_ n1_; (try clear hb); (try clear hb2); (try clear hk); (try clear hi); have hcz36_0 : w35.cell? ⟨gb475, 0, none⟩ = some (.slice A0_0 l0_0.length c0_0) := (blk_cell BK475.out 0).trans rfl; have hcz36_1 : w35.cell? ⟨gb475, 1, none⟩ = some (.slice A0_1 l0_1.length c0_1) := (blk_cell BK475.out 1).trans rfl; have hcz36_2 : w35.cell? ⟨gb475, 2, none⟩ = some (.slice A0_2 l0_2.length c0_2) := (blk_cell BK475.out 2).trans rfl; have hcz36_3 : w35.cell? ⟨gb475, 3, none⟩ = some (.slice A0_3 l0_3.length c0_3) := (blk_cell BK475.out 3).trans rfl; have hcz36_4 : w35.cell? ⟨gb475, 4, none⟩ = some (.int .i64 a0_4) := (blk_cell BK475.out 4).trans rfl; have hfz36_0 := blk_frozen BK475.out 0; have hfz36_1 := blk_frozen BK475.out 1; have hfz36_2 := blk_frozen BK475.out 2; have hfz36_3 := blk_frozen BK475.out 3; have hfz36_4 := blk_frozen BK475.out 4; have p479 : 0 ≤ (a1 : Int) := of_decide_eq_true (by first | (with_reducible assumption) | assumption); have q479 : a1 < (l0_3.length : Int) := of_decide_eq_true (by first | (with_reducible assumption) | assumption); obtain ⟨ad479, A479_2, c479_2, e479, hx479_0, hx479_1, hx479_2, hx479_3, hl479_2, hi479_2⟩ := at_T45 HR0_3.out a1 p479 q479; cases e479; replace hx479_0 := (HB.out.cell (World.block_lt_of_cell? w _ hx479_0)).trans hx479_0; replace hx479_1 := (HB.out.cell (World.block_lt_of_cell? w _ hx479_1)).trans hx479_1; replace hx479_2 := (HB.out.cell (World.block_lt_of_cell? w _ hx479_2)).trans hx479_2; replace hx479_3 := (HB.out.cell (World.block_lt_of_cell? w _ hx479_3)).trans hx479_3; have HR479_2 := Aside0.mk hi479_2; have HC479_2 := Aside0.mk hl479_2; clear hi479_2 hl479_2; replace p479 := eq_true p479; replace q479 := eq_true q479; have p480 : 0 ≤ (a1 : Int) := of_decide_eq_true (by first | (with_reducible assumption) | assumption); have q480 : a1 < (l0_3.length : Int) := of_decide_eq_true (by first | (with_reducible assumption) | assumption); obtain ⟨ad480, A480_2, c480_2, e480, hx480_0, hx480_1, hx480_2, hx480_3, hl480_2, hi480_2⟩ := at_T45 HR0_3.out a1 p480 q480; obtain rfl : ad479 = ad480 := (by injection e480); replace hx480_0 := (HB.out.cell (World.block_lt_of_cell? w _ hx480_0)).trans hx480_0; replace hx480_1 := (HB.out.cell (World.block_lt_of_cell? w _ hx480_1)).trans hx480_1; replace hx480_2 := (HB.out.cell (World.block_lt_of_cell? w _ hx480_2)).trans hx480_2; replace hx480_3 := (HB.out.cell (World.block_lt_of_cell? w _ hx480_3)).trans hx480_3; have HR480_2 := Aside0.mk hi480_2; have HC480_2 := Aside0.mk hl480_2; clear hi480_2 hl480_2; replace p480 := eq_true p480; replace q480 := eq_true q480; have ea_ := Option.some.inj (hx479_2.symm.trans hx480_2); injection ea_ with ea_ en_ ec_; subst ea_; subst ec_; clear en_; have p481 : 0 ≤ (a2 : Int) := of_decide_eq_true (by first | (with_reducible assumption) | assumption); have q481 : a2 < (((rd_T45 l0_3 a1).f2).length : Int) := of_decide_eq_true (by first | (with_reducible assumption) | assumption); obtain ⟨ad481, e481, hx481_0⟩ := Kd.at_int HR480_2.out a2 p481 q481; cases e481; replace hx481_0 := (HB.out.cell (World.block_lt_of_cell? w _ hx481_0)).trans hx481_0; replace p481 := eq_true p481; replace q481 := eq_true q481))
                          go_meet
                          case rel => exact ⟨_, (decide ((rd ((rd_T45 l0_3 a1).f2) a2) ≥ 0)), (by first | rfl | (simp; done) | (simp [*]; done)), H', ⟨by first | omega | exact Nat.le_refl _⟩, ⟨by (with_reducible repeat (first | refine blk_drewN ?_ _ | refine blk_drew ?_ | refine blk_alloc ?_ _)); exact BK475.out⟩, ⟨by repeat (first | (with_reducible first | exact HB.out | apply below_alloc | apply pw_below_drewN | apply below_drew1 | refine below_set ?_ GE475.out) | exact HB.out)⟩⟩
                        · rw [if_neg c33] at H
                          exact absurd H (by simp)
                      · rw [if_neg c32] at H
                        exact absurd H (by simp)
                  · rw [if_neg c27] at H
                    exact absurd H (by simp)
                · rw [if_neg c26] at H
                  exact absurd H (by simp)
        · replace c14 := Bool.eq_false_iff.mpr c14
          subst c14
          have H1 : (syntagmlaw13_SetsFollow.j0 k a1 a2 true true l0_0 l0_1 l0_2 l0_3 a0_4) = some r := by rw [if_neg (show ¬ (false = true) by decide)] at H; exact H
          clear H
          have H := H1
          clear H1
          have H' := Aside0.mk H
          clear H
          have hcz37_0 : w11.cell? ⟨gb475, 0, none⟩ = some (.slice A0_0 l0_0.length c0_0) := (blk_cell BK475.out 0).trans rfl
          have hcz37_1 : w11.cell? ⟨gb475, 1, none⟩ = some (.slice A0_1 l0_1.length c0_1) := (blk_cell BK475.out 1).trans rfl
          have hcz37_2 : w11.cell? ⟨gb475, 2, none⟩ = some (.slice A0_2 l0_2.length c0_2) := (blk_cell BK475.out 2).trans rfl
          have hcz37_3 : w11.cell? ⟨gb475, 3, none⟩ = some (.slice A0_3 l0_3.length c0_3) := (blk_cell BK475.out 3).trans rfl
          have hcz37_4 : w11.cell? ⟨gb475, 4, none⟩ = some (.int .i64 a0_4) := (blk_cell BK475.out 4).trans rfl
          have hfz37_0 := blk_frozen BK475.out 0
          have hfz37_1 := blk_frozen BK475.out 1
          have hfz37_2 := blk_frozen BK475.out 2
          have hfz37_3 := blk_frozen BK475.out 3
          have hfz37_4 := blk_frozen BK475.out 4
          go_wp2_with (first | (go_at_call 23; (with_reducible refine (inst_Valid.calls _ _ l0_0 _ _ l0_1 _ _ l0_2 _ _ l0_3 a0_4 false _ ?side1 ?side2 ?side3 ?side4 ?side5 ?side6 ?side7 ?side8 A13.out).mono ?_); (case side1 => repeat (first | exact (Kd.C_below HR0_0.out HB.out) | (with_reducible refine Kd.C_alloc ?_ _) | (with_reducible refine Kd.C_drewN ?_ _) | (with_reducible refine Kd.C_drew ?_))); (case side2 => exact HC0_0.out); (case side3 => repeat (first | exact (Kd.C_below HR0_1.out HB.out) | (with_reducible refine Kd.C_alloc ?_ _) | (with_reducible refine Kd.C_drewN ?_ _) | (with_reducible refine Kd.C_drew ?_))); (case side4 => exact HC0_1.out); (case side5 => repeat (first | exact (Kd.C_below HR0_2.out HB.out) | (with_reducible refine Kd.C_alloc ?_ _) | (with_reducible refine Kd.C_drewN ?_ _) | (with_reducible refine Kd.C_drew ?_))); (case side6 => exact HC0_2.out); (case side7 => repeat (first | exact (Kd.C_below HR0_3.out HB.out) | (with_reducible refine Kd.C_alloc ?_ _) | (with_reducible refine Kd.C_drewN ?_ _) | (with_reducible refine Kd.C_drew ?_))); (case side8 => exact HC0_3.out); rintro e w38 ⟨rfl, hb⟩; have n0_ := Aside0.mk (blk_below (g := gb475) (o := .cells #[.slice A0_0 l0_0.length c0_0, .slice A0_1 l0_1.length c0_1, .slice A0_2 l0_2.length c0_2, .slice A0_3 l0_3.length c0_3, .int .i64 a0_4] 27 (0, 0)) (by (with_reducible repeat (first | refine blk_drewN ?_ _ | refine blk_drew ?_ | refine blk_alloc ?_ _)); exact BK475.out) hb); have n1_ := Aside0.mk (below_step (by repeat (first | (with_reducible first | exact HB.out | apply below_alloc | apply pw_below_drewN | apply below_drew1 | refine below_set ?_ GE475.out) | exact HB.out)) hb); clear BK475; clear HB; have BK475 := n0_; have HB := n1_; clear n0_ n1_; (try clear hb); (try clear hb2); (try clear hk); (try clear hi)))
          go_meet
          case rel => exact ⟨_, (true), (by first | rfl | (simp; done) | (simp [*]; done)), H', ⟨by first | omega | exact Nat.le_refl _⟩, ⟨by (with_reducible repeat (first | refine blk_drewN ?_ _ | refine blk_drew ?_ | refine blk_alloc ?_ _)); exact BK475.out⟩, ⟨by repeat (first | (with_reducible first | exact HB.out | apply below_alloc | apply pw_below_drewN | apply below_drew1 | refine below_set ?_ GE475.out) | exact HB.out)⟩⟩
      · replace c12 := Bool.eq_false_iff.mpr c12
        subst c12
        have H1 : (syntagmlaw13_SetsFollow.j0 k a1 a2 true true l0_0 l0_1 l0_2 l0_3 a0_4) = some r := by rw [if_neg (show ¬ (false = true) by decide)] at H; exact H
        clear H
        have H := H1
        clear H1
        have H' := Aside0.mk H
        clear H
        go_wp2
        go_meet
        case rel => exact ⟨_, (true), (by first | rfl | (simp; done) | (simp [*]; done)), H', ⟨by first | omega | exact Nat.le_refl _⟩, ⟨by (with_reducible repeat (first | refine blk_drewN ?_ _ | refine blk_drew ?_ | refine blk_alloc ?_ _)); exact BK475.out⟩, ⟨by repeat (first | (with_reducible first | exact HB.out | apply below_alloc | apply pw_below_drewN | apply below_drew1 | refine below_set ?_ GE475.out) | exact HB.out)⟩⟩
    case rest =>
      clear HC7
      try clear c1
      try clear c2
      try clear p2
      try clear c3
      try clear c4
      try clear p4
      try clear q4
      try clear hx4
      try clear c5
      try clear c9
      try clear c10
      try clear c11
      try clear c12
      try clear c14
      try clear c15
      try clear c15b0
      try clear c18
      try clear c18b0
      try clear c22
      try clear c22b0
      try clear c26
      try clear c26b0
      try clear c27
      try clear c27b0
      try clear c28
      try clear c28b0
      try clear c32
      try clear c32b0
      try clear c33
      try clear c33b0
      try clear hcz10_0
      try clear hcz10_1
      try clear hcz10_2
      try clear hcz10_3
      try clear hcz10_4
      try clear hcz16_0
      try clear hcz16_1
      try clear hcz16_2
      try clear hcz16_3
      try clear hcz16_4
      try clear hcz19_0
      try clear hcz19_1
      try clear hcz19_2
      try clear hcz19_3
      try clear hcz19_4
      try clear hcz21_0
      try clear hcz21_1
      try clear hcz21_2
      try clear hcz21_3
      try clear hcz21_4
      try clear hcz23_0
      try clear hcz23_1
      try clear hcz23_2
      try clear hcz23_3
      try clear hcz23_4
      try clear hcz25_0
      try clear hcz25_1
      try clear hcz25_2
      try clear hcz25_3
      try clear hcz25_4
      try clear hcz29_0
      try clear hcz29_1
      try clear hcz29_2
      try clear hcz29_3
      try clear hcz29_4
      try clear hcz31_0
      try clear hcz31_1
      try clear hcz31_2
      try clear hcz31_3
      try clear hcz31_4
      try clear hcz34_0
      try clear hcz34_1
      try clear hcz34_2
      try clear hcz34_3
      try clear hcz34_4
      try clear hcz36_0
      try clear hcz36_1
      try clear hcz36_2
      try clear hcz36_3
      try clear hcz36_4
      try clear hcz37_0
      try clear hcz37_1
      try clear hcz37_2
      try clear hcz37_3
      try clear hcz37_4
      try clear hfz10_0
      try clear hfz10_1
      try clear hfz10_2
      try clear hfz10_3
      try clear hfz10_4
      try clear hfz16_0
      try clear hfz16_1
      try clear hfz16_2
      try clear hfz16_3
      try clear hfz16_4
      try clear hfz19_0
      try clear hfz19_1
      try clear hfz19_2
      try clear hfz19_3
      try clear hfz19_4
      try clear hfz21_0
      try clear hfz21_1
      try clear hfz21_2
      try clear hfz21_3
      try clear hfz21_4
      try clear hfz23_0
      try clear hfz23_1
      try clear hfz23_2
      try clear hfz23_3
      try clear hfz23_4
      try clear hfz25_0
      try clear hfz25_1
      try clear hfz25_2
      try clear hfz25_3
      try clear hfz25_4
      try clear hfz29_0
      try clear hfz29_1
      try clear hfz29_2
      try clear hfz29_3
      try clear hfz29_4
      try clear hfz31_0
      try clear hfz31_1
      try clear hfz31_2
      try clear hfz31_3
      try clear hfz31_4
      try clear hfz34_0
      try clear hfz34_1
      try clear hfz34_2
      try clear hfz34_3
      try clear hfz34_4
      try clear hfz36_0
      try clear hfz36_1
      try clear hfz36_2
      try clear hfz36_3
      try clear hfz36_4
      try clear hfz37_0
      try clear hfz37_1
      try clear hfz37_2
      try clear hfz37_3
      try clear hfz37_4
      try clear hx479_0
      try clear hx479_1
      try clear hx479_2
      try clear hx479_3
      try clear hx480_0
      try clear hx480_1
      try clear hx480_2
      try clear hx480_3
      try clear hx481_0
      try clear p479
      try clear p480
      try clear p481
      try clear q479
      try clear q480
      try clear q481
      obtain ⟨kq, x61_6, rfl, HA, HJ6, BK475, HB⟩ := hcut
      cases kq with
      | zero => exact absurd HA.out (by simp [syntagmlaw13_SetsFollow.j0])
      | succ kj6 =>
        have H := HA.out
        clear HA
        simp only [syntagmlaw13_SetsFollow.j0] at H
        by_cases c39 : x61_6 = true
        · subst c39
          have H1 : (some true) = some r := by rw [if_pos rfl] at H; exact H
          clear H
          have H := H1
          clear H1
          obtain rfl := Option.some.inj H
          go_wp2
          go_ret
          exact ⟨by first | rfl | (simp [errW_none, errW_some] <;> rfl) | (simp [*, errW_none, errW_some] <;> rfl), by repeat (first | (with_reducible first | exact HB.out | apply below_alloc | apply pw_below_drewN | apply below_drew1 | refine below_set ?_ GE475.out) | exact HB.out)⟩
        · replace c39 := Bool.eq_false_iff.mpr c39
          subst c39
          have H1 : ((sets_Follow.f kj6 l0_0 l0_1 l0_2 l0_3 a0_4).bind fun t482 => (if 0 ≤ a1 then (if a1 < (l0_3.length : Int) then (if 0 ≤ a2 then (if a2 < (((rd_T45 l0_3 a1).f2).length : Int) then (if a2 = (wrap64 ((((rd_T45 l0_3 a1).f2).length : Int) - 1)) then (if true = true then (if 0 ≤ ((rd_T45 l0_3 a1).f1) then (if ((rd_T45 l0_3 a1).f1) < (t482.length : Int) then (if 0 ≤ (wrap64 ((-1) - (rd ((rd_T45 l0_3 a1).f2) a2))) then (if (wrap64 ((-1) - (rd ((rd_T45 l0_3 a1).f2) a2))) < (t482.length : Int) then ((bits_In.f (rd t482 ((rd_T45 l0_3 a1).f1)) (rd t482 (wrap64 ((-1) - (rd ((rd_T45 l0_3 a1).f2) a2))))).bind fun t490 => (some t490)) else (none)) else (none)) else (none)) else (none)) else (some false)) else (if 0 ≤ (wrap64 (a2 + 1)) then (if (wrap64 (a2 + 1)) < (((rd_T45 l0_3 a1).f2).length : Int) then (if (rd ((rd_T45 l0_3 a1).f2) (wrap64 (a2 + 1))) ≥ 0 then (if true = true then (if 0 ≤ (wrap64 ((-1) - (rd ((rd_T45 l0_3 a1).f2) a2))) then (if (wrap64 ((-1) - (rd ((rd_T45 l0_3 a1).f2) a2))) < (t482.length : Int) then ((bits_Has.f (rd t482 (wrap64 ((-1) - (rd ((rd_T45 l0_3 a1).f2) a2)))) (rd ((rd_T45 l0_3 a1).f2) (wrap64 (a2 + 1)))).bind fun t494 => (some t494)) else (none)) else (none)) else (some false)) else (if true = true then ((sets_First.f kj6 l0_0 l0_1 l0_2 l0_3 a0_4).bind fun t495 => (if 0 ≤ (wrap64 ((-1) - (rd ((rd_T45 l0_3 a1).f2) (wrap64 (a2 + 1))))) then (if (wrap64 ((-1) - (rd ((rd_T45 l0_3 a1).f2) (wrap64 (a2 + 1))))) < (t495.length : Int) then (if 0 ≤ (wrap64 ((-1) - (rd ((rd_T45 l0_3 a1).f2) a2))) then (if (wrap64 ((-1) - (rd ((rd_T45 l0_3 a1).f2) a2))) < (t482.length : Int) then ((bits_In.f (rd t495 (wrap64 ((-1) - (rd ((rd_T45 l0_3 a1).f2) (wrap64 (a2 + 1)))))) (rd t482 (wrap64 ((-1) - (rd ((rd_T45 l0_3 a1).f2) a2))))).bind fun t501 => (some t501)) else (none)) else (none)) else (none)) else (none))) else (some false))) else (none)) else (none))) else (none)) else (none)) else (none)) else (none))) = some r := by rw [if_neg (show ¬ (false = true) by decide)] at H; exact H
          clear H
          have H := H1
          clear H1
          replace H := Option.bind_eq_some_iff.mp H
          obtain ⟨t482, A400, H⟩ := H
          replace H : (if 0 ≤ a1 then (if a1 < (l0_3.length : Int) then (if 0 ≤ a2 then (if a2 < (((rd_T45 l0_3 a1).f2).length : Int) then (if a2 = (wrap64 ((((rd_T45 l0_3 a1).f2).length : Int) - 1)) then (if true = true then (if 0 ≤ ((rd_T45 l0_3 a1).f1) then (if ((rd_T45 l0_3 a1).f1) < (t482.length : Int) then (if 0 ≤ (wrap64 ((-1) - (rd ((rd_T45 l0_3 a1).f2) a2))) then (if (wrap64 ((-1) - (rd ((rd_T45 l0_3 a1).f2) a2))) < (t482.length : Int) then ((bits_In.f (rd t482 ((rd_T45 l0_3 a1).f1)) (rd t482 (wrap64 ((-1) - (rd ((rd_T45 l0_3 a1).f2) a2))))).bind fun t490 => (some t490)) else (none)) else (none)) else (none)) else (none)) else (some false)) else (if 0 ≤ (wrap64 (a2 + 1)) then (if (wrap64 (a2 + 1)) < (((rd_T45 l0_3 a1).f2).length : Int) then (if (rd ((rd_T45 l0_3 a1).f2) (wrap64 (a2 + 1))) ≥ 0 then (if true = true then (if 0 ≤ (wrap64 ((-1) - (rd ((rd_T45 l0_3 a1).f2) a2))) then (if (wrap64 ((-1) - (rd ((rd_T45 l0_3 a1).f2) a2))) < (t482.length : Int) then ((bits_Has.f (rd t482 (wrap64 ((-1) - (rd ((rd_T45 l0_3 a1).f2) a2)))) (rd ((rd_T45 l0_3 a1).f2) (wrap64 (a2 + 1)))).bind fun t494 => (some t494)) else (none)) else (none)) else (some false)) else (if true = true then ((sets_First.f kj6 l0_0 l0_1 l0_2 l0_3 a0_4).bind fun t495 => (if 0 ≤ (wrap64 ((-1) - (rd ((rd_T45 l0_3 a1).f2) (wrap64 (a2 + 1))))) then (if (wrap64 ((-1) - (rd ((rd_T45 l0_3 a1).f2) (wrap64 (a2 + 1))))) < (t495.length : Int) then (if 0 ≤ (wrap64 ((-1) - (rd ((rd_T45 l0_3 a1).f2) a2))) then (if (wrap64 ((-1) - (rd ((rd_T45 l0_3 a1).f2) a2))) < (t482.length : Int) then ((bits_In.f (rd t495 (wrap64 ((-1) - (rd ((rd_T45 l0_3 a1).f2) (wrap64 (a2 + 1)))))) (rd t482 (wrap64 ((-1) - (rd ((rd_T45 l0_3 a1).f2) a2))))).bind fun t501 => (some t501)) else (none)) else (none)) else (none)) else (none))) else (some false))) else (none)) else (none))) else (none)) else (none)) else (none)) else (none)) = some r := H
          have A40 := Aside0.mk A400
          clear A400
          by_cases c41 : 0 ≤ a1
          · rw [if_pos c41] at H
            have c41b0 : decide (0 ≤ a1) = true := decide_eq_true c41
            clear c41
            by_cases c42 : a1 < (l0_3.length : Int)
            · rw [if_pos c42] at H
              have c42b0 : decide (a1 < (l0_3.length : Int)) = true := decide_eq_true c42
              clear c42
              by_cases c43 : 0 ≤ a2
              · rw [if_pos c43] at H
                have c43b0 : decide (0 ≤ a2) = true := decide_eq_true c43
                clear c43
                by_cases c44 : a2 < (((rd_T45 l0_3 a1).f2).length : Int)
                · rw [if_pos c44] at H
                  have c44b0 : decide (a2 < (((rd_T45 l0_3 a1).f2).length : Int)) = true := decide_eq_true c44
                  clear c44
                  by_cases c45 : a2 = (wrap64 ((((rd_T45 l0_3 a1).f2).length : Int) - 1))
                  · rw [if_pos c45] at H
                    have c45b0 : (a2 == (wrap64 ((((rd_T45 l0_3 a1).f2).length : Int) - 1))) = true := beq_iff_eq.mpr c45
                    have c45b1 : (a2 != (wrap64 ((((rd_T45 l0_3 a1).f2).length : Int) - 1))) = false := bne_eq_false_iff_eq.mpr c45
                    clear c45
                    replace H : (if 0 ≤ ((rd_T45 l0_3 a1).f1) then (if ((rd_T45 l0_3 a1).f1) < (t482.length : Int) then (if 0 ≤ (wrap64 ((-1) - (rd ((rd_T45 l0_3 a1).f2) a2))) then (if (wrap64 ((-1) - (rd ((rd_T45 l0_3 a1).f2) a2))) < (t482.length : Int) then ((bits_In.f (rd t482 ((rd_T45 l0_3 a1).f1)) (rd t482 (wrap64 ((-1) - (rd ((rd_T45 l0_3 a1).f2) a2))))).bind fun t490 => (some t490)) else (none)) else (none)) else (none)) else (none)) = some r := by first | (rw [if_pos rfl] at H; exact H) | (rw [if_pos trivial] at H; exact H)
                    by_cases c46 : 0 ≤ ((rd_T45 l0_3 a1).f1)
                    · rw [if_pos c46] at H
                      have c46b0 : decide (0 ≤ ((rd_T45 l0_3 a1).f1)) = true := decide_eq_true c46
                      clear c46
                      by_cases c47 : ((rd_T45 l0_3 a1).f1) < (t482.length : Int)
                      · rw [if_pos c47] at H
                        have c47b0 : decide (((rd_T45 l0_3 a1).f1) < (t482.length : Int)) = true := decide_eq_true c47
                        clear c47
                        obtain ⟨ji48, hji48⟩ : ∃ j_ : Int, (wrap64 ((-1) - (rd ((rd_T45 l0_3 a1).f2) a2))) = j_ := ⟨_, rfl⟩
                        replace H : (if 0 ≤ (ji48) then (if (ji48) < (t482.length : Int) then ((bits_In.f (rd t482 ((rd_T45 l0_3 a1).f1)) (rd t482 (ji48))).bind fun t490 => (some t490)) else (none)) else (none)) = some r := by first | (rw [hji48] at H; exact H) | (simp only [hji48] at H ⊢; exact H)
                        (try rw [hji48] at A40)
                        have hji48w : (IntKind.i64.wrap ((-1) - (rd ((rd_T45 l0_3 a1).f2) a2))) = ji48 := (i64_w _).trans hji48
                        by_cases c49 : 0 ≤ (ji48)
                        · rw [if_pos c49] at H
                          have c49b0 : decide (0 ≤ (ji48)) = true := decide_eq_true c49
                          clear c49
                          by_cases c50 : (ji48) < (t482.length : Int)
                          · rw [if_pos c50] at H
                            have c50b0 : decide ((ji48) < (t482.length : Int)) = true := decide_eq_true c50
                            clear c50
                            replace H := Option.bind_eq_some_iff.mp H
                            obtain ⟨t490, A510, H⟩ := H
                            replace H : (some t490) = some r := H
                            have A51 := Aside0.mk A510
                            clear A510
                            obtain rfl := Option.some.inj H
                            have hcz52_0 : wc.cell? ⟨gb475, 0, none⟩ = some (.slice A0_0 l0_0.length c0_0) := (blk_cell BK475.out 0).trans rfl
                            have hcz52_1 : wc.cell? ⟨gb475, 1, none⟩ = some (.slice A0_1 l0_1.length c0_1) := (blk_cell BK475.out 1).trans rfl
                            have hcz52_2 : wc.cell? ⟨gb475, 2, none⟩ = some (.slice A0_2 l0_2.length c0_2) := (blk_cell BK475.out 2).trans rfl
                            have hcz52_3 : wc.cell? ⟨gb475, 3, none⟩ = some (.slice A0_3 l0_3.length c0_3) := (blk_cell BK475.out 3).trans rfl
                            have hcz52_4 : wc.cell? ⟨gb475, 4, none⟩ = some (.int .i64 a0_4) := (blk_cell BK475.out 4).trans rfl
                            have hfz52_0 := blk_frozen BK475.out 0
                            have hfz52_1 := blk_frozen BK475.out 1
                            have hfz52_2 := blk_frozen BK475.out 2
                            have hfz52_3 := blk_frozen BK475.out 3
                            have hfz52_4 := blk_frozen BK475.out 4
                            try go_wp2_with (first | ((with_reducible refine gate_callee (f := 19) rfl ?_); refine goesL_ (some 64) rfl rfl Try.func19 (by kernel_rfl) rfl #[.agg #[.slice A0_0 l0_0.length c0_0, .slice A0_1 l0_1.length c0_1, .slice A0_2 l0_2.length c0_2, .slice A0_3 l0_3.length c0_3, .int .i64 a0_4]] rfl (by (try simp only [List.map_toArray, List.map_cons, List.map_nil]); first | done | rfl | (simp only [List.length_drop, List.length_take]; rfl)) ?_; (with_reducible refine (sets_Follow.calls kj6 _ _ l0_0 _ _ l0_1 _ _ l0_2 _ _ l0_3 a0_4 t482 _ ?side1 ?side2 ?side3 ?side4 ?side5 ?side6 ?side7 ?side8 A40.out).mono ?_); (case side1 => repeat (first | exact (Kd.C_below HR0_0.out HB.out) | (with_reducible refine Kd.C_alloc ?_ _) | (with_reducible refine Kd.C_drewN ?_ _) | (with_reducible refine Kd.C_drew ?_))); (case side2 => exact HC0_0.out); (case side3 => repeat (first | exact (Kd.C_below HR0_1.out HB.out) | (with_reducible refine Kd.C_alloc ?_ _) | (with_reducible refine Kd.C_drewN ?_ _) | (with_reducible refine Kd.C_drew ?_))); (case side4 => exact HC0_1.out); (case side5 => repeat (first | exact (Kd.C_below HR0_2.out HB.out) | (with_reducible refine Kd.C_alloc ?_ _) | (with_reducible refine Kd.C_drewN ?_ _) | (with_reducible refine Kd.C_drew ?_))); (case side6 => exact HC0_2.out); (case side7 => repeat (first | exact (Kd.C_below HR0_3.out HB.out) | (with_reducible refine Kd.C_alloc ?_ _) | (with_reducible refine Kd.C_drewN ?_ _) | (with_reducible refine Kd.C_drew ?_))); (case side8 => exact HC0_3.out); rintro e w53 ⟨v483, rfl, ho0, hb⟩; refine ⟨_, rfl, ?_⟩; have n0_ := Aside0.mk (Kd.R_lower ho0 (below_size (by repeat (first | (with_reducible first | exact HB.out | apply below_alloc | apply pw_below_drewN | apply below_drew1 | refine below_set ?_ GE475.out) | exact HB.out)))); have n1_ := Aside0.mk (blk_below (g := gb475) (o := .cells #[.slice A0_0 l0_0.length c0_0, .slice A0_1 l0_1.length c0_1, .slice A0_2 l0_2.length c0_2, .slice A0_3 l0_3.length c0_3, .int .i64 a0_4] 27 (0, 0)) (by (with_reducible repeat (first | refine blk_drewN ?_ _ | refine blk_drew ?_ | refine blk_alloc ?_ _)); exact BK475.out) hb); have n2_ := Aside0.mk (below_step (by repeat (first | (with_reducible first | exact HB.out | apply below_alloc | apply pw_below_drewN | apply below_drew1 | refine below_set ?_ GE475.out) | exact HB.out)) hb); clear BK475; clear HB; have HO484 := n0_; have BK475 := n1_; have HB := n2_; clear n0_ n1_ n2_; (try clear hb); (try clear hb2); (try clear hk); (try clear hi); (try clear ho0); have hcz54_0 : w53.cell? ⟨gb475, 0, none⟩ = some (.slice A0_0 l0_0.length c0_0) := (blk_cell BK475.out 0).trans rfl; have hcz54_1 : w53.cell? ⟨gb475, 1, none⟩ = some (.slice A0_1 l0_1.length c0_1) := (blk_cell BK475.out 1).trans rfl; have hcz54_2 : w53.cell? ⟨gb475, 2, none⟩ = some (.slice A0_2 l0_2.length c0_2) := (blk_cell BK475.out 2).trans rfl; have hcz54_3 : w53.cell? ⟨gb475, 3, none⟩ = some (.slice A0_3 l0_3.length c0_3) := (blk_cell BK475.out 3).trans rfl; have hcz54_4 : w53.cell? ⟨gb475, 4, none⟩ = some (.int .i64 a0_4) := (blk_cell BK475.out 4).trans rfl; have hfz54_0 := blk_frozen BK475.out 0; have hfz54_1 := blk_frozen BK475.out 1; have hfz54_2 := blk_frozen BK475.out 2; have hfz54_3 := blk_frozen BK475.out 3; have hfz54_4 := blk_frozen BK475.out 4; have p485 : 0 ≤ (a1 : Int) := of_decide_eq_true (by first | (with_reducible assumption) | assumption); have q485 : a1 < (l0_3.length : Int) := of_decide_eq_true (by first | (with_reducible assumption) | assumption); obtain ⟨ad485, A485_2, c485_2, e485, hx485_0, hx485_1, hx485_2, hx485_3, hl485_2, hi485_2⟩ := at_T45 HR0_3.out a1 p485 q485; cases e485; replace hx485_0 := (HB.out.cell (World.block_lt_of_cell? w _ hx485_0)).trans hx485_0; replace hx485_1 := (HB.out.cell (World.block_lt_of_cell? w _ hx485_1)).trans hx485_1; replace hx485_2 := (HB.out.cell (World.block_lt_of_cell? w _ hx485_2)).trans hx485_2; replace hx485_3 := (HB.out.cell (World.block_lt_of_cell? w _ hx485_3)).trans hx485_3; have HR485_2 := Aside0.mk hi485_2; have HC485_2 := Aside0.mk hl485_2; clear hi485_2 hl485_2; replace p485 := eq_true p485; replace q485 := eq_true q485; have p486 : 0 ≤ (a2 : Int) := of_decide_eq_true (by first | (with_reducible assumption) | assumption); have q486 : a2 < (((rd_T45 l0_3 a1).f2).length : Int) := of_decide_eq_true (by first | (with_reducible assumption) | assumption); obtain ⟨ad486, e486, hx486_0⟩ := Kd.at_int HR485_2.out a2 p486 q486; cases e486; replace hx486_0 := (HB.out.cell (World.block_lt_of_cell? w _ hx486_0)).trans hx486_0; replace p486 := eq_true p486; replace q486 := eq_true q486))
                            have n0_ := Aside0.mk (Kd.R_drew HO484.out)
                            have n1_ := Aside0.mk (blk_drew BK475.out)
                            have n2_ := Aside0.mk (below_drew1 HB.out)
                            clear HO484
                            clear BK475
                            clear HB
                            have HO484 := n0_
                            have BK475 := n1_
                            have HB := n2_
                            clear n0_ n1_ n2_
                            have p487 : 0 ≤ (a1 : Int) := of_decide_eq_true (by first | (with_reducible assumption) | assumption)
                            have q487 : a1 < (l0_3.length : Int) := of_decide_eq_true (by first | (with_reducible assumption) | assumption)
                            obtain ⟨ad487, A487_2, c487_2, e487, hx487_0, hx487_1, hx487_2, hx487_3, hl487_2, hi487_2⟩ := at_T45 HR0_3.out a1 p487 q487
                            have hw487_3 := hx487_3
                            have hw487_2 := hx487_2
                            have hw487_1 := hx487_1
                            have hw487_0 := hx487_0
                            obtain rfl : ad485 = ad487 := (by injection e487)
                            replace hx487_0 := (HB.out.cell (World.block_lt_of_cell? w _ hx487_0)).trans hx487_0
                            replace hx487_1 := (HB.out.cell (World.block_lt_of_cell? w _ hx487_1)).trans hx487_1
                            replace hx487_2 := (HB.out.cell (World.block_lt_of_cell? w _ hx487_2)).trans hx487_2
                            replace hx487_3 := (HB.out.cell (World.block_lt_of_cell? w _ hx487_3)).trans hx487_3
                            have HR487_2 := Aside0.mk hi487_2
                            have HC487_2 := Aside0.mk hl487_2
                            clear hi487_2 hl487_2
                            replace p487 := eq_true p487
                            replace q487 := eq_true q487
                            obtain ⟨Ao56, co56, eo56⟩ := Kd.R_slice HO484.out
                            (first | subst eo56 | (injection eo56 with f1_ f2_ f3_; have f4_ := f1_.symm; have f5_ := f3_.symm; clear f1_ f2_ f3_; subst f4_; subst f5_))
                            have p488 : 0 ≤ (((rd_T45 l0_3 a1).f1) : Int) := of_decide_eq_true (by first | (with_reducible assumption) | assumption)
                            have q488 : ((rd_T45 l0_3 a1).f1) < (t482.length : Int) := of_decide_eq_true (by first | (with_reducible assumption) | assumption)
                            obtain ⟨ad488, e488, hx488_0⟩ := Kd.at_int (Kd.R_reads' HO484.out).2.2 ((rd_T45 l0_3 a1).f1) p488 q488
                            cases e488
                            replace p488 := eq_true p488
                            replace q488 := eq_true q488
                            have p489 : 0 ≤ ((ji48) : Int) := of_decide_eq_true (by first | (with_reducible assumption) | assumption)
                            have q489 : (ji48) < (t482.length : Int) := of_decide_eq_true (by first | (with_reducible assumption) | assumption)
                            obtain ⟨ad489, e489, hx489_0⟩ := Kd.at_int (Kd.R_reads' HO484.out).2.2 (ji48) p489 q489
                            obtain rfl : ad488 = ad489 := (by injection e489)
                            replace p489 := eq_true p489
                            replace q489 := eq_true q489
                            refine start_ (n := 18) (S := fun w' => w'.cell? ⟨gb475, 0, none⟩ = some (.slice A0_0 l0_0.length c0_0) ∧ w'.cell? ⟨gb475, 1, none⟩ = some (.slice A0_1 l0_1.length c0_1) ∧ w'.cell? ⟨gb475, 2, none⟩ = some (.slice A0_2 l0_2.length c0_2) ∧ w'.cell? ⟨gb475, 3, none⟩ = some (.slice (some ad485) l0_3.length c0_3) ∧ w'.cell? ⟨gb475, 4, none⟩ = some (.int .i64 a0_4) ∧ w'.cell? (ad485.add ((a1).toNat * 4)) = some (.string ((rd_T45 l0_3 a1).f0)) ∧ w'.cell? ⟨(ad485.add ((a1).toNat * 4)).block, (ad485.add ((a1).toNat * 4)).off + 1, none⟩ = some (.int .i64 ((rd_T45 l0_3 a1).f1)) ∧ w'.cell? ⟨(ad485.add ((a1).toNat * 4)).block, (ad485.add ((a1).toNat * 4)).off + 2, none⟩ = some (.slice A487_2 ((rd_T45 l0_3 a1).f2).length c487_2) ∧ w'.cell? ⟨(ad485.add ((a1).toNat * 4)).block, (ad485.add ((a1).toNat * 4)).off + 3, none⟩ = some (.int .i64 ((rd_T45 l0_3 a1).f3)) ∧ w'.cell? (ad488.add (((rd_T45 l0_3 a1).f1)).toNat) = some (.int .u64 (rd t482 ((rd_T45 l0_3 a1).f1))) ∧ w'.cell? (ad488.add ((ji48)).toNat) = some (.int .u64 (rd t482 (ji48)))) (ds := []) #[false, false, false, false, false, false, false, false, false, false, false, false, false, false, false, false, false, false] (by kernel_rfl) rfl rfl ⟨(blk_cell BK475.out 0).trans rfl, (blk_cell BK475.out 1).trans rfl, (blk_cell BK475.out 2).trans rfl, (blk_cell BK475.out 3).trans rfl, (blk_cell BK475.out 4).trans rfl, ((HB.out.cell (World.block_lt_of_cell? w _ hw487_0)).trans hw487_0), ((HB.out.cell (World.block_lt_of_cell? w _ hw487_1)).trans hw487_1), ((HB.out.cell (World.block_lt_of_cell? w _ hw487_2)).trans hw487_2), ((HB.out.cell (World.block_lt_of_cell? w _ hw487_3)).trans hw487_3), hx488_0, hx489_0⟩ (fun hHeld => ?_); refine with_tabW syntagmlaw13_SetsFollow.tab11 syntagmlaw13_SetsFollow.bits11 (fun HT_ HW_ => ?_)
                            generalize w53.drew = w55 at HO484 BK475 HB HR487_2 hx487_0 hx487_1 hx487_2 hx487_3 hx488_0 hx489_0 hHeld ⊢
                            refine pure_ (i := 0) (N := some 81) (v := ?_) (a' := ?_) #[true, false, false, false, false, false, false, false, false, false, false, false, false, false, false, false, false, false] rfl rfl (any_of HT_.out (by kernel_rfl)) (fun _ _ _ h => h) (Or.inl ⟨by rfl, ?_⟩) ?_ ?_
                            rotate_left
                            · intro w'
                              go_simp
                              with_reducible rfl
                            rotate_left
                            · simp only [Act.put, List.setIfInBounds_toArray, List.set_cons_zero, List.set_cons_succ, i64_w, i32_w]
                              rfl
                            refine pure_ (i := 1) (N := some 82) (v := ?_) (a' := ?_) #[true, true, false, false, false, false, false, false, false, false, false, false, false, false, false, false, false, false] rfl rfl (any_of HT_.out (by kernel_rfl)) (fun _ _ _ h => h) (Or.inl ⟨by rfl, ?_⟩) ?_ ?_
                            rotate_left
                            · intro w'
                              go_simp
                              with_reducible rfl
                            rotate_left
                            · simp only [Act.put, List.setIfInBounds_toArray, List.set_cons_zero, List.set_cons_succ, i64_w, i32_w]
                              rfl
                            refine pure_ (i := 2) (N := some 83) (v := ?_) (a' := ?_) #[true, true, true, false, false, false, false, false, false, false, false, false, false, false, false, false, false, false] rfl rfl (any_of HT_.out (by kernel_rfl)) (fun _ _ _ h => h) (Or.inl ⟨by rfl, ?_⟩) ?_ ?_
                            rotate_left
                            · intro w'
                              go_simp
                              with_reducible rfl
                            rotate_left
                            · simp only [Act.put, List.setIfInBounds_toArray, List.set_cons_zero, List.set_cons_succ, i64_w, i32_w]
                              rfl
                            refine pure_ (i := 3) (N := some 84) (v := ?_) (a' := ?_) #[true, true, true, true, false, false, false, false, false, false, false, false, false, false, false, false, false, false] rfl rfl (any_of HT_.out (by kernel_rfl)) (fun _ _ _ h => h) (Or.inl ⟨by rfl, ?_⟩) ?_ ?_
                            rotate_left
                            · intro w'
                              go_simp
                              with_reducible rfl
                            rotate_left
                            · simp only [Act.put, List.setIfInBounds_toArray, List.set_cons_zero, List.set_cons_succ, i64_w, i32_w]
                              rfl
                            refine pure_ (i := 5) (N := some 86) (v := ?_) (a' := ?_) #[true, true, true, true, false, true, false, false, false, false, false, false, false, false, false, false, false, false] rfl rfl (any_of HT_.out (by kernel_rfl)) (fun _ _ _ h => h) (Or.inl ⟨by rfl, ?_⟩) ?_ ?_
                            rotate_left
                            · intro w'
                              go_simp
                              with_reducible rfl
                            rotate_left
                            · simp only [Act.put, List.setIfInBounds_toArray, List.set_cons_zero, List.set_cons_succ, i64_w, i32_w]
                              rfl
                            refine pure_ (i := 11) (N := some 92) (v := ?_) (a' := ?_) #[true, true, true, true, false, true, false, false, false, false, false, true, false, false, false, false, false, false] rfl rfl (any_of HT_.out (by kernel_rfl)) (fun _ _ _ h => h) (Or.inl ⟨by rfl, ?_⟩) ?_ ?_
                            rotate_left
                            · intro w'
                              go_simp
                              with_reducible rfl
                            rotate_left
                            · simp only [Act.put, List.setIfInBounds_toArray, List.set_cons_zero, List.set_cons_succ, i64_w, i32_w]
                              rfl
                            refine pure_ (i := 12) (N := some 93) (v := ?_) (a' := ?_) #[true, true, true, true, false, true, false, false, false, false, false, true, true, false, false, false, false, false] rfl rfl (any_of HT_.out (by kernel_rfl)) (fun _ _ _ h => h) (Or.inl ⟨by rfl, ?_⟩) ?_ ?_
                            rotate_left
                            · intro w'
                              go_simp
                              with_reducible rfl
                            rotate_left
                            · simp only [Act.put, List.setIfInBounds_toArray, List.set_cons_zero, List.set_cons_succ, i64_w, i32_w]
                              rfl
                            refine pure_ (i := 13) (N := some 94) (v := ?_) (a' := ?_) #[true, true, true, true, false, true, false, false, false, false, false, true, true, true, false, false, false, false] rfl rfl (any_of HT_.out (by kernel_rfl)) (fun _ _ _ h => h) (Or.inl ⟨by rfl, ?_⟩) ?_ ?_
                            rotate_left
                            · intro w'
                              go_simp
                              with_reducible rfl
                            rotate_left
                            · simp only [Act.put, List.setIfInBounds_toArray, List.set_cons_zero, List.set_cons_succ, i64_w, i32_w]
                              rfl
                            refine take_ (i := 4) (N := some 85) (v := ?_) (a' := ?_) #[true, true, true, true, true, true, false, false, false, false, false, true, true, true, false, false, false, false] rfl rfl (take_ofW HT_.out HW_.out (by kernel_rfl)) (fun _ _ _ h => h) (Or.inl ⟨by rfl, ?_⟩) hHeld ?_ ?_
                            rotate_left
                            · rintro w' ⟨s0, s1, s2, s3, s4, s5, s6, s7, s8, s9, s10⟩
                              go_simp
                              with_reducible rfl
                            rotate_left
                            · simp only [Act.put, List.setIfInBounds_toArray, List.set_cons_zero, List.set_cons_succ, i64_w, i32_w]
                              rfl
                            refine pure_ (i := 6) (N := some 87) (v := ?_) (a' := ?_) #[true, true, true, true, true, true, true, false, false, false, false, true, true, true, false, false, false, false] rfl rfl (any_of HT_.out (by kernel_rfl)) (fun _ _ _ h => h) (Or.inl ⟨by rfl, ?_⟩) ?_ ?_
                            rotate_left
                            · intro w'
                              go_simp
                              with_reducible rfl
                            rotate_left
                            · simp only [Act.put, List.setIfInBounds_toArray, List.set_cons_zero, List.set_cons_succ, i64_w, i32_w]
                              rfl
                            refine pure_ (i := 7) (N := some 88) (v := ?_) (a' := ?_) #[true, true, true, true, true, true, true, true, false, false, false, true, true, true, false, false, false, false] rfl rfl (any_of HT_.out (by kernel_rfl)) (fun _ _ _ h => h) (Or.inl ⟨by rfl, ?_⟩) ?_ ?_
                            rotate_left
                            · intro w'
                              go_simp
                              with_reducible rfl
                            rotate_left
                            · simp only [Act.put, List.setIfInBounds_toArray, List.set_cons_zero, List.set_cons_succ, i64_w, i32_w]
                              rfl
                            refine take_ (i := 8) (N := some 89) (v := ?_) (a' := ?_) #[true, true, true, true, true, true, true, true, true, false, false, true, true, true, false, false, false, false] rfl rfl (take_ofW HT_.out HW_.out (by kernel_rfl)) (fun _ _ _ h => h) (Or.inl ⟨by rfl, ?_⟩) hHeld ?_ ?_
                            rotate_left
                            · rintro w' ⟨s0, s1, s2, s3, s4, s5, s6, s7, s8, s9, s10⟩
                              go_simp
                              with_reducible rfl
                            rotate_left
                            · simp only [Act.put, List.setIfInBounds_toArray, List.set_cons_zero, List.set_cons_succ, i64_w, i32_w]
                              rfl
                            refine pure_ (i := 9) (N := some 90) (v := ?_) (a' := ?_) #[true, true, true, true, true, true, true, true, true, true, false, true, true, true, false, false, false, false] rfl rfl (any_of HT_.out (by kernel_rfl)) (fun _ _ _ h => h) (Or.inl ⟨by rfl, ?_⟩) ?_ ?_
                            rotate_left
                            · intro w'
                              go_simp
                              with_reducible rfl
                            rotate_left
                            · simp only [Act.put, List.setIfInBounds_toArray, List.set_cons_zero, List.set_cons_succ, i64_w, i32_w]
                              rfl
                            refine take_ (i := 10) (N := some 91) (v := ?_) (a' := ?_) #[true, true, true, true, true, true, true, true, true, true, true, true, true, true, false, false, false, false] rfl rfl (take_ofW HT_.out HW_.out (by kernel_rfl)) (fun _ _ _ h => h) (Or.inl ⟨by rfl, ?_⟩) hHeld ?_ ?_
                            rotate_left
                            · rintro w' ⟨s0, s1, s2, s3, s4, s5, s6, s7, s8, s9, s10⟩
                              go_simp
                              with_reducible rfl
                            rotate_left
                            · simp only [Act.put, List.setIfInBounds_toArray, List.set_cons_zero, List.set_cons_succ, i64_w, i32_w]
                              rfl
                            refine take_ (i := 14) (N := some 95) (v := ?_) (a' := ?_) #[true, true, true, true, true, true, true, true, true, true, true, true, true, true, true, false, false, false] rfl rfl (take_ofW HT_.out HW_.out (by kernel_rfl)) (fun _ _ _ h => h) (Or.inl ⟨by rfl, ?_⟩) hHeld ?_ ?_
                            rotate_left
                            · rintro w' ⟨s0, s1, s2, s3, s4, s5, s6, s7, s8, s9, s10⟩
                              go_simp
                              with_reducible rfl
                            rotate_left
                            · simp only [Act.put, List.setIfInBounds_toArray, List.set_cons_zero, List.set_cons_succ, i64_w, i32_w]
                              rfl
                            refine one_ (i := 15) (N := some 96) #[true, true, true, true, true, true, true, true, true, true, true, true, true, true, true, true, false, false] rfl rfl (one_of HT_.out (by kernel_rfl)) (by decide) (fun K hK => ?_)
                            refine goes_ Try.func25 (by kernel_rfl) rfl #[.int .u64 (rd t482 ((rd_T45 l0_3 a1).f1)), .int .u64 (rd t482 (ji48))] (by rfl) rfl rfl (by (try simp only [List.map_toArray, List.map_cons, List.map_nil]); first | done | (simp only [hji48]; rfl) | rfl | (simp only [List.length_drop, List.length_take]; rfl)) ?_
                            with_reducible refine (bits_In.calls (rd t482 ((rd_T45 l0_3 a1).f1)) (rd t482 (ji48)) t490 _ A51.out).mono ?_
                            rintro e w' ⟨rfl, ⟨nd, rfl⟩⟩
                            refine ⟨_, rfl, ?_⟩
                            refine hK.out _ _ ⟨(blk_cell BK475.out 0).trans rfl, (blk_cell BK475.out 1).trans rfl, (blk_cell BK475.out 2).trans rfl, (blk_cell BK475.out 3).trans rfl, (blk_cell BK475.out 4).trans rfl, ((HB.out.cell (World.block_lt_of_cell? w _ hw487_0)).trans hw487_0), ((HB.out.cell (World.block_lt_of_cell? w _ hw487_1)).trans hw487_1), ((HB.out.cell (World.block_lt_of_cell? w _ hw487_2)).trans hw487_2), ((HB.out.cell (World.block_lt_of_cell? w _ hw487_3)).trans hw487_3), hHeld.2.2.2.2.2.2.2.2.2.1, hHeld.2.2.2.2.2.2.2.2.2.2⟩ (fun hHeld => ?_)
                            clear hK K
                            refine norm_ (a' := ?_) ?_ ?_
                            rotate_left
                            · show Act.put _ (some 96) _ = _
                              simp only [Act.put, List.setIfInBounds_toArray, List.set_cons_zero, List.set_cons_succ, i64_w, i32_w]
                              rfl
                            refine pure_ (i := 16) (N := some 97) (v := ?_) (a' := ?_) #[true, true, true, true, true, true, true, true, true, true, true, true, true, true, true, true, true, false] rfl rfl (any_of HT_.out (by kernel_rfl)) (fun _ _ _ h => h) (Or.inl ⟨by rfl, ?_⟩) ?_ ?_
                            rotate_left
                            · intro w'
                              go_simp
                              with_reducible rfl
                            rotate_left
                            · simp only [Act.put, List.setIfInBounds_toArray, List.set_cons_zero, List.set_cons_succ, i64_w, i32_w]
                              rfl
                            refine pure_ (i := 17) (N := some 6) (v := ?_) (a' := ?_) #[true, true, true, true, true, true, true, true, true, true, true, true, true, true, true, true, true, true] rfl rfl (any_of HT_.out (by kernel_rfl)) (fun _ _ _ h => h) (Or.inl ⟨by rfl, ?_⟩) ?_ ?_
                            rotate_left
                            · intro w'
                              go_simp
                              with_reducible rfl
                            rotate_left
                            · simp only [Act.put, List.setIfInBounds_toArray, List.set_cons_zero, List.set_cons_succ, i64_w, i32_w]
                              rfl
                            refine done_ (done_of HT_.out (by kernel_rfl)) ?_
                            try go_wp2
                            go_ret
                            exact ⟨by first | rfl | (simp [errW_none, errW_some] <;> rfl) | (simp only [← hji48]; first | rfl | (simp [errW_none, errW_some] <;> rfl)) | (simp [*, errW_none, errW_some] <;> rfl), by repeat (first | (with_reducible first | exact HB.out | apply below_alloc | apply pw_below_drewN | apply below_drew1 | refine below_set ?_ GE475.out) | exact HB.out)⟩
                          · rw [if_neg c50] at H
                            exact absurd H (by simp)
                        · rw [if_neg c49] at H
                          exact absurd H (by simp)
                      · rw [if_neg c47] at H
                        exact absurd H (by simp)
                    · rw [if_neg c46] at H
                      exact absurd H (by simp)
                  · rw [if_neg c45] at H
                    have c45b0 : (a2 == (wrap64 ((((rd_T45 l0_3 a1).f2).length : Int) - 1))) = false := beq_eq_false_iff_ne.mpr c45
                    have c45b1 : (a2 != (wrap64 ((((rd_T45 l0_3 a1).f2).length : Int) - 1))) = true := bne_iff_ne.mpr c45
                    obtain ⟨ji57, hji57⟩ : ∃ j_ : Int, (wrap64 (a2 + 1)) = j_ := ⟨_, rfl⟩
                    replace H : (if 0 ≤ (ji57) then (if (ji57) < (((rd_T45 l0_3 a1).f2).length : Int) then (if (rd ((rd_T45 l0_3 a1).f2) (ji57)) ≥ 0 then (if true = true then (if 0 ≤ (wrap64 ((-1) - (rd ((rd_T45 l0_3 a1).f2) a2))) then (if (wrap64 ((-1) - (rd ((rd_T45 l0_3 a1).f2) a2))) < (t482.length : Int) then ((bits_Has.f (rd t482 (wrap64 ((-1) - (rd ((rd_T45 l0_3 a1).f2) a2)))) (rd ((rd_T45 l0_3 a1).f2) (ji57))).bind fun t494 => (some t494)) else (none)) else (none)) else (some false)) else (if true = true then ((sets_First.f kj6 l0_0 l0_1 l0_2 l0_3 a0_4).bind fun t495 => (if 0 ≤ (wrap64 ((-1) - (rd ((rd_T45 l0_3 a1).f2) (ji57)))) then (if (wrap64 ((-1) - (rd ((rd_T45 l0_3 a1).f2) (ji57)))) < (t495.length : Int) then (if 0 ≤ (wrap64 ((-1) - (rd ((rd_T45 l0_3 a1).f2) a2))) then (if (wrap64 ((-1) - (rd ((rd_T45 l0_3 a1).f2) a2))) < (t482.length : Int) then ((bits_In.f (rd t495 (wrap64 ((-1) - (rd ((rd_T45 l0_3 a1).f2) (ji57))))) (rd t482 (wrap64 ((-1) - (rd ((rd_T45 l0_3 a1).f2) a2))))).bind fun t501 => (some t501)) else (none)) else (none)) else (none)) else (none))) else (some false))) else (none)) else (none)) = some r := by first | (rw [hji57] at H; exact H) | (simp only [hji57] at H ⊢; exact H)
                    (try rw [hji57] at A40)
                    have hji57w : (IntKind.i64.wrap (a2 + 1)) = ji57 := (i64_w _).trans hji57
                    by_cases c58 : 0 ≤ (ji57)
                    · rw [if_pos c58] at H
                      have c58b0 : decide (0 ≤ (ji57)) = true := decide_eq_true c58
                      clear c58
                      by_cases c59 : (ji57) < (((rd_T45 l0_3 a1).f2).length : Int)
                      · rw [if_pos c59] at H
                        have c59b0 : decide ((ji57) < (((rd_T45 l0_3 a1).f2).length : Int)) = true := decide_eq_true c59
                        clear c59
                        by_cases c60 : (rd ((rd_T45 l0_3 a1).f2) (ji57)) ≥ 0
                        · rw [if_pos c60] at H
                          have c60b0 : decide (0 ≤ (rd ((rd_T45 l0_3 a1).f2) (ji57))) = true := decide_eq_true c60
                          clear c60
                          replace H : (if 0 ≤ (wrap64 ((-1) - (rd ((rd_T45 l0_3 a1).f2) a2))) then (if (wrap64 ((-1) - (rd ((rd_T45 l0_3 a1).f2) a2))) < (t482.length : Int) then ((bits_Has.f (rd t482 (wrap64 ((-1) - (rd ((rd_T45 l0_3 a1).f2) a2)))) (rd ((rd_T45 l0_3 a1).f2) (ji57))).bind fun t494 => (some t494)) else (none)) else (none)) = some r := by first | (rw [if_pos rfl] at H; exact H) | (rw [if_pos trivial] at H; exact H)
                          obtain ⟨ji61, hji61⟩ : ∃ j_ : Int, (wrap64 ((-1) - (rd ((rd_T45 l0_3 a1).f2) a2))) = j_ := ⟨_, rfl⟩
                          replace H : (if 0 ≤ (ji61) then (if (ji61) < (t482.length : Int) then ((bits_Has.f (rd t482 (ji61)) (rd ((rd_T45 l0_3 a1).f2) (ji57))).bind fun t494 => (some t494)) else (none)) else (none)) = some r := by first | (rw [hji61] at H; exact H) | (simp only [hji61] at H ⊢; exact H)
                          (try rw [hji61] at A40)
                          have hji61w : (IntKind.i64.wrap ((-1) - (rd ((rd_T45 l0_3 a1).f2) a2))) = ji61 := (i64_w _).trans hji61
                          by_cases c62 : 0 ≤ (ji61)
                          · rw [if_pos c62] at H
                            have c62b0 : decide (0 ≤ (ji61)) = true := decide_eq_true c62
                            clear c62
                            by_cases c63 : (ji61) < (t482.length : Int)
                            · rw [if_pos c63] at H
                              have c63b0 : decide ((ji61) < (t482.length : Int)) = true := decide_eq_true c63
                              clear c63
                              replace H := Option.bind_eq_some_iff.mp H
                              obtain ⟨t494, A640, H⟩ := H
                              replace H : (some t494) = some r := H
                              have A64 := Aside0.mk A640
                              clear A640
                              obtain rfl := Option.some.inj H
                              have hcz65_0 : wc.cell? ⟨gb475, 0, none⟩ = some (.slice A0_0 l0_0.length c0_0) := (blk_cell BK475.out 0).trans rfl
                              have hcz65_1 : wc.cell? ⟨gb475, 1, none⟩ = some (.slice A0_1 l0_1.length c0_1) := (blk_cell BK475.out 1).trans rfl
                              have hcz65_2 : wc.cell? ⟨gb475, 2, none⟩ = some (.slice A0_2 l0_2.length c0_2) := (blk_cell BK475.out 2).trans rfl
                              have hcz65_3 : wc.cell? ⟨gb475, 3, none⟩ = some (.slice A0_3 l0_3.length c0_3) := (blk_cell BK475.out 3).trans rfl
                              have hcz65_4 : wc.cell? ⟨gb475, 4, none⟩ = some (.int .i64 a0_4) := (blk_cell BK475.out 4).trans rfl
                              have hfz65_0 := blk_frozen BK475.out 0
                              have hfz65_1 := blk_frozen BK475.out 1
                              have hfz65_2 := blk_frozen BK475.out 2
                              have hfz65_3 := blk_frozen BK475.out 3
                              have hfz65_4 := blk_frozen BK475.out 4
                              try go_wp2_with (first | ((with_reducible refine gate_callee (f := 19) rfl ?_); refine goesL_ (some 64) rfl rfl Try.func19 (by kernel_rfl) rfl #[.agg #[.slice A0_0 l0_0.length c0_0, .slice A0_1 l0_1.length c0_1, .slice A0_2 l0_2.length c0_2, .slice A0_3 l0_3.length c0_3, .int .i64 a0_4]] rfl (by (try simp only [List.map_toArray, List.map_cons, List.map_nil]); first | done | rfl | (simp only [List.length_drop, List.length_take]; rfl)) ?_; (with_reducible refine (sets_Follow.calls kj6 _ _ l0_0 _ _ l0_1 _ _ l0_2 _ _ l0_3 a0_4 t482 _ ?side1 ?side2 ?side3 ?side4 ?side5 ?side6 ?side7 ?side8 A40.out).mono ?_); (case side1 => repeat (first | exact (Kd.C_below HR0_0.out HB.out) | (with_reducible refine Kd.C_alloc ?_ _) | (with_reducible refine Kd.C_drewN ?_ _) | (with_reducible refine Kd.C_drew ?_))); (case side2 => exact HC0_0.out); (case side3 => repeat (first | exact (Kd.C_below HR0_1.out HB.out) | (with_reducible refine Kd.C_alloc ?_ _) | (with_reducible refine Kd.C_drewN ?_ _) | (with_reducible refine Kd.C_drew ?_))); (case side4 => exact HC0_1.out); (case side5 => repeat (first | exact (Kd.C_below HR0_2.out HB.out) | (with_reducible refine Kd.C_alloc ?_ _) | (with_reducible refine Kd.C_drewN ?_ _) | (with_reducible refine Kd.C_drew ?_))); (case side6 => exact HC0_2.out); (case side7 => repeat (first | exact (Kd.C_below HR0_3.out HB.out) | (with_reducible refine Kd.C_alloc ?_ _) | (with_reducible refine Kd.C_drewN ?_ _) | (with_reducible refine Kd.C_drew ?_))); (case side8 => exact HC0_3.out); rintro e w66 ⟨v483, rfl, ho0, hb⟩; refine ⟨_, rfl, ?_⟩; have n0_ := Aside0.mk (Kd.R_lower ho0 (below_size (by repeat (first | (with_reducible first | exact HB.out | apply below_alloc | apply pw_below_drewN | apply below_drew1 | refine below_set ?_ GE475.out) | exact HB.out)))); have n1_ := Aside0.mk (blk_below (g := gb475) (o := .cells #[.slice A0_0 l0_0.length c0_0, .slice A0_1 l0_1.length c0_1, .slice A0_2 l0_2.length c0_2, .slice A0_3 l0_3.length c0_3, .int .i64 a0_4] 27 (0, 0)) (by (with_reducible repeat (first | refine blk_drewN ?_ _ | refine blk_drew ?_ | refine blk_alloc ?_ _)); exact BK475.out) hb); have n2_ := Aside0.mk (below_step (by repeat (first | (with_reducible first | exact HB.out | apply below_alloc | apply pw_below_drewN | apply below_drew1 | refine below_set ?_ GE475.out) | exact HB.out)) hb); clear BK475; clear HB; have HO484 := n0_; have BK475 := n1_; have HB := n2_; clear n0_ n1_ n2_; (try clear hb); (try clear hb2); (try clear hk); (try clear hi); (try clear ho0); have hcz67_0 : w66.cell? ⟨gb475, 0, none⟩ = some (.slice A0_0 l0_0.length c0_0) := (blk_cell BK475.out 0).trans rfl; have hcz67_1 : w66.cell? ⟨gb475, 1, none⟩ = some (.slice A0_1 l0_1.length c0_1) := (blk_cell BK475.out 1).trans rfl; have hcz67_2 : w66.cell? ⟨gb475, 2, none⟩ = some (.slice A0_2 l0_2.length c0_2) := (blk_cell BK475.out 2).trans rfl; have hcz67_3 : w66.cell? ⟨gb475, 3, none⟩ = some (.slice A0_3 l0_3.length c0_3) := (blk_cell BK475.out 3).trans rfl; have hcz67_4 : w66.cell? ⟨gb475, 4, none⟩ = some (.int .i64 a0_4) := (blk_cell BK475.out 4).trans rfl; have hfz67_0 := blk_frozen BK475.out 0; have hfz67_1 := blk_frozen BK475.out 1; have hfz67_2 := blk_frozen BK475.out 2; have hfz67_3 := blk_frozen BK475.out 3; have hfz67_4 := blk_frozen BK475.out 4; have p485 : 0 ≤ (a1 : Int) := of_decide_eq_true (by first | (with_reducible assumption) | assumption); have q485 : a1 < (l0_3.length : Int) := of_decide_eq_true (by first | (with_reducible assumption) | assumption); obtain ⟨ad485, A485_2, c485_2, e485, hx485_0, hx485_1, hx485_2, hx485_3, hl485_2, hi485_2⟩ := at_T45 HR0_3.out a1 p485 q485; cases e485; replace hx485_0 := (HB.out.cell (World.block_lt_of_cell? w _ hx485_0)).trans hx485_0; replace hx485_1 := (HB.out.cell (World.block_lt_of_cell? w _ hx485_1)).trans hx485_1; replace hx485_2 := (HB.out.cell (World.block_lt_of_cell? w _ hx485_2)).trans hx485_2; replace hx485_3 := (HB.out.cell (World.block_lt_of_cell? w _ hx485_3)).trans hx485_3; have HR485_2 := Aside0.mk hi485_2; have HC485_2 := Aside0.mk hl485_2; clear hi485_2 hl485_2; replace p485 := eq_true p485; replace q485 := eq_true q485; have p486 : 0 ≤ (a2 : Int) := of_decide_eq_true (by first | (with_reducible assumption) | assumption); have q486 : a2 < (((rd_T45 l0_3 a1).f2).length : Int) := of_decide_eq_true (by first | (with_reducible assumption) | assumption); obtain ⟨ad486, e486, hx486_0⟩ := Kd.at_int HR485_2.out a2 p486 q486; cases e486; replace hx486_0 := (HB.out.cell (World.block_lt_of_cell? w _ hx486_0)).trans hx486_0; replace p486 := eq_true p486; replace q486 := eq_true q486; have p491 : 0 ≤ ((ji57) : Int) := of_decide_eq_true (by first | (with_reducible assumption) | assumption); have q491 : (ji57) < (((rd_T45 l0_3 a1).f2).length : Int) := of_decide_eq_true (by first | (with_reducible assumption) | assumption); obtain ⟨ad491, e491, hx491_0⟩ := Kd.at_int HR485_2.out (ji57) p491 q491; obtain rfl : ad486 = ad491 := (by injection e491); replace hx491_0 := (HB.out.cell (World.block_lt_of_cell? w _ hx491_0)).trans hx491_0; replace p491 := eq_true p491; replace q491 := eq_true q491))
                              have n0_ := Aside0.mk (Kd.R_drew HO484.out)
                              have n1_ := Aside0.mk (blk_drew BK475.out)
                              have n2_ := Aside0.mk (below_drew1 HB.out)
                              clear HO484
                              clear BK475
                              clear HB
                              have HO484 := n0_
                              have BK475 := n1_
                              have HB := n2_
                              clear n0_ n1_ n2_
                              obtain ⟨Ao69, co69, eo69⟩ := Kd.R_slice HO484.out
                              (first | subst eo69 | (injection eo69 with f1_ f2_ f3_; have f4_ := f1_.symm; have f5_ := f3_.symm; clear f1_ f2_ f3_; subst f4_; subst f5_))
                              have p492 : 0 ≤ ((ji61) : Int) := of_decide_eq_true (by first | (with_reducible assumption) | assumption)
                              have q492 : (ji61) < (t482.length : Int) := of_decide_eq_true (by first | (with_reducible assumption) | assumption)
                              obtain ⟨ad492, e492, hx492_0⟩ := Kd.at_int (Kd.R_reads' HO484.out).2.2 (ji61) p492 q492
                              cases e492
                              replace p492 := eq_true p492
                              replace q492 := eq_true q492
                              have p493 : 0 ≤ ((ji57) : Int) := of_decide_eq_true (by first | (with_reducible assumption) | assumption)
                              have q493 : (ji57) < (((rd_T45 l0_3 a1).f2).length : Int) := of_decide_eq_true (by first | (with_reducible assumption) | assumption)
                              obtain ⟨ad493, e493, hx493_0⟩ := Kd.at_int HR485_2.out (ji57) p493 q493
                              have hw493_0 := hx493_0
                              obtain rfl : ad486 = ad493 := (by injection e493)
                              replace hx493_0 := (HB.out.cell (World.block_lt_of_cell? w _ hx493_0)).trans hx493_0
                              replace p493 := eq_true p493
                              replace q493 := eq_true q493
                              refine start_ (n := 14) (S := fun w' => w'.cell? (ad492.add ((ji61)).toNat) = some (.int .u64 (rd t482 (ji61))) ∧ w'.cell? (ad486.add ((ji57)).toNat) = some (.int .i64 (rd ((rd_T45 l0_3 a1).f2) (ji57)))) (ds := []) #[false, false, false, false, false, false, false, false, false, false, false, false, false, false] (by kernel_rfl) rfl rfl ⟨hx492_0, ((HB.out.cell (World.block_lt_of_cell? w _ hw493_0)).trans hw493_0)⟩ (fun hHeld => ?_); refine with_tabW syntagmlaw13_SetsFollow.tab13 syntagmlaw13_SetsFollow.bits13 (fun HT_ HW_ => ?_)
                              generalize w66.drew = w68 at HO484 BK475 HB hx492_0 hx493_0 hHeld ⊢
                              refine pure_ (i := 0) (N := some 104) (v := ?_) (a' := ?_) #[true, false, false, false, false, false, false, false, false, false, false, false, false, false] rfl rfl (any_of HT_.out (by kernel_rfl)) (fun _ _ _ h => h) (Or.inl ⟨by rfl, ?_⟩) ?_ ?_
                              rotate_left
                              · intro w'
                                go_simp
                                with_reducible rfl
                              rotate_left
                              · simp only [Act.put, List.setIfInBounds_toArray, List.set_cons_zero, List.set_cons_succ, i64_w, i32_w]
                                rfl
                              refine pure_ (i := 1) (N := some 105) (v := ?_) (a' := ?_) #[true, true, false, false, false, false, false, false, false, false, false, false, false, false] rfl rfl (any_of HT_.out (by kernel_rfl)) (fun _ _ _ h => h) (Or.inl ⟨by rfl, ?_⟩) ?_ ?_
                              rotate_left
                              · intro w'
                                go_simp
                                with_reducible rfl
                              rotate_left
                              · simp only [Act.put, List.setIfInBounds_toArray, List.set_cons_zero, List.set_cons_succ, i64_w, i32_w]
                                rfl
                              refine pure_ (i := 2) (N := some 106) (v := ?_) (a' := ?_) #[true, true, true, false, false, false, false, false, false, false, false, false, false, false] rfl rfl (any_of HT_.out (by kernel_rfl)) (fun _ _ _ h => h) (Or.inl ⟨by rfl, ?_⟩) ?_ ?_
                              rotate_left
                              · intro w'
                                go_simp
                                with_reducible rfl
                              rotate_left
                              · simp only [Act.put, List.setIfInBounds_toArray, List.set_cons_zero, List.set_cons_succ, i64_w, i32_w]
                                rfl
                              refine pure_ (i := 3) (N := some 107) (v := ?_) (a' := ?_) #[true, true, true, true, false, false, false, false, false, false, false, false, false, false] rfl rfl (any_of HT_.out (by kernel_rfl)) (fun _ _ _ h => h) (Or.inl ⟨by rfl, ?_⟩) ?_ ?_
                              rotate_left
                              · intro w'
                                go_simp
                                with_reducible rfl
                              rotate_left
                              · simp only [Act.put, List.setIfInBounds_toArray, List.set_cons_zero, List.set_cons_succ, i64_w, i32_w]
                                rfl
                              refine pure_ (i := 4) (N := some 108) (v := ?_) (a' := ?_) #[true, true, true, true, true, false, false, false, false, false, false, false, false, false] rfl rfl (any_of HT_.out (by kernel_rfl)) (fun _ _ _ h => h) (Or.inl ⟨by rfl, ?_⟩) ?_ ?_
                              rotate_left
                              · intro w'
                                go_simp
                                with_reducible rfl
                              rotate_left
                              · simp only [Act.put, List.setIfInBounds_toArray, List.set_cons_zero, List.set_cons_succ, i64_w, i32_w]
                                rfl
                              refine pure_ (i := 6) (N := some 110) (v := ?_) (a' := ?_) #[true, true, true, true, true, false, true, false, false, false, false, false, false, false] rfl rfl (any_of HT_.out (by kernel_rfl)) (fun _ _ _ h => h) (Or.inl ⟨by rfl, ?_⟩) ?_ ?_
                              rotate_left
                              · intro w'
                                go_simp
                                with_reducible rfl
                              rotate_left
                              · simp only [Act.put, List.setIfInBounds_toArray, List.set_cons_zero, List.set_cons_succ, i64_w, i32_w]
                                rfl
                              refine pure_ (i := 7) (N := some 111) (v := ?_) (a' := ?_) #[true, true, true, true, true, false, true, true, false, false, false, false, false, false] rfl rfl (any_of HT_.out (by kernel_rfl)) (fun _ _ _ h => h) (Or.inl ⟨by rfl, ?_⟩) ?_ ?_
                              rotate_left
                              · intro w'
                                go_simp
                                with_reducible rfl
                              rotate_left
                              · simp only [Act.put, List.setIfInBounds_toArray, List.set_cons_zero, List.set_cons_succ, i64_w, i32_w]
                                rfl
                              refine pure_ (i := 8) (N := some 112) (v := ?_) (a' := ?_) #[true, true, true, true, true, false, true, true, true, false, false, false, false, false] rfl rfl (any_of HT_.out (by kernel_rfl)) (fun _ _ _ h => h) (Or.inl ⟨by rfl, ?_⟩) ?_ ?_
                              rotate_left
                              · intro w'
                                go_simp
                                with_reducible rfl
                              rotate_left
                              · simp only [Act.put, List.setIfInBounds_toArray, List.set_cons_zero, List.set_cons_succ, i64_w, i32_w]
                                rfl
                              refine pure_ (i := 9) (N := some 113) (v := ?_) (a' := ?_) #[true, true, true, true, true, false, true, true, true, true, false, false, false, false] rfl rfl (any_of HT_.out (by kernel_rfl)) (fun _ _ _ h => h) (Or.inl ⟨by rfl, ?_⟩) ?_ ?_
                              rotate_left
                              · intro w'
                                go_simp
                                with_reducible rfl
                              rotate_left
                              · simp only [Act.put, List.setIfInBounds_toArray, List.set_cons_zero, List.set_cons_succ, i64_w, i32_w]
                                rfl
                              refine take_ (i := 5) (N := some 109) (v := ?_) (a' := ?_) #[true, true, true, true, true, true, true, true, true, true, false, false, false, false] rfl rfl (take_ofW HT_.out HW_.out (by kernel_rfl)) (fun _ _ _ h => h) (Or.inl ⟨by rfl, ?_⟩) hHeld ?_ ?_
                              rotate_left
                              · rintro w' ⟨s0, s1⟩
                                go_simp
                                with_reducible rfl
                              rotate_left
                              · simp only [Act.put, List.setIfInBounds_toArray, List.set_cons_zero, List.set_cons_succ, i64_w, i32_w]
                                rfl
                              refine take_ (i := 10) (N := some 114) (v := ?_) (a' := ?_) #[true, true, true, true, true, true, true, true, true, true, true, false, false, false] rfl rfl (take_ofW HT_.out HW_.out (by kernel_rfl)) (fun _ _ _ h => h) (Or.inl ⟨by rfl, ?_⟩) hHeld ?_ ?_
                              rotate_left
                              · rintro w' ⟨s0, s1⟩
                                go_simp
                                with_reducible rfl
                              rotate_left
                              · simp only [Act.put, List.setIfInBounds_toArray, List.set_cons_zero, List.set_cons_succ, i64_w, i32_w]
                                rfl
                              refine one_ (i := 11) (N := some 115) #[true, true, true, true, true, true, true, true, true, true, true, true, false, false] rfl rfl (one_of HT_.out (by kernel_rfl)) (by decide) (fun K hK => ?_)
                              refine goes_ Try.func26 (by kernel_rfl) rfl #[.int .u64 (rd t482 (ji61)), .int .i64 (rd ((rd_T45 l0_3 a1).f2) (ji57))] (by rfl) rfl rfl (by (try simp only [List.map_toArray, List.map_cons, List.map_nil]); first | done | (simp only [hji57, hji61]; rfl) | rfl | (simp only [List.length_drop, List.length_take]; rfl)) ?_
                              with_reducible refine (bits_Has.calls (rd t482 (ji61)) (rd ((rd_T45 l0_3 a1).f2) (ji57)) t494 _ A64.out).mono ?_
                              rintro e w' ⟨rfl, ⟨nd, rfl⟩⟩
                              refine ⟨_, rfl, ?_⟩
                              refine hK.out _ _ ⟨hHeld.1, ((HB.out.cell (World.block_lt_of_cell? w _ hw493_0)).trans hw493_0)⟩ (fun hHeld => ?_)
                              clear hK K
                              refine norm_ (a' := ?_) ?_ ?_
                              rotate_left
                              · show Act.put _ (some 115) _ = _
                                simp only [Act.put, List.setIfInBounds_toArray, List.set_cons_zero, List.set_cons_succ, i64_w, i32_w]
                                rfl
                              refine pure_ (i := 12) (N := some 116) (v := ?_) (a' := ?_) #[true, true, true, true, true, true, true, true, true, true, true, true, true, false] rfl rfl (any_of HT_.out (by kernel_rfl)) (fun _ _ _ h => h) (Or.inl ⟨by rfl, ?_⟩) ?_ ?_
                              rotate_left
                              · intro w'
                                go_simp
                                with_reducible rfl
                              rotate_left
                              · simp only [Act.put, List.setIfInBounds_toArray, List.set_cons_zero, List.set_cons_succ, i64_w, i32_w]
                                rfl
                              refine pure_ (i := 13) (N := some 6) (v := ?_) (a' := ?_) #[true, true, true, true, true, true, true, true, true, true, true, true, true, true] rfl rfl (any_of HT_.out (by kernel_rfl)) (fun _ _ _ h => h) (Or.inl ⟨by rfl, ?_⟩) ?_ ?_
                              rotate_left
                              · intro w'
                                go_simp
                                with_reducible rfl
                              rotate_left
                              · simp only [Act.put, List.setIfInBounds_toArray, List.set_cons_zero, List.set_cons_succ, i64_w, i32_w]
                                rfl
                              refine done_ (done_of HT_.out (by kernel_rfl)) ?_
                              try go_wp2
                              go_ret
                              exact ⟨by first | rfl | (simp [errW_none, errW_some] <;> rfl) | (simp only [← hji57, ← hji61]; first | rfl | (simp [errW_none, errW_some] <;> rfl)) | (simp [*, errW_none, errW_some] <;> rfl), by repeat (first | (with_reducible first | exact HB.out | apply below_alloc | apply pw_below_drewN | apply below_drew1 | refine below_set ?_ GE475.out) | exact HB.out)⟩
                            · rw [if_neg c63] at H
                              exact absurd H (by simp)
                          · rw [if_neg c62] at H
                            exact absurd H (by simp)
                        · rw [if_neg c60] at H
                          have c60b0 : decide (0 ≤ (rd ((rd_T45 l0_3 a1).f2) (ji57))) = false := decide_eq_false c60
                          clear c60
                          replace H : ((sets_First.f kj6 l0_0 l0_1 l0_2 l0_3 a0_4).bind fun t495 => (if 0 ≤ (wrap64 ((-1) - (rd ((rd_T45 l0_3 a1).f2) (ji57)))) then (if (wrap64 ((-1) - (rd ((rd_T45 l0_3 a1).f2) (ji57)))) < (t495.length : Int) then (if 0 ≤ (wrap64 ((-1) - (rd ((rd_T45 l0_3 a1).f2) a2))) then (if (wrap64 ((-1) - (rd ((rd_T45 l0_3 a1).f2) a2))) < (t482.length : Int) then ((bits_In.f (rd t495 (wrap64 ((-1) - (rd ((rd_T45 l0_3 a1).f2) (ji57))))) (rd t482 (wrap64 ((-1) - (rd ((rd_T45 l0_3 a1).f2) a2))))).bind fun t501 => (some t501)) else (none)) else (none)) else (none)) else (none))) = some r := by first | (rw [if_pos rfl] at H; exact H) | (rw [if_pos trivial] at H; exact H)
                          replace H := Option.bind_eq_some_iff.mp H
                          obtain ⟨t495, A700, H⟩ := H
                          replace H : (if 0 ≤ (wrap64 ((-1) - (rd ((rd_T45 l0_3 a1).f2) (ji57)))) then (if (wrap64 ((-1) - (rd ((rd_T45 l0_3 a1).f2) (ji57)))) < (t495.length : Int) then (if 0 ≤ (wrap64 ((-1) - (rd ((rd_T45 l0_3 a1).f2) a2))) then (if (wrap64 ((-1) - (rd ((rd_T45 l0_3 a1).f2) a2))) < (t482.length : Int) then ((bits_In.f (rd t495 (wrap64 ((-1) - (rd ((rd_T45 l0_3 a1).f2) (ji57))))) (rd t482 (wrap64 ((-1) - (rd ((rd_T45 l0_3 a1).f2) a2))))).bind fun t501 => (some t501)) else (none)) else (none)) else (none)) else (none)) = some r := H
                          have A70 := Aside0.mk A700
                          clear A700
                          obtain ⟨ji71, hji71⟩ : ∃ j_ : Int, (wrap64 ((-1) - (rd ((rd_T45 l0_3 a1).f2) (ji57)))) = j_ := ⟨_, rfl⟩
                          replace H : (if 0 ≤ (ji71) then (if (ji71) < (t495.length : Int) then (if 0 ≤ (wrap64 ((-1) - (rd ((rd_T45 l0_3 a1).f2) a2))) then (if (wrap64 ((-1) - (rd ((rd_T45 l0_3 a1).f2) a2))) < (t482.length : Int) then ((bits_In.f (rd t495 (ji71)) (rd t482 (wrap64 ((-1) - (rd ((rd_T45 l0_3 a1).f2) a2))))).bind fun t501 => (some t501)) else (none)) else (none)) else (none)) else (none)) = some r := by first | (rw [hji71] at H; exact H) | (simp only [hji71] at H ⊢; exact H)
                          (try rw [hji71] at A40)
                          (try rw [hji71] at A70)
                          have hji71w : (IntKind.i64.wrap ((-1) - (rd ((rd_T45 l0_3 a1).f2) (ji57)))) = ji71 := (i64_w _).trans hji71
                          by_cases c72 : 0 ≤ (ji71)
                          · rw [if_pos c72] at H
                            have c72b0 : decide (0 ≤ (ji71)) = true := decide_eq_true c72
                            clear c72
                            by_cases c73 : (ji71) < (t495.length : Int)
                            · rw [if_pos c73] at H
                              have c73b0 : decide ((ji71) < (t495.length : Int)) = true := decide_eq_true c73
                              clear c73
                              obtain ⟨ji74, hji74⟩ : ∃ j_ : Int, (wrap64 ((-1) - (rd ((rd_T45 l0_3 a1).f2) a2))) = j_ := ⟨_, rfl⟩
                              replace H : (if 0 ≤ (ji74) then (if (ji74) < (t482.length : Int) then ((bits_In.f (rd t495 (ji71)) (rd t482 (ji74))).bind fun t501 => (some t501)) else (none)) else (none)) = some r := by first | (rw [hji74] at H; exact H) | (simp only [hji74] at H ⊢; exact H)
                              (try rw [hji74] at A40)
                              (try rw [hji74] at A70)
                              have hji74w : (IntKind.i64.wrap ((-1) - (rd ((rd_T45 l0_3 a1).f2) a2))) = ji74 := (i64_w _).trans hji74
                              by_cases c75 : 0 ≤ (ji74)
                              · rw [if_pos c75] at H
                                have c75b0 : decide (0 ≤ (ji74)) = true := decide_eq_true c75
                                clear c75
                                by_cases c76 : (ji74) < (t482.length : Int)
                                · rw [if_pos c76] at H
                                  have c76b0 : decide ((ji74) < (t482.length : Int)) = true := decide_eq_true c76
                                  clear c76
                                  replace H := Option.bind_eq_some_iff.mp H
                                  obtain ⟨t501, A770, H⟩ := H
                                  replace H : (some t501) = some r := H
                                  have A77 := Aside0.mk A770
                                  clear A770
                                  obtain rfl := Option.some.inj H
                                  have hcz78_0 : wc.cell? ⟨gb475, 0, none⟩ = some (.slice A0_0 l0_0.length c0_0) := (blk_cell BK475.out 0).trans rfl
                                  have hcz78_1 : wc.cell? ⟨gb475, 1, none⟩ = some (.slice A0_1 l0_1.length c0_1) := (blk_cell BK475.out 1).trans rfl
                                  have hcz78_2 : wc.cell? ⟨gb475, 2, none⟩ = some (.slice A0_2 l0_2.length c0_2) := (blk_cell BK475.out 2).trans rfl
                                  have hcz78_3 : wc.cell? ⟨gb475, 3, none⟩ = some (.slice A0_3 l0_3.length c0_3) := (blk_cell BK475.out 3).trans rfl
                                  have hcz78_4 : wc.cell? ⟨gb475, 4, none⟩ = some (.int .i64 a0_4) := (blk_cell BK475.out 4).trans rfl
                                  have hfz78_0 := blk_frozen BK475.out 0
                                  have hfz78_1 := blk_frozen BK475.out 1
                                  have hfz78_2 := blk_frozen BK475.out 2
                                  have hfz78_3 := blk_frozen BK475.out 3
                                  have hfz78_4 := blk_frozen BK475.out 4
                                  try go_wp2_with (first | ((with_reducible refine gate_callee (f := 19) rfl ?_); refine goesL_ (some 64) rfl rfl Try.func19 (by kernel_rfl) rfl #[.agg #[.slice A0_0 l0_0.length c0_0, .slice A0_1 l0_1.length c0_1, .slice A0_2 l0_2.length c0_2, .slice A0_3 l0_3.length c0_3, .int .i64 a0_4]] rfl (by (try simp only [List.map_toArray, List.map_cons, List.map_nil]); first | done | rfl | (simp only [List.length_drop, List.length_take]; rfl)) ?_; (with_reducible refine (sets_Follow.calls kj6 _ _ l0_0 _ _ l0_1 _ _ l0_2 _ _ l0_3 a0_4 t482 _ ?side1 ?side2 ?side3 ?side4 ?side5 ?side6 ?side7 ?side8 A40.out).mono ?_); (case side1 => repeat (first | exact (Kd.C_below HR0_0.out HB.out) | (with_reducible refine Kd.C_alloc ?_ _) | (with_reducible refine Kd.C_drewN ?_ _) | (with_reducible refine Kd.C_drew ?_))); (case side2 => exact HC0_0.out); (case side3 => repeat (first | exact (Kd.C_below HR0_1.out HB.out) | (with_reducible refine Kd.C_alloc ?_ _) | (with_reducible refine Kd.C_drewN ?_ _) | (with_reducible refine Kd.C_drew ?_))); (case side4 => exact HC0_1.out); (case side5 => repeat (first | exact (Kd.C_below HR0_2.out HB.out) | (with_reducible refine Kd.C_alloc ?_ _) | (with_reducible refine Kd.C_drewN ?_ _) | (with_reducible refine Kd.C_drew ?_))); (case side6 => exact HC0_2.out); (case side7 => repeat (first | exact (Kd.C_below HR0_3.out HB.out) | (with_reducible refine Kd.C_alloc ?_ _) | (with_reducible refine Kd.C_drewN ?_ _) | (with_reducible refine Kd.C_drew ?_))); (case side8 => exact HC0_3.out); rintro e w79 ⟨v483, rfl, ho0, hb⟩; refine ⟨_, rfl, ?_⟩; have n0_ := Aside0.mk (Kd.R_lower ho0 (below_size (by repeat (first | (with_reducible first | exact HB.out | apply below_alloc | apply pw_below_drewN | apply below_drew1 | refine below_set ?_ GE475.out) | exact HB.out)))); have n1_ := Aside0.mk (blk_below (g := gb475) (o := .cells #[.slice A0_0 l0_0.length c0_0, .slice A0_1 l0_1.length c0_1, .slice A0_2 l0_2.length c0_2, .slice A0_3 l0_3.length c0_3, .int .i64 a0_4] 27 (0, 0)) (by (with_reducible repeat (first | refine blk_drewN ?_ _ | refine blk_drew ?_ | refine blk_alloc ?_ _)); exact BK475.out) hb); have n2_ := Aside0.mk (below_step (by repeat (first | (with_reducible first | exact HB.out | apply below_alloc | apply pw_below_drewN | apply below_drew1 | refine below_set ?_ GE475.out) | exact HB.out)) hb); clear BK475; clear HB; have HO484 := n0_; have BK475 := n1_; have HB := n2_; clear n0_ n1_ n2_; (try clear hb); (try clear hb2); (try clear hk); (try clear hi); (try clear ho0); have hcz80_0 : w79.cell? ⟨gb475, 0, none⟩ = some (.slice A0_0 l0_0.length c0_0) := (blk_cell BK475.out 0).trans rfl; have hcz80_1 : w79.cell? ⟨gb475, 1, none⟩ = some (.slice A0_1 l0_1.length c0_1) := (blk_cell BK475.out 1).trans rfl; have hcz80_2 : w79.cell? ⟨gb475, 2, none⟩ = some (.slice A0_2 l0_2.length c0_2) := (blk_cell BK475.out 2).trans rfl; have hcz80_3 : w79.cell? ⟨gb475, 3, none⟩ = some (.slice A0_3 l0_3.length c0_3) := (blk_cell BK475.out 3).trans rfl; have hcz80_4 : w79.cell? ⟨gb475, 4, none⟩ = some (.int .i64 a0_4) := (blk_cell BK475.out 4).trans rfl; have hfz80_0 := blk_frozen BK475.out 0; have hfz80_1 := blk_frozen BK475.out 1; have hfz80_2 := blk_frozen BK475.out 2; have hfz80_3 := blk_frozen BK475.out 3; have hfz80_4 := blk_frozen BK475.out 4; have p485 : 0 ≤ (a1 : Int) := of_decide_eq_true (by first | (with_reducible assumption) | assumption); have q485 : a1 < (l0_3.length : Int) := of_decide_eq_true (by first | (with_reducible assumption) | assumption); obtain ⟨ad485, A485_2, c485_2, e485, hx485_0, hx485_1, hx485_2, hx485_3, hl485_2, hi485_2⟩ := at_T45 HR0_3.out a1 p485 q485; cases e485; replace hx485_0 := (HB.out.cell (World.block_lt_of_cell? w _ hx485_0)).trans hx485_0; replace hx485_1 := (HB.out.cell (World.block_lt_of_cell? w _ hx485_1)).trans hx485_1; replace hx485_2 := (HB.out.cell (World.block_lt_of_cell? w _ hx485_2)).trans hx485_2; replace hx485_3 := (HB.out.cell (World.block_lt_of_cell? w _ hx485_3)).trans hx485_3; have HR485_2 := Aside0.mk hi485_2; have HC485_2 := Aside0.mk hl485_2; clear hi485_2 hl485_2; replace p485 := eq_true p485; replace q485 := eq_true q485; have p486 : 0 ≤ (a2 : Int) := of_decide_eq_true (by first | (with_reducible assumption) | assumption); have q486 : a2 < (((rd_T45 l0_3 a1).f2).length : Int) := of_decide_eq_true (by first | (with_reducible assumption) | assumption); obtain ⟨ad486, e486, hx486_0⟩ := Kd.at_int HR485_2.out a2 p486 q486; cases e486; replace hx486_0 := (HB.out.cell (World.block_lt_of_cell? w _ hx486_0)).trans hx486_0; replace p486 := eq_true p486; replace q486 := eq_true q486; have p491 : 0 ≤ ((ji57) : Int) := of_decide_eq_true (by first | (with_reducible assumption) | assumption); have q491 : (ji57) < (((rd_T45 l0_3 a1).f2).length : Int) := of_decide_eq_true (by first | (with_reducible assumption) | assumption); obtain ⟨ad491, e491, hx491_0⟩ := Kd.at_int HR485_2.out (ji57) p491 q491; obtain rfl : ad486 = ad491 := (by injection e491); replace hx491_0 := (HB.out.cell (World.block_lt_of_cell? w _ hx491_0)).trans hx491_0; replace p491 := eq_true p491; replace q491 := eq_true q491))
                                  have n0_ := Aside0.mk (Kd.R_drew HO484.out)
                                  have n1_ := Aside0.mk (blk_drew BK475.out)
                                  have n2_ := Aside0.mk (below_drew1 HB.out)
                                  clear HO484
                                  clear BK475
                                  clear HB
                                  have HO484 := n0_
                                  have BK475 := n1_
                                  have HB := n2_
                                  clear n0_ n1_ n2_
                                  have p498 : 0 ≤ ((ji57) : Int) := of_decide_eq_true (by first | (with_reducible assumption) | assumption)
                                  have q498 : (ji57) < (((rd_T45 l0_3 a1).f2).length : Int) := of_decide_eq_true (by first | (with_reducible assumption) | assumption)
                                  obtain ⟨ad498, e498, hx498_0⟩ := Kd.at_int HR485_2.out (ji57) p498 q498
                                  have hw498_0 := hx498_0
                                  obtain rfl : ad486 = ad498 := (by injection e498)
                                  replace hx498_0 := (HB.out.cell (World.block_lt_of_cell? w _ hx498_0)).trans hx498_0
                                  replace p498 := eq_true p498
                                  replace q498 := eq_true q498
                                  obtain ⟨Ao82, co82, eo82⟩ := Kd.R_slice HO484.out
                                  (first | subst eo82 | (injection eo82 with f1_ f2_ f3_; have f4_ := f1_.symm; have f5_ := f3_.symm; clear f1_ f2_ f3_; subst f4_; subst f5_))
                                  have p500 : 0 ≤ ((ji74) : Int) := of_decide_eq_true (by first | (with_reducible assumption) | assumption)
                                  have q500 : (ji74) < (t482.length : Int) := of_decide_eq_true (by first | (with_reducible assumption) | assumption)
                                  obtain ⟨ad500, e500, hx500_0⟩ := Kd.at_int (Kd.R_reads' HO484.out).2.2 (ji74) p500 q500
                                  cases e500
                                  replace p500 := eq_true p500
                                  replace q500 := eq_true q500
                                  refine start_ (n := 19) (S := fun w' => w'.cell? ⟨gb475, 0, none⟩ = some (.slice A0_0 l0_0.length c0_0) ∧ w'.cell? ⟨gb475, 1, none⟩ = some (.slice A0_1 l0_1.length c0_1) ∧ w'.cell? ⟨gb475, 2, none⟩ = some (.slice A0_2 l0_2.length c0_2) ∧ w'.cell? ⟨gb475, 3, none⟩ = some (.slice (some ad485) l0_3.length c0_3) ∧ w'.cell? ⟨gb475, 4, none⟩ = some (.int .i64 a0_4) ∧ w'.cell? (ad486.add ((ji57)).toNat) = some (.int .i64 (rd ((rd_T45 l0_3 a1).f2) (ji57))) ∧ w'.cell? (ad500.add ((ji74)).toNat) = some (.int .u64 (rd t482 (ji74)))) (ds := []) #[false, false, false, false, false, false, false, false, false, false, false, false, false, false, false, false, false, false, false] (by kernel_rfl) rfl rfl ⟨(blk_cell BK475.out 0).trans rfl, (blk_cell BK475.out 1).trans rfl, (blk_cell BK475.out 2).trans rfl, (blk_cell BK475.out 3).trans rfl, (blk_cell BK475.out 4).trans rfl, ((HB.out.cell (World.block_lt_of_cell? w _ hw498_0)).trans hw498_0), hx500_0⟩ (fun hHeld => ?_); refine with_tabW syntagmlaw13_SetsFollow.tab14 syntagmlaw13_SetsFollow.bits14 (fun HT_ HW_ => ?_)
                                  generalize w79.drew = w81 at HO484 BK475 HB hx498_0 hx500_0 hHeld ⊢
                                  refine pure_ (i := 0) (N := some 117) (v := ?_) (a' := ?_) #[true, false, false, false, false, false, false, false, false, false, false, false, false, false, false, false, false, false, false] rfl rfl (any_of HT_.out (by kernel_rfl)) (fun _ _ _ h => h) (Or.inl ⟨by rfl, ?_⟩) ?_ ?_
                                  rotate_left
                                  · intro w'
                                    go_simp
                                    with_reducible rfl
                                  rotate_left
                                  · simp only [Act.put, List.setIfInBounds_toArray, List.set_cons_zero, List.set_cons_succ, i64_w, i32_w]
                                    rfl
                                  refine pure_ (i := 1) (N := some 118) (v := ?_) (a' := ?_) #[true, true, false, false, false, false, false, false, false, false, false, false, false, false, false, false, false, false, false] rfl rfl (any_of HT_.out (by kernel_rfl)) (fun _ _ _ h => h) (Or.inl ⟨by rfl, ?_⟩) ?_ ?_
                                  rotate_left
                                  · intro w'
                                    go_simp
                                    with_reducible rfl
                                  rotate_left
                                  · simp only [Act.put, List.setIfInBounds_toArray, List.set_cons_zero, List.set_cons_succ, i64_w, i32_w]
                                    rfl
                                  refine pure_ (i := 4) (N := some 121) (v := ?_) (a' := ?_) #[true, true, false, false, true, false, false, false, false, false, false, false, false, false, false, false, false, false, false] rfl rfl (any_of HT_.out (by kernel_rfl)) (fun _ _ _ h => h) (Or.inl ⟨by rfl, ?_⟩) ?_ ?_
                                  rotate_left
                                  · intro w'
                                    go_simp
                                    with_reducible rfl
                                  rotate_left
                                  · simp only [Act.put, List.setIfInBounds_toArray, List.set_cons_zero, List.set_cons_succ, i64_w, i32_w]
                                    rfl
                                  refine pure_ (i := 5) (N := some 122) (v := ?_) (a' := ?_) #[true, true, false, false, true, true, false, false, false, false, false, false, false, false, false, false, false, false, false] rfl rfl (any_of HT_.out (by kernel_rfl)) (fun _ _ _ h => h) (Or.inl ⟨by rfl, ?_⟩) ?_ ?_
                                  rotate_left
                                  · intro w'
                                    go_simp
                                    with_reducible rfl
                                  rotate_left
                                  · simp only [Act.put, List.setIfInBounds_toArray, List.set_cons_zero, List.set_cons_succ, i64_w, i32_w]
                                    rfl
                                  refine pure_ (i := 6) (N := some 123) (v := ?_) (a' := ?_) #[true, true, false, false, true, true, true, false, false, false, false, false, false, false, false, false, false, false, false] rfl rfl (any_of HT_.out (by kernel_rfl)) (fun _ _ _ h => h) (Or.inl ⟨by rfl, ?_⟩) ?_ ?_
                                  rotate_left
                                  · intro w'
                                    go_simp
                                    with_reducible rfl
                                  rotate_left
                                  · simp only [Act.put, List.setIfInBounds_toArray, List.set_cons_zero, List.set_cons_succ, i64_w, i32_w]
                                    rfl
                                  refine pure_ (i := 7) (N := some 124) (v := ?_) (a' := ?_) #[true, true, false, false, true, true, true, true, false, false, false, false, false, false, false, false, false, false, false] rfl rfl (any_of HT_.out (by kernel_rfl)) (fun _ _ _ h => h) (Or.inl ⟨by rfl, ?_⟩) ?_ ?_
                                  rotate_left
                                  · intro w'
                                    go_simp
                                    with_reducible rfl
                                  rotate_left
                                  · simp only [Act.put, List.setIfInBounds_toArray, List.set_cons_zero, List.set_cons_succ, i64_w, i32_w]
                                    rfl
                                  refine pure_ (i := 12) (N := some 129) (v := ?_) (a' := ?_) #[true, true, false, false, true, true, true, true, false, false, false, false, true, false, false, false, false, false, false] rfl rfl (any_of HT_.out (by kernel_rfl)) (fun _ _ _ h => h) (Or.inl ⟨by rfl, ?_⟩) ?_ ?_
                                  rotate_left
                                  · intro w'
                                    go_simp
                                    with_reducible rfl
                                  rotate_left
                                  · simp only [Act.put, List.setIfInBounds_toArray, List.set_cons_zero, List.set_cons_succ, i64_w, i32_w]
                                    rfl
                                  refine pure_ (i := 13) (N := some 130) (v := ?_) (a' := ?_) #[true, true, false, false, true, true, true, true, false, false, false, false, true, true, false, false, false, false, false] rfl rfl (any_of HT_.out (by kernel_rfl)) (fun _ _ _ h => h) (Or.inl ⟨by rfl, ?_⟩) ?_ ?_
                                  rotate_left
                                  · intro w'
                                    go_simp
                                    with_reducible rfl
                                  rotate_left
                                  · simp only [Act.put, List.setIfInBounds_toArray, List.set_cons_zero, List.set_cons_succ, i64_w, i32_w]
                                    rfl
                                  refine pure_ (i := 14) (N := some 131) (v := ?_) (a' := ?_) #[true, true, false, false, true, true, true, true, false, false, false, false, true, true, true, false, false, false, false] rfl rfl (any_of HT_.out (by kernel_rfl)) (fun _ _ _ h => h) (Or.inl ⟨by rfl, ?_⟩) ?_ ?_
                                  rotate_left
                                  · intro w'
                                    go_simp
                                    with_reducible rfl
                                  rotate_left
                                  · simp only [Act.put, List.setIfInBounds_toArray, List.set_cons_zero, List.set_cons_succ, i64_w, i32_w]
                                    rfl
                                  refine take_ (i := 2) (N := some 119) (v := ?_) (a' := ?_) #[true, true, true, false, true, true, true, true, false, false, false, false, true, true, true, false, false, false, false] rfl rfl (take_ofW HT_.out HW_.out (by kernel_rfl)) (fun _ _ _ h => h) (Or.inl ⟨by rfl, ?_⟩) hHeld ?_ ?_
                                  rotate_left
                                  · rintro w' ⟨s0, s1, s2, s3, s4, s5, s6⟩
                                    go_simp
                                    with_reducible rfl
                                  rotate_left
                                  · simp only [Act.put, List.setIfInBounds_toArray, List.set_cons_zero, List.set_cons_succ, i64_w, i32_w]
                                    rfl
                                  refine take_ (i := 8) (N := some 125) (v := ?_) (a' := ?_) #[true, true, true, false, true, true, true, true, true, false, false, false, true, true, true, false, false, false, false] rfl rfl (take_ofW HT_.out HW_.out (by kernel_rfl)) (fun _ _ _ h => h) (Or.inl ⟨by rfl, ?_⟩) hHeld ?_ ?_
                                  rotate_left
                                  · rintro w' ⟨s0, s1, s2, s3, s4, s5, s6⟩
                                    go_simp
                                    with_reducible rfl
                                  rotate_left
                                  · simp only [Act.put, List.setIfInBounds_toArray, List.set_cons_zero, List.set_cons_succ, i64_w, i32_w]
                                    rfl
                                  refine pure_ (i := 9) (N := some 126) (v := ?_) (a' := ?_) #[true, true, true, false, true, true, true, true, true, true, false, false, true, true, true, false, false, false, false] rfl rfl (any_of HT_.out (by kernel_rfl)) (fun _ _ _ h => h) (Or.inl ⟨by rfl, ?_⟩) ?_ ?_
                                  rotate_left
                                  · intro w'
                                    go_simp
                                    with_reducible rfl
                                  rotate_left
                                  · simp only [Act.put, List.setIfInBounds_toArray, List.set_cons_zero, List.set_cons_succ, i64_w, i32_w]
                                    rfl
                                  refine take_ (i := 15) (N := some 132) (v := ?_) (a' := ?_) #[true, true, true, false, true, true, true, true, true, true, false, false, true, true, true, true, false, false, false] rfl rfl (take_ofW HT_.out HW_.out (by kernel_rfl)) (fun _ _ _ h => h) (Or.inl ⟨by rfl, ?_⟩) hHeld ?_ ?_
                                  rotate_left
                                  · rintro w' ⟨s0, s1, s2, s3, s4, s5, s6⟩
                                    go_simp
                                    with_reducible rfl
                                  rotate_left
                                  · simp only [Act.put, List.setIfInBounds_toArray, List.set_cons_zero, List.set_cons_succ, i64_w, i32_w]
                                    rfl
                                  refine one_ (i := 3) (N := some 120) #[true, true, true, true, true, true, true, true, true, true, false, false, true, true, true, true, false, false, false] rfl rfl (one_of HT_.out (by kernel_rfl)) (by decide) (fun K hK => ?_)
                                  refine goes_ Try.func17 (by kernel_rfl) rfl #[.agg #[.slice A0_0 l0_0.length c0_0, .slice A0_1 l0_1.length c0_1, .slice A0_2 l0_2.length c0_2, .slice (some ad485) l0_3.length c0_3, .int .i64 a0_4]] (by rfl) rfl rfl (by (try simp only [List.map_toArray, List.map_cons, List.map_nil]); first | done | rfl | (simp only [List.length_drop, List.length_take]; rfl)) ?_
                                  with_reducible refine (sets_First.calls kj6 _ _ l0_0 _ _ l0_1 _ _ l0_2 _ _ l0_3 a0_4 t495 _ ?side1 ?side2 ?side3 ?side4 ?side5 ?side6 ?side7 ?side8 A70.out).mono ?_
                                  (case side1 => repeat (first | exact (Kd.C_below HR0_0.out HB.out) | (with_reducible refine Kd.C_alloc ?_ _) | (with_reducible refine Kd.C_drewN ?_ _) | (with_reducible refine Kd.C_drew ?_)))
                                  (case side2 => exact HC0_0.out)
                                  (case side3 => repeat (first | exact (Kd.C_below HR0_1.out HB.out) | (with_reducible refine Kd.C_alloc ?_ _) | (with_reducible refine Kd.C_drewN ?_ _) | (with_reducible refine Kd.C_drew ?_)))
                                  (case side4 => exact HC0_1.out)
                                  (case side5 => repeat (first | exact (Kd.C_below HR0_2.out HB.out) | (with_reducible refine Kd.C_alloc ?_ _) | (with_reducible refine Kd.C_drewN ?_ _) | (with_reducible refine Kd.C_drew ?_)))
                                  (case side6 => exact HC0_2.out)
                                  (case side7 => repeat (first | exact (Kd.C_below HR0_3.out HB.out) | (with_reducible refine Kd.C_alloc ?_ _) | (with_reducible refine Kd.C_drewN ?_ _) | (with_reducible refine Kd.C_drew ?_)))
                                  (case side8 => exact HC0_3.out)
                                  rintro e w83 ⟨v496, rfl, ho0, hb⟩
                                  have HS6_ := (hb.cell (World.block_lt_of_cell? _ _ (hHeld.2.2.2.2.2.2))).trans (hHeld.2.2.2.2.2.2)
                                  refine ⟨_, rfl, ?_⟩
                                  have n0_ := Aside0.mk (Kd.R_elder' (by (with_reducible repeat (first | apply Kd.R_alloc | apply Kd.R_drewN | apply Kd.R_drew)); exact HO484.out) (Kd.R_base ho0) hb)
                                  have n1_ := Aside0.mk (Kd.R_lower (Kd.R_new' ho0 (Kd.R_lt (by (with_reducible repeat (first | apply Kd.R_alloc | apply Kd.R_drewN | apply Kd.R_drew)); exact HO484.out))) (below_size (by repeat (first | (with_reducible first | exact HB.out | apply below_alloc | apply pw_below_drewN | apply below_drew1 | refine below_set ?_ GE475.out) | exact HB.out))))
                                  have n2_ := Aside0.mk (blk_below (g := gb475) (o := .cells #[.slice A0_0 l0_0.length c0_0, .slice A0_1 l0_1.length c0_1, .slice A0_2 l0_2.length c0_2, .slice (some ad485) l0_3.length c0_3, .int .i64 a0_4] 27 (0, 0)) (by (with_reducible repeat (first | refine blk_drewN ?_ _ | refine blk_drew ?_ | refine blk_alloc ?_ _)); exact BK475.out) hb)
                                  have n3_ := Aside0.mk (below_step (by repeat (first | (with_reducible first | exact HB.out | apply below_alloc | apply pw_below_drewN | apply below_drew1 | refine below_set ?_ GE475.out) | exact HB.out)) hb)
                                  clear HO484
                                  clear BK475
                                  clear HB
                                  have HO484 := n0_
                                  have HO497 := n1_
                                  have BK475 := n2_
                                  have HB := n3_
                                  clear n0_ n1_ n2_ n3_
                                  (try clear hb)
                                  (try clear hb2)
                                  (try clear hk)
                                  (try clear hi)
                                  (try clear ho0)
                                  obtain ⟨Ao84, co84, eo84⟩ := Kd.R_slice HO497.out
                                  (first | subst eo84 | (injection eo84 with f1_ f2_ f3_; have f4_ := f1_.symm; have f5_ := f3_.symm; clear f1_ f2_ f3_; subst f4_; subst f5_))
                                  have p499 : 0 ≤ ((ji71) : Int) := of_decide_eq_true (by first | (with_reducible assumption) | assumption)
                                  have q499 : (ji71) < (t495.length : Int) := of_decide_eq_true (by first | (with_reducible assumption) | assumption)
                                  obtain ⟨ad499, e499, hx499_0⟩ := Kd.at_int (Kd.R_reads' HO497.out).2.2 (ji71) p499 q499
                                  cases e499
                                  replace p499 := eq_true p499
                                  replace q499 := eq_true q499
                                  refine hK.out _ _ ⟨(blk_cell BK475.out 0).trans rfl, (blk_cell BK475.out 1).trans rfl, (blk_cell BK475.out 2).trans rfl, (blk_cell BK475.out 3).trans rfl, (blk_cell BK475.out 4).trans rfl, ((HB.out.cell (World.block_lt_of_cell? w _ hw498_0)).trans hw498_0), HS6_⟩ (fun hHeld => ?_)
                                  clear hK K
                                  refine norm_ (a' := ?_) ?_ ?_
                                  rotate_left
                                  · show Act.put _ (some 120) _ = _
                                    simp only [Act.put, List.setIfInBounds_toArray, List.set_cons_zero, List.set_cons_succ, i64_w, i32_w]
                                    rfl
                                  refine pure_ (i := 10) (N := some 127) (v := ?_) (a' := ?_) #[true, true, true, true, true, true, true, true, true, true, true, false, true, true, true, true, false, false, false] rfl rfl (any_of HT_.out (by kernel_rfl)) (fun _ _ _ h => h) (Or.inl ⟨by rfl, ?_⟩) ?_ ?_
                                  rotate_left
                                  · intro w'
                                    go_simp
                                    with_reducible rfl
                                  rotate_left
                                  · simp only [Act.put, List.setIfInBounds_toArray, List.set_cons_zero, List.set_cons_succ, i64_w, i32_w]
                                    rfl
                                  refine one_ (i := 11) (N := some 128) #[true, true, true, true, true, true, true, true, true, true, true, true, true, true, true, true, false, false, false] rfl rfl (one_of HT_.out (by kernel_rfl)) (by decide) (fun K hK => ?_)
                                  refine value_ (w1 := ?_) (v := ?_) (by rfl) rfl ?_ ?_
                                  rotate_left 2
                                  · go_simp
                                    constructor
                                    · rfl
                                    · rfl
                                  refine hK.out _ _ ⟨(blk_cell BK475.out 0).trans rfl, (blk_cell BK475.out 1).trans rfl, (blk_cell BK475.out 2).trans rfl, (blk_cell BK475.out 3).trans rfl, (blk_cell BK475.out 4).trans rfl, ((HB.out.cell (World.block_lt_of_cell? w _ hw498_0)).trans hw498_0), hHeld.2.2.2.2.2.2⟩ (fun hHeld => ?_)
                                  clear hK K
                                  refine norm_ (a' := ?_) ?_ ?_
                                  rotate_left
                                  · show Act.put _ (some 128) _ = _
                                    simp only [Act.put, List.setIfInBounds_toArray, List.set_cons_zero, List.set_cons_succ, i64_w, i32_w]
                                    rfl
                                  refine one_ (i := 16) (N := some 133) #[true, true, true, true, true, true, true, true, true, true, true, true, true, true, true, true, true, false, false] rfl rfl (one_of HT_.out (by kernel_rfl)) (by decide) (fun K hK => ?_)
                                  refine goes_ Try.func25 (by kernel_rfl) rfl #[.int .u64 (rd t495 (ji71)), .int .u64 (rd t482 (ji74))] (by rfl) rfl rfl (by (try simp only [List.map_toArray, List.map_cons, List.map_nil]); first | done | (simp only [hji71, hji74]; rfl) | rfl | (simp only [List.length_drop, List.length_take]; rfl)) ?_
                                  with_reducible refine (bits_In.calls (rd t495 (ji71)) (rd t482 (ji74)) t501 _ A77.out).mono ?_
                                  rintro e w' ⟨rfl, ⟨nd, rfl⟩⟩
                                  refine ⟨_, rfl, ?_⟩
                                  refine hK.out _ _ ⟨(blk_cell BK475.out 0).trans rfl, (blk_cell BK475.out 1).trans rfl, (blk_cell BK475.out 2).trans rfl, (blk_cell BK475.out 3).trans rfl, (blk_cell BK475.out 4).trans rfl, ((HB.out.cell (World.block_lt_of_cell? w _ hw498_0)).trans hw498_0), hHeld.2.2.2.2.2.2⟩ (fun hHeld => ?_)
                                  clear hK K
                                  refine norm_ (a' := ?_) ?_ ?_
                                  rotate_left
                                  · show Act.put _ (some 133) _ = _
                                    simp only [Act.put, List.setIfInBounds_toArray, List.set_cons_zero, List.set_cons_succ, i64_w, i32_w]
                                    rfl
                                  refine pure_ (i := 17) (N := some 134) (v := ?_) (a' := ?_) #[true, true, true, true, true, true, true, true, true, true, true, true, true, true, true, true, true, true, false] rfl rfl (any_of HT_.out (by kernel_rfl)) (fun _ _ _ h => h) (Or.inl ⟨by rfl, ?_⟩) ?_ ?_
                                  rotate_left
                                  · intro w'
                                    go_simp
                                    with_reducible rfl
                                  rotate_left
                                  · simp only [Act.put, List.setIfInBounds_toArray, List.set_cons_zero, List.set_cons_succ, i64_w, i32_w]
                                    rfl
                                  refine pure_ (i := 18) (N := some 6) (v := ?_) (a' := ?_) #[true, true, true, true, true, true, true, true, true, true, true, true, true, true, true, true, true, true, true] rfl rfl (any_of HT_.out (by kernel_rfl)) (fun _ _ _ h => h) (Or.inl ⟨by rfl, ?_⟩) ?_ ?_
                                  rotate_left
                                  · intro w'
                                    go_simp
                                    with_reducible rfl
                                  rotate_left
                                  · simp only [Act.put, List.setIfInBounds_toArray, List.set_cons_zero, List.set_cons_succ, i64_w, i32_w]
                                    rfl
                                  refine done_ (done_of HT_.out (by kernel_rfl)) ?_
                                  try go_wp2
                                  go_ret
                                  exact ⟨by first | rfl | (simp [errW_none, errW_some] <;> rfl) | (simp only [← hji57, ← hji71, ← hji74]; first | rfl | (simp [errW_none, errW_some] <;> rfl)) | (simp [*, errW_none, errW_some] <;> rfl), by repeat (first | (with_reducible first | exact HB.out | apply below_alloc | apply pw_below_drewN | apply below_drew1 | refine below_set ?_ GE475.out) | exact HB.out)⟩
                                · rw [if_neg c76] at H
                                  exact absurd H (by simp)
                              · rw [if_neg c75] at H
                                exact absurd H (by simp)
                            · rw [if_neg c73] at H
                              exact absurd H (by simp)
                          · rw [if_neg c72] at H
                            exact absurd H (by simp)
                      · rw [if_neg c59] at H
                        exact absurd H (by simp)
                    · rw [if_neg c58] at H
                      exact absurd H (by simp)
                · rw [if_neg c44] at H
                  exact absurd H (by simp)
              · rw [if_neg c43] at H
                exact absurd H (by simp)
            · rw [if_neg c42] at H
              exact absurd H (by simp)
          · rw [if_neg c41] at H
            exact absurd H (by simp)
  · replace c5 := Bool.eq_false_iff.mpr c5
    subst c5
    have H1 : (some false) = some r := by rw [if_neg (show ¬ (false = true) by decide)] at H; exact H
    clear H
    have H := H1
    clear H1
    exact absurd ((Option.some.inj H).trans HT.out) (by decide)

end Go.Proofs.Ytggfiopajogiiaa.P
