/- Texts of this claim put together: Px14, Open, Types, SFew, SKn, SLaw, SRefU, SRefE, SRefF, PureSetsTell. -/
import Derived.Test.YtggfiopajogiiaaV0
import Derived.Test.YtggfiopajogiiaaV1
import Derived.Test.YtggfiopajogiiaaV2
import Derived.Test.YtggfiopajogiiaaV3
import Derived.Deep.Slices
import Derived.OpenShut
import Derived.ShutString
import Derived.ProofKit
import Derived.Laws.Bits64b
import Derived.IntWalk
section
namespace Go.Proofs.Ytggfiopajogiiaa.P
open Go.RowKit Go.Proofs.YtggfiopajogiiaaW.PrintWords Go.Proofs.YtggfiopajogiiaaW.PrintLast Go.Proofs.YtggfiopajogiiaaW.PrintMore
attribute [local go_sem] max2_int min2_int max_two min_two max_three min_three max_four min_four   -- for this text's walks alone
set_option linter.unusedVariables false
set_option linter.unusedSimpArgs false

/-! ### syntagmlaw13_SetsTell: function 3 -/
mutual
def syntagmlaw13_SetsTell.j0 : Nat → List Int → Int → Bool → Bool → List (S51) → List (S63) → List ByteArray → List (S45) → Int → Option (Bool)
 | 0, _, _, _, _, _, _, _, _, _ => none
 | k + 1, x1, x2, x7, x25, x269000, x269001, x269002, x269003, x269004 => if x25 = true then (some x7) else ((sets_Empty.f k x269000 x269001 x269002 x269003 x269004).bind fun t271 => ((syntagmref13_Empty.f k x269000 x269001 x269002 x269003 x269004).bind fun t274 => ((sets_Lives.f k x269000 x269001 x269002 x269003 x269004).bind fun t277 => ((syntagmref13_Lives.f k x269000 x269001 x269002 x269003 x269004).bind fun t280 => (if (t271.length : Int) = (t274.length : Int) then (syntagmlaw13_SetsTell.j1 k x1 x2 x7 t271 t274 t277 t280 ((t277.length : Int) != (t280.length : Int)) x269000 x269001 x269002 x269003 x269004) else (syntagmlaw13_SetsTell.j1 k x1 x2 x7 t271 t274 t277 t280 true x269000 x269001 x269002 x269003 x269004))))))
def syntagmlaw13_SetsTell.j1 : Nat → List Int → Int → Bool → List Bool → List Bool → List Bool → List Bool → Bool → List (S51) → List (S63) → List ByteArray → List (S45) → Int → Option (Bool)
 | 0, _, _, _, _, _, _, _, _, _, _, _, _, _ => none
 | k + 1, x1, x2, x7, x9, x10, x11, x12, x46, x269000, x269001, x269002, x269003, x269004 => if x46 = true then (some false) else (syntagmlaw13_SetsTell.l0 k x1 x2 x7 x9 x10 x11 x12 0 x269000 x269001 x269002 x269003 x269004)
def syntagmlaw13_SetsTell.l0 : Nat → List Int → Int → Bool → List Bool → List Bool → List Bool → List Bool → Int → List (S51) → List (S63) → List ByteArray → List (S45) → Int → Option (Bool)
 | 0, _, _, _, _, _, _, _, _, _, _, _, _, _ => none
 | k + 1, x1, x2, x7, x9, x10, x11, x12, x13, x269000, x269001, x269002, x269003, x269004 => if x13 < (x9.length : Int) then (if 0 ≤ x13 then (if x13 < (x10.length : Int) then (if ((rdOf false x9 x13) != (rdOf false x10 x13)) = true then (some false) else (if x13 < (x11.length : Int) then (if x13 < (x12.length : Int) then (if ((rdOf false x11 x13) != (rdOf false x12 x13)) = true then (some false) else (syntagmlaw13_SetsTell.l0 k x1 x2 x7 x9 x10 x11 x12 (wrap64 (x13 + 1)) x269000 x269001 x269002 x269003 x269004)) else (none)) else (none))) else (none)) else (none)) else (if x7 = true then ((sets_First.f k x269000 x269001 x269002 x269003 x269004).bind fun t287 => ((syntagmref13_First.f k x269000 x269001 x269002 x269003 x269004).bind fun t290 => ((syntagmref13_Same.f k t287 t290).bind fun t293 => (if t293 = true then ((sets_Follow.f k x269000 x269001 x269002 x269003 x269004).bind fun t294 => ((syntagmref13_Follow.f k x269000 x269001 x269002 x269003 x269004).bind fun t297 => ((syntagmref13_Same.f k t294 t297).bind fun t300 => (if t300 = true then ((sets_Of.f k x269000 x269001 x269002 x269003 x269004 x1 x2).bind fun t301 => ((syntagmref13_Of.f k x269000 x269001 x269002 x269003 x269004 x1 x2).bind fun t302 => (some (t301 == t302)))) else (some false))))) else (some false))))) else (some false))
end
def syntagmlaw13_SetsTell.f (k : Nat) (l0_0 : List (S51)) (l0_1 : List (S63)) (l0_2 : List ByteArray) (l0_3 : List (S45)) (a0_4 : Int) (l1 : List Int) (a2 : Int) : Option (Bool) := (syntagmlaw13_works.f k).bind fun t269 => (if t269 = true then ((syntagmlaw13_Few.f k l0_0 l0_1 l0_2 l0_3 a0_4).bind fun t270 => (if t270 = true then (syntagmlaw13_SetsTell.j0 k l1 a2 t269 (decide ((l1.length : Int) > 30)) l0_0 l0_1 l0_2 l0_3 a0_4) else (syntagmlaw13_SetsTell.j0 k l1 a2 t269 true l0_0 l0_1 l0_2 l0_3 a0_4))) else (some false))
theorem syntagmlaw13_SetsTell.mono_l : ∀ k, (∀ y0 y1 y2 y3 y4 y5 y6 y7 y8, LeO (syntagmlaw13_SetsTell.j0 k y0 y1 y2 y3 y4 y5 y6 y7 y8) (syntagmlaw13_SetsTell.j0 (k + 1) y0 y1 y2 y3 y4 y5 y6 y7 y8)) ∧ (∀ y0 y1 y2 y3 y4 y5 y6 y7 y8 y9 y10 y11 y12, LeO (syntagmlaw13_SetsTell.j1 k y0 y1 y2 y3 y4 y5 y6 y7 y8 y9 y10 y11 y12) (syntagmlaw13_SetsTell.j1 (k + 1) y0 y1 y2 y3 y4 y5 y6 y7 y8 y9 y10 y11 y12)) ∧ (∀ y0 y1 y2 y3 y4 y5 y6 y7 y8 y9 y10 y11 y12, LeO (syntagmlaw13_SetsTell.l0 k y0 y1 y2 y3 y4 y5 y6 y7 y8 y9 y10 y11 y12) (syntagmlaw13_SetsTell.l0 (k + 1) y0 y1 y2 y3 y4 y5 y6 y7 y8 y9 y10 y11 y12))
 | 0 => ⟨fun _ _ _ _ _ _ _ _ _ r h => by simp [syntagmlaw13_SetsTell.j0] at h, fun _ _ _ _ _ _ _ _ _ _ _ _ _ r h => by simp [syntagmlaw13_SetsTell.j1] at h, fun _ _ _ _ _ _ _ _ _ _ _ _ _ r h => by simp [syntagmlaw13_SetsTell.l0] at h⟩
 | k + 1 => by
  obtain ⟨ih0, ih1, ih2⟩ := syntagmlaw13_SetsTell.mono_l k
  refine ⟨?_, ?_, ?_⟩
  ·intro y0 y1 y2 y3 y4 y5 y6 y7 y8
   unfold syntagmlaw13_SetsTell.j0
   repeat' first
   | (with_reducible exact ih0 _ _ _ _ _ _ _ _ _)
   | (with_reducible exact ih1 _ _ _ _ _ _ _ _ _ _ _ _ _)
   | (with_reducible exact ih2 _ _ _ _ _ _ _ _ _ _ _ _ _)
   | (with_reducible exact sets_Empty.mono _ _ _ _ _ _)
   | (with_reducible exact sets_First.mono _ _ _ _ _ _)
   | (with_reducible exact sets_Follow.mono _ _ _ _ _ _)
   | (with_reducible exact sets_Lives.mono _ _ _ _ _ _)
   | (with_reducible exact sets_Of.mono _ _ _ _ _ _ _ _)
   | (with_reducible exact syntagmlaw13_Few.mono _ _ _ _ _ _)
   | (with_reducible exact syntagmlaw13_works.mono _)
   | (with_reducible exact syntagmref13_Empty.mono _ _ _ _ _ _)
   | (with_reducible exact syntagmref13_First.mono _ _ _ _ _ _)
   | (with_reducible exact syntagmref13_Follow.mono _ _ _ _ _ _)
   | (with_reducible exact syntagmref13_Lives.mono _ _ _ _ _ _)
   | (with_reducible exact syntagmref13_Of.mono _ _ _ _ _ _ _ _)
   | (with_reducible exact syntagmref13_Same.mono _ _ _)
   | (with_reducible exact LeO.refl _)
   | (with_reducible exact LeO.none _)
   | (with_reducible refine LeO.ite ?_ ?_)
   | (with_reducible refine LeO.bind ?_ (fun _ => ?_))
   | exact ih0 _ _ _ _ _ _ _ _ _
   | exact ih1 _ _ _ _ _ _ _ _ _ _ _ _ _
   | exact ih2 _ _ _ _ _ _ _ _ _ _ _ _ _
   | exact sets_Empty.mono _ _ _ _ _ _
   | exact sets_First.mono _ _ _ _ _ _
   | exact sets_Follow.mono _ _ _ _ _ _
   | exact sets_Lives.mono _ _ _ _ _ _
   | exact sets_Of.mono _ _ _ _ _ _ _ _
   | exact syntagmlaw13_Few.mono _ _ _ _ _ _
   | exact syntagmlaw13_works.mono _
   | exact syntagmref13_Empty.mono _ _ _ _ _ _
   | exact syntagmref13_First.mono _ _ _ _ _ _
   | exact syntagmref13_Follow.mono _ _ _ _ _ _
   | exact syntagmref13_Lives.mono _ _ _ _ _ _
   | exact syntagmref13_Of.mono _ _ _ _ _ _ _ _
   | exact syntagmref13_Same.mono _ _ _
   | exact LeO.none _
   | refine LeO.ite ?_ ?_
   | refine LeO.bind ?_ (fun _ => ?_)
  ·intro y0 y1 y2 y3 y4 y5 y6 y7 y8 y9 y10 y11 y12
   unfold syntagmlaw13_SetsTell.j1
   repeat' first
   | (with_reducible exact ih0 _ _ _ _ _ _ _ _ _)
   | (with_reducible exact ih1 _ _ _ _ _ _ _ _ _ _ _ _ _)
   | (with_reducible exact ih2 _ _ _ _ _ _ _ _ _ _ _ _ _)
   | (with_reducible exact sets_Empty.mono _ _ _ _ _ _)
   | (with_reducible exact sets_First.mono _ _ _ _ _ _)
   | (with_reducible exact sets_Follow.mono _ _ _ _ _ _)
   | (with_reducible exact sets_Lives.mono _ _ _ _ _ _)
   | (with_reducible exact sets_Of.mono _ _ _ _ _ _ _ _)
   | (with_reducible exact syntagmlaw13_Few.mono _ _ _ _ _ _)
   | (with_reducible exact syntagmlaw13_works.mono _)
   | (with_reducible exact syntagmref13_Empty.mono _ _ _ _ _ _)
   | (with_reducible exact syntagmref13_First.mono _ _ _ _ _ _)
   | (with_reducible exact syntagmref13_Follow.mono _ _ _ _ _ _)
   | (with_reducible exact syntagmref13_Lives.mono _ _ _ _ _ _)
   | (with_reducible exact syntagmref13_Of.mono _ _ _ _ _ _ _ _)
   | (with_reducible exact syntagmref13_Same.mono _ _ _)
   | (with_reducible exact LeO.refl _)
   | (with_reducible exact LeO.none _)
   | (with_reducible refine LeO.ite ?_ ?_)
   | (with_reducible refine LeO.bind ?_ (fun _ => ?_))
   | exact ih0 _ _ _ _ _ _ _ _ _
   | exact ih1 _ _ _ _ _ _ _ _ _ _ _ _ _
   | exact ih2 _ _ _ _ _ _ _ _ _ _ _ _ _
   | exact sets_Empty.mono _ _ _ _ _ _
   | exact sets_First.mono _ _ _ _ _ _
   | exact sets_Follow.mono _ _ _ _ _ _
   | exact sets_Lives.mono _ _ _ _ _ _
   | exact sets_Of.mono _ _ _ _ _ _ _ _
   | exact syntagmlaw13_Few.mono _ _ _ _ _ _
   | exact syntagmlaw13_works.mono _
   | exact syntagmref13_Empty.mono _ _ _ _ _ _
   | exact syntagmref13_First.mono _ _ _ _ _ _
   | exact syntagmref13_Follow.mono _ _ _ _ _ _
   | exact syntagmref13_Lives.mono _ _ _ _ _ _
   | exact syntagmref13_Of.mono _ _ _ _ _ _ _ _
   | exact syntagmref13_Same.mono _ _ _
   | exact LeO.none _
   | refine LeO.ite ?_ ?_
   | refine LeO.bind ?_ (fun _ => ?_)
  ·intro y0 y1 y2 y3 y4 y5 y6 y7 y8 y9 y10 y11 y12
   unfold syntagmlaw13_SetsTell.l0
   repeat' first
   | (with_reducible exact ih0 _ _ _ _ _ _ _ _ _)
   | (with_reducible exact ih1 _ _ _ _ _ _ _ _ _ _ _ _ _)
   | (with_reducible exact ih2 _ _ _ _ _ _ _ _ _ _ _ _ _)
   | (with_reducible exact sets_Empty.mono _ _ _ _ _ _)
   | (with_reducible exact sets_First.mono _ _ _ _ _ _)
   | (with_reducible exact sets_Follow.mono _ _ _ _ _ _)
   | (with_reducible exact sets_Lives.mono _ _ _ _ _ _)
   | (with_reducible exact sets_Of.mono _ _ _ _ _ _ _ _)
   | (with_reducible exact syntagmlaw13_Few.mono _ _ _ _ _ _)
   | (with_reducible exact syntagmlaw13_works.mono _)
   | (with_reducible exact syntagmref13_Empty.mono _ _ _ _ _ _)
   | (with_reducible exact syntagmref13_First.mono _ _ _ _ _ _)
   | (with_reducible exact syntagmref13_Follow.mono _ _ _ _ _ _)
   | (with_reducible exact syntagmref13_Lives.mono _ _ _ _ _ _)
   | (with_reducible exact syntagmref13_Of.mono _ _ _ _ _ _ _ _)
   | (with_reducible exact syntagmref13_Same.mono _ _ _)
   | (with_reducible exact LeO.refl _)
   | (with_reducible exact LeO.none _)
   | (with_reducible refine LeO.ite ?_ ?_)
   | (with_reducible refine LeO.bind ?_ (fun _ => ?_))
   | exact ih0 _ _ _ _ _ _ _ _ _
   | exact ih1 _ _ _ _ _ _ _ _ _ _ _ _ _
   | exact ih2 _ _ _ _ _ _ _ _ _ _ _ _ _
   | exact sets_Empty.mono _ _ _ _ _ _
   | exact sets_First.mono _ _ _ _ _ _
   | exact sets_Follow.mono _ _ _ _ _ _
   | exact sets_Lives.mono _ _ _ _ _ _
   | exact sets_Of.mono _ _ _ _ _ _ _ _
   | exact syntagmlaw13_Few.mono _ _ _ _ _ _
   | exact syntagmlaw13_works.mono _
   | exact syntagmref13_Empty.mono _ _ _ _ _ _
   | exact syntagmref13_First.mono _ _ _ _ _ _
   | exact syntagmref13_Follow.mono _ _ _ _ _ _
   | exact syntagmref13_Lives.mono _ _ _ _ _ _
   | exact syntagmref13_Of.mono _ _ _ _ _ _ _ _
   | exact syntagmref13_Same.mono _ _ _
   | exact LeO.none _
   | refine LeO.ite ?_ ?_
   | refine LeO.bind ?_ (fun _ => ?_)
theorem syntagmlaw13_SetsTell.mono : ∀ a0 a1 a2 a3 a4 a5 a6 k, LeO (syntagmlaw13_SetsTell.f k a0 a1 a2 a3 a4 a5 a6) (syntagmlaw13_SetsTell.f (k + 1) a0 a1 a2 a3 a4 a5 a6) := by
 intro a0 a1 a2 a3 a4 a5 a6 k
 obtain ⟨ih0, ih1, ih2⟩ := syntagmlaw13_SetsTell.mono_l k
 unfold syntagmlaw13_SetsTell.f
 repeat' first
   | (with_reducible exact ih0 _ _ _ _ _ _ _ _ _)
   | (with_reducible exact ih1 _ _ _ _ _ _ _ _ _ _ _ _ _)
   | (with_reducible exact ih2 _ _ _ _ _ _ _ _ _ _ _ _ _)
   | (with_reducible exact sets_Empty.mono _ _ _ _ _ _)
   | (with_reducible exact sets_First.mono _ _ _ _ _ _)
   | (with_reducible exact sets_Follow.mono _ _ _ _ _ _)
   | (with_reducible exact sets_Lives.mono _ _ _ _ _ _)
   | (with_reducible exact sets_Of.mono _ _ _ _ _ _ _ _)
   | (with_reducible exact syntagmlaw13_Few.mono _ _ _ _ _ _)
   | (with_reducible exact syntagmlaw13_works.mono _)
   | (with_reducible exact syntagmref13_Empty.mono _ _ _ _ _ _)
   | (with_reducible exact syntagmref13_First.mono _ _ _ _ _ _)
   | (with_reducible exact syntagmref13_Follow.mono _ _ _ _ _ _)
   | (with_reducible exact syntagmref13_Lives.mono _ _ _ _ _ _)
   | (with_reducible exact syntagmref13_Of.mono _ _ _ _ _ _ _ _)
   | (with_reducible exact syntagmref13_Same.mono _ _ _)
   | (with_reducible exact LeO.refl _)
   | (with_reducible exact LeO.none _)
   | (with_reducible refine LeO.ite ?_ ?_)
   | (with_reducible refine LeO.bind ?_ (fun _ => ?_))
   | exact ih0 _ _ _ _ _ _ _ _ _
   | exact ih1 _ _ _ _ _ _ _ _ _ _ _ _ _
   | exact ih2 _ _ _ _ _ _ _ _ _ _ _ _ _
   | exact sets_Empty.mono _ _ _ _ _ _
   | exact sets_First.mono _ _ _ _ _ _
   | exact sets_Follow.mono _ _ _ _ _ _
   | exact sets_Lives.mono _ _ _ _ _ _
   | exact sets_Of.mono _ _ _ _ _ _ _ _
   | exact syntagmlaw13_Few.mono _ _ _ _ _ _
   | exact syntagmlaw13_works.mono _
   | exact syntagmref13_Empty.mono _ _ _ _ _ _
   | exact syntagmref13_First.mono _ _ _ _ _ _
   | exact syntagmref13_Follow.mono _ _ _ _ _ _
   | exact syntagmref13_Lives.mono _ _ _ _ _ _
   | exact syntagmref13_Of.mono _ _ _ _ _ _ _ _
   | exact syntagmref13_Same.mono _ _ _
   | exact LeO.none _
   | refine LeO.ite ?_ ?_
   | refine LeO.bind ?_ (fun _ => ?_)
def syntagmlaw13_SetsTell.T16 : Bool × List (List Nat × List Nat) := (true, [([], []), ([], []), ([0, 1], [0, 1]), ([2], [2]), ([], []), ([], []), ([4, 5], [4, 5]), ([6], [6]), ([3, 7], [3, 7]), ([8], [8]), ([9], [9]), ([9], [9]), ([10, 11, 9], [9, 10, 11]), ([12, 9], [9, 12]), ([9], [9]), ([9], [9]), ([14, 15, 9], [9, 14, 15]), ([16, 9], [9, 16]), ([13, 17, 9], [9, 13, 17]), ([9, 18], [9, 18])])
def syntagmlaw13_SetsTell.B16 : List Nat := [0, 0, 3, 7, 0, 0, 48, 112, 255, 511, 1023, 1023, 4095, 8191, 1023, 1023, 50175, 115711, 262143, 524287]
theorem syntagmlaw13_SetsTell.tab16 : rtab .any (opsOf Try.f3 16) = syntagmlaw13_SetsTell.T16 := by kernel_rfl
theorem syntagmlaw13_SetsTell.bits16 : waitsOk syntagmlaw13_SetsTell.T16.2 syntagmlaw13_SetsTell.B16 = true := by kernel_rfl
def syntagmlaw13_SetsTell.T18 : Bool × List (List Nat × List Nat) := (true, [([], []), ([0], [0]), ([1], [1]), ([2, 1, 1], [1, 2]), ([1], [1]), ([4, 3, 1], [1, 4]), ([3, 5, 5, 1], [1, 3, 5]), ([1, 6], [1, 6]), ([7, 6], [7]), ([8], [8]), ([9, 8, 8], [8, 9]), ([8], [8]), ([11, 10, 8], [8, 11]), ([10, 12, 12, 8], [8, 10, 12]), ([8, 13], [8, 13]), ([14, 13], [14]), ([15], [15]), ([15], [15]), ([15], [15]), ([16, 17, 18, 15, 15], [15, 16, 17, 18]), ([15], [15]), ([15], [15]), ([15], [15]), ([20, 21, 22, 19, 15], [15, 20, 21, 22]), ([19, 23, 15], [15, 19, 23]), ([15, 24], [15, 24]), ([25, 23, 0, 1, 2, 3, 4, 5, 6, 7, 8, 9, 10, 11, 12, 13, 14, 15, 16, 17, 18, 19, 20, 21, 22, 23, 24, 25], [25])])
def syntagmlaw13_SetsTell.B18 : List Nat := [0, 1, 3, 7, 3, 31, 63, 127, 255, 511, 1023, 511, 4095, 8191, 16383, 32767, 65535, 65535, 65535, 524287, 65535, 65535, 65535, 8388607, 16777215, 33554431, 67108863]
theorem syntagmlaw13_SetsTell.tab18 : rtab .any (opsOf Try.f3 18) = syntagmlaw13_SetsTell.T18 := by kernel_rfl
theorem syntagmlaw13_SetsTell.bits18 : waitsOk syntagmlaw13_SetsTell.T18.2 syntagmlaw13_SetsTell.B18 = true := by kernel_rfl
set_option maxHeartbeats 8000000 in
set_option maxRecDepth 100000 in
theorem syntagmlaw13_SetsTell.calls (k : Nat) (A0_0 : Option Addr) (c0_0 : Nat) (l0_0 : List (S51)) (A0_1 : Option Addr) (c0_1 : Nat) (l0_1 : List (S63)) (A0_2 : Option Addr) (c0_2 : Nat) (l0_2 : List ByteArray) (A0_3 : Option Addr) (c0_3 : Nat) (l0_3 : List (S45)) (a0_4 : Int) (A1 : Option Addr) (c1 : Nat) (l1 : List Int) (a2 : Int) (r : Bool) (w : World) (hT : r = true) (hr0_0 : Kd.C k51 w A0_0 l0_0.length l0_0) (hc0_0 : l0_0.length ≤ c0_0) (hr0_1 : Kd.C k63 w A0_1 l0_1.length l0_1) (hc0_1 : l0_1.length ≤ c0_1) (hr0_2 : Kd.C Kd.string w A0_2 l0_2.length l0_2) (hc0_2 : l0_2.length ≤ c0_2) (hr0_3 : Kd.C k45 w A0_3 l0_3.length l0_3) (hc0_3 : l0_3.length ≤ c0_3) (hr1 : Kd.C (Kd.int .i64) w A1 l1.length l1) (hc1 : l1.length ≤ c1) (h : syntagmlaw13_SetsTell.f k l0_0 l0_1 l0_2 l0_3 a0_4 l1 a2 = some r) :
  Calls Try.prog 3 #[.agg #[.slice A0_0 l0_0.length c0_0, .slice A0_1 l0_1.length c0_1, .slice A0_2 l0_2.length c0_2, .slice A0_3 l0_3.length c0_3, .int .i64 a0_4], .slice A1 l1.length c1, .int .u64 a2] w fun e w' => e = .returned (.bool r) ∧ Below w.heap.size w w' := by
 have hu27 := Try.underlying27
 have HT := Aside0.mk hT
 clear hT
 have HR0_0 := Aside0.mk hr0_0
 have HC0_0 := Aside0.mk hc0_0
 clear hr0_0 hc0_0
 have HR0_1 := Aside0.mk hr0_1
 have HC0_1 := Aside0.mk hc0_1
 clear hr0_1 hc0_1
 have HR0_2 := Aside0.mk hr0_2
 have HC0_2 := Aside0.mk hc0_2
 clear hr0_2 hc0_2
 have HR0_3 := Aside0.mk hr0_3
 have HC0_3 := Aside0.mk hc0_3
 clear hr0_3 hc0_3
 have HR1 := Aside0.mk hr1
 have HC1 := Aside0.mk hc1
 clear hr1 hc1
 have HB := Aside0.mk (Below.refl w.heap.size w)
 have H : ((syntagmlaw13_works.f k).bind fun t269 => (if t269 = true then ((syntagmlaw13_Few.f k l0_0 l0_1 l0_2 l0_3 a0_4).bind fun t270 => (if t270 = true then (syntagmlaw13_SetsTell.j0 k l1 a2 t269 (decide ((l1.length : Int) > 30)) l0_0 l0_1 l0_2 l0_3 a0_4) else (syntagmlaw13_SetsTell.j0 k l1 a2 t269 true l0_0 l0_1 l0_2 l0_3 a0_4))) else (some false))) = some r := h
 clear h
 replace H := Option.bind_eq_some_iff.mp H
 obtain ⟨t269, A40, H⟩ := H
 replace H : (if t269 = true then ((syntagmlaw13_Few.f k l0_0 l0_1 l0_2 l0_3 a0_4).bind fun t270 => (if t270 = true then (syntagmlaw13_SetsTell.j0 k l1 a2 t269 (decide ((l1.length : Int) > 30)) l0_0 l0_1 l0_2 l0_3 a0_4) else (syntagmlaw13_SetsTell.j0 k l1 a2 t269 true l0_0 l0_1 l0_2 l0_3 a0_4))) else (some false)) = some r := H
 have A4 := Aside0.mk A40
 clear A40
 by_cases c5 : t269 = true
 ·subst c5
  have H1 : ((syntagmlaw13_Few.f k l0_0 l0_1 l0_2 l0_3 a0_4).bind fun t270 => (if t270 = true then (syntagmlaw13_SetsTell.j0 k l1 a2 true (decide ((l1.length : Int) > 30)) l0_0 l0_1 l0_2 l0_3 a0_4) else (syntagmlaw13_SetsTell.j0 k l1 a2 true true l0_0 l0_1 l0_2 l0_3 a0_4))) = some r := by rw [if_pos rfl] at H; exact H
  clear H
  have H := H1
  clear H1
  replace H := Option.bind_eq_some_iff.mp H
  obtain ⟨t270, A60, H⟩ := H
  replace H : (if t270 = true then (syntagmlaw13_SetsTell.j0 k l1 a2 true (decide ((l1.length : Int) > 30)) l0_0 l0_1 l0_2 l0_3 a0_4) else (syntagmlaw13_SetsTell.j0 k l1 a2 true true l0_0 l0_1 l0_2 l0_3 a0_4)) = some r := H
  have A6 := Aside0.mk A60
  clear A60
  have HC7 := Aside0.mk H
  clear H
  go_enter Try.func3, Try.ntmps3
  go_upto_region 5 with (first | ((with_reducible refine gate_dst (N := 3) rfl ?_); (try (refine gate_guard (by rfl) ?_; dsimp only)); refine box_event ?hg (N := 3) ?hd (cs := #[.slice A0_0 l0_0.length c0_0, .slice A0_1 l0_1.length c0_1, .slice A0_2 l0_2.length c0_2, .slice A0_3 l0_3.length c0_3, .int .i64 a0_4]) (t := 27) ?hr ?_; (case hd => rfl); (case hg => rfl); (case hr => first | (go_simp; done) | (go_simp; rfl)); intro gb268 hg w8 hbox hb; have n0_ := Aside0.mk (below_step (by repeat (first | (with_reducible first | exact HB.out | apply below_alloc | apply pw_below_drewN | apply below_drew1) | exact HB.out)) hb); have n1_ := Aside0.mk (hbox); have n2_ := Aside0.mk ((by rw [hg]; exact (below_size (by repeat (first | (with_reducible first | exact HB.out | apply below_alloc | apply pw_below_drewN | apply below_drew1) | exact HB.out))) : w.heap.size ≤ gb268)); have n3_ := Aside0.mk ((by rw [hg]; exact (below_size (by repeat (first | (with_reducible first | exact HB.out | apply below_alloc | apply pw_below_drewN | apply below_drew1) | exact HB.out))) : w.heap.size ≤ gb268)); clear HB; have HB := n0_; have BK268 := n1_; have GW268 := n2_; have GE268 := n3_; clear n0_ n1_ n2_ n3_; clear hb hbox hg) | ((with_reducible refine gate_callee (f := 10) rfl ?_); refine goesL_ (some 14) rfl rfl Try.func10 (by kernel_rfl) rfl #[] rfl (by (try simp only [List.map_toArray, List.map_cons, List.map_nil]); first | done | rfl | (simp only [List.length_drop, List.length_take]; rfl)) ?_; (with_reducible refine (syntagmlaw13_works.calls k  true _ ?side1 A4.out).mono ?_); (case side1 => rfl); rintro e w9 ⟨rfl, hb⟩; refine ⟨_, rfl, ?_⟩; have n0_ := Aside0.mk (blk_below (g := gb268) (o := .cells #[.slice A0_0 l0_0.length c0_0, .slice A0_1 l0_1.length c0_1, .slice A0_2 l0_2.length c0_2, .slice A0_3 l0_3.length c0_3, .int .i64 a0_4] 27 (0, 0)) (by (with_reducible repeat (first | refine blk_drewN ?_ _ | refine blk_drew ?_ | refine blk_alloc ?_ _)); exact BK268.out) hb); have n1_ := Aside0.mk (below_step (by repeat (first | (with_reducible first | exact HB.out | apply below_alloc | apply pw_below_drewN | apply below_drew1 | refine below_set ?_ GE268.out) | exact HB.out)) hb); clear BK268; clear HB; have BK268 := n0_; have HB := n1_; clear n0_ n1_; (try clear hb); (try clear hb2); (try clear hk); (try clear hi); have hcz10_0 : w9.cell? ⟨gb268, 0, none⟩ = some (.slice A0_0 l0_0.length c0_0) := (blk_cell BK268.out 0).trans rfl; have hcz10_1 : w9.cell? ⟨gb268, 1, none⟩ = some (.slice A0_1 l0_1.length c0_1) := (blk_cell BK268.out 1).trans rfl; have hcz10_2 : w9.cell? ⟨gb268, 2, none⟩ = some (.slice A0_2 l0_2.length c0_2) := (blk_cell BK268.out 2).trans rfl; have hcz10_3 : w9.cell? ⟨gb268, 3, none⟩ = some (.slice A0_3 l0_3.length c0_3) := (blk_cell BK268.out 3).trans rfl; have hcz10_4 : w9.cell? ⟨gb268, 4, none⟩ = some (.int .i64 a0_4) := (blk_cell BK268.out 4).trans rfl; have hfz10_0 := blk_frozen BK268.out 0; have hfz10_1 := blk_frozen BK268.out 1; have hfz10_2 := blk_frozen BK268.out 2; have hfz10_3 := blk_frozen BK268.out 3; have hfz10_4 := blk_frozen BK268.out 4) | ((with_reducible refine gate_callee (f := 11) rfl ?_); refine goesL_ (some 18) rfl rfl Try.func11 (by kernel_rfl) rfl #[.agg #[.slice A0_0 l0_0.length c0_0, .slice A0_1 l0_1.length c0_1, .slice A0_2 l0_2.length c0_2, .slice A0_3 l0_3.length c0_3, .int .i64 a0_4]] rfl (by (try simp only [List.map_toArray, List.map_cons, List.map_nil]); first | done | rfl | (simp only [List.length_drop, List.length_take]; rfl)) ?_; (with_reducible refine (syntagmlaw13_Few.calls k _ _ l0_0 _ _ l0_1 _ _ l0_2 _ _ l0_3 a0_4 t270 _ ?side1 ?side2 ?side3 ?side4 ?side5 ?side6 ?side7 ?side8 A6.out).mono ?_); (case side1 => repeat (first | exact (Kd.C_below HR0_0.out HB.out) | (with_reducible refine Kd.C_alloc ?_ _) | (with_reducible refine Kd.C_drewN ?_ _) | (with_reducible refine Kd.C_drew ?_))); (case side2 => exact HC0_0.out); (case side3 => repeat (first | exact (Kd.C_below HR0_1.out HB.out) | (with_reducible refine Kd.C_alloc ?_ _) | (with_reducible refine Kd.C_drewN ?_ _) | (with_reducible refine Kd.C_drew ?_))); (case side4 => exact HC0_1.out); (case side5 => repeat (first | exact (Kd.C_below HR0_2.out HB.out) | (with_reducible refine Kd.C_alloc ?_ _) | (with_reducible refine Kd.C_drewN ?_ _) | (with_reducible refine Kd.C_drew ?_))); (case side6 => exact HC0_2.out); (case side7 => repeat (first | exact (Kd.C_below HR0_3.out HB.out) | (with_reducible refine Kd.C_alloc ?_ _) | (with_reducible refine Kd.C_drewN ?_ _) | (with_reducible refine Kd.C_drew ?_))); (case side8 => exact HC0_3.out); rintro e w11 ⟨rfl, hb⟩; refine ⟨_, rfl, ?_⟩; have n0_ := Aside0.mk (blk_below (g := gb268) (o := .cells #[.slice A0_0 l0_0.length c0_0, .slice A0_1 l0_1.length c0_1, .slice A0_2 l0_2.length c0_2, .slice A0_3 l0_3.length c0_3, .int .i64 a0_4] 27 (0, 0)) (by (with_reducible repeat (first | refine blk_drewN ?_ _ | refine blk_drew ?_ | refine blk_alloc ?_ _)); exact BK268.out) hb); have n1_ := Aside0.mk (below_step (by repeat (first | (with_reducible first | exact HB.out | apply below_alloc | apply pw_below_drewN | apply below_drew1 | refine below_set ?_ GE268.out) | exact HB.out)) hb); clear BK268; clear HB; have BK268 := n0_; have HB := n1_; clear n0_ n1_; (try clear hb); (try clear hb2); (try clear hk); (try clear hi)))
  (try simp only [Act.put, List.setIfInBounds_toArray, List.set_cons_zero, List.set_cons_succ])
  go_cut [25] (fun v25 wc => ∃ (kq : Nat) (x25_6 : Bool), v25 = .bool x25_6 ∧ Aside0 (syntagmlaw13_SetsTell.j0 kq l1 a2 true x25_6 l0_0 l0_1 l0_2 l0_3 a0_4 = some r) ∧ Aside0 (kq ≤ k) ∧ Aside0 (wc.heap[gb268]? = some (.cells #[(.slice A0_0 l0_0.length c0_0), (.slice A0_1 l0_1.length c0_1), (.slice A0_2 l0_2.length c0_2), (.slice A0_3 l0_3.length c0_3), .int .i64 a0_4] 27 (0, 0))) ∧ Aside0 (Below w.heap.size w wc))
  case first =>
   have H := HC7.out
   clear HC7
   by_cases c12 : t270 = true
   ·subst c12
    have H1 : (syntagmlaw13_SetsTell.j0 k l1 a2 true (decide ((l1.length : Int) > 30)) l0_0 l0_1 l0_2 l0_3 a0_4) = some r := by rw [if_pos rfl] at H; exact H
    clear H
    have H := H1
    clear H1
    have H' := Aside0.mk H
    clear H
    go_wp2
    go_meet
    case rel => exact ⟨_, (decide ((l1.length : Int) > 30)), (by first | rfl | (simp; done) | (simp [*]; done)), H', ⟨by first | omega | exact Nat.le_refl _⟩, ⟨by (with_reducible repeat (first | refine blk_drewN ?_ _ | refine blk_drew ?_ | refine blk_alloc ?_ _)); exact BK268.out⟩, ⟨by repeat (first | (with_reducible first | exact HB.out | apply below_alloc | apply pw_below_drewN | apply below_drew1 | refine below_set ?_ GE268.out) | exact HB.out)⟩⟩
   ·replace c12 := Bool.eq_false_iff.mpr c12
    subst c12
    have H1 : (syntagmlaw13_SetsTell.j0 k l1 a2 true true l0_0 l0_1 l0_2 l0_3 a0_4) = some r := by rw [if_neg (show ¬ (false = true) by decide)] at H; exact H
    clear H
    have H := H1
    clear H1
    have H' := Aside0.mk H
    clear H
    go_wp2
    go_meet
    case rel => exact ⟨_, (true), (by first | rfl | (simp; done) | (simp [*]; done)), H', ⟨by first | omega | exact Nat.le_refl _⟩, ⟨by (with_reducible repeat (first | refine blk_drewN ?_ _ | refine blk_drew ?_ | refine blk_alloc ?_ _)); exact BK268.out⟩, ⟨by repeat (first | (with_reducible first | exact HB.out | apply below_alloc | apply pw_below_drewN | apply below_drew1 | refine below_set ?_ GE268.out) | exact HB.out)⟩⟩
  case rest =>
   clear HC7
   try clear c1
   try clear p2
   try clear c3
   try clear c5
   try clear c10
   try clear c11
   try clear c12
   try clear hcz10_0
   try clear hcz10_1
   try clear hcz10_2
   try clear hcz10_3
   try clear hcz10_4
   try clear hfz10_0
   try clear hfz10_1
   try clear hfz10_2
   try clear hfz10_3
   try clear hfz10_4
   obtain ⟨kq, x25_6, rfl, HA, HJ6, BK268, HB⟩ := hcut
   cases kq with
   | zero => exact absurd HA.out (by simp [syntagmlaw13_SetsTell.j0])
   | succ kj6 =>
    have H := HA.out
    clear HA
    simp only [syntagmlaw13_SetsTell.j0] at H
    by_cases c13 : x25_6 = true
    ·subst c13
     have H1 : (some true) = some r := by rw [if_pos rfl] at H; exact H
     clear H
     have H := H1
     clear H1
     obtain rfl := Option.some.inj H
     go_wp2
     go_ret
     exact ⟨by first | rfl | (simp [errW_none, errW_some] <;> rfl) | (simp [*, errW_none, errW_some] <;> rfl), by repeat (first | (with_reducible first | exact HB.out | apply below_alloc | apply pw_below_drewN | apply below_drew1 | refine below_set ?_ GE268.out) | exact HB.out)⟩
    ·replace c13 := Bool.eq_false_iff.mpr c13
     subst c13
     have H1 : ((sets_Empty.f kj6 l0_0 l0_1 l0_2 l0_3 a0_4).bind fun t271 => ((syntagmref13_Empty.f kj6 l0_0 l0_1 l0_2 l0_3 a0_4).bind fun t274 => ((sets_Lives.f kj6 l0_0 l0_1 l0_2 l0_3 a0_4).bind fun t277 => ((syntagmref13_Lives.f kj6 l0_0 l0_1 l0_2 l0_3 a0_4).bind fun t280 => (if (t271.length : Int) = (t274.length : Int) then (syntagmlaw13_SetsTell.j1 kj6 l1 a2 true t271 t274 t277 t280 ((t277.length : Int) != (t280.length : Int)) l0_0 l0_1 l0_2 l0_3 a0_4) else (syntagmlaw13_SetsTell.j1 kj6 l1 a2 true t271 t274 t277 t280 true l0_0 l0_1 l0_2 l0_3 a0_4)))))) = some r := by rw [if_neg (show ¬ (false = true) by decide)] at H; exact H
     clear H
     have H := H1
     clear H1
     replace H := Option.bind_eq_some_iff.mp H
     obtain ⟨t271, A140, H⟩ := H
     replace H : ((syntagmref13_Empty.f kj6 l0_0 l0_1 l0_2 l0_3 a0_4).bind fun t274 => ((sets_Lives.f kj6 l0_0 l0_1 l0_2 l0_3 a0_4).bind fun t277 => ((syntagmref13_Lives.f kj6 l0_0 l0_1 l0_2 l0_3 a0_4).bind fun t280 => (if (t271.length : Int) = (t274.length : Int) then (syntagmlaw13_SetsTell.j1 kj6 l1 a2 true t271 t274 t277 t280 ((t277.length : Int) != (t280.length : Int)) l0_0 l0_1 l0_2 l0_3 a0_4) else (syntagmlaw13_SetsTell.j1 kj6 l1 a2 true t271 t274 t277 t280 true l0_0 l0_1 l0_2 l0_3 a0_4))))) = some r := H
     have A14 := Aside0.mk A140
     clear A140
     replace H := Option.bind_eq_some_iff.mp H
     obtain ⟨t274, A150, H⟩ := H
     replace H : ((sets_Lives.f kj6 l0_0 l0_1 l0_2 l0_3 a0_4).bind fun t277 => ((syntagmref13_Lives.f kj6 l0_0 l0_1 l0_2 l0_3 a0_4).bind fun t280 => (if (t271.length : Int) = (t274.length : Int) then (syntagmlaw13_SetsTell.j1 kj6 l1 a2 true t271 t274 t277 t280 ((t277.length : Int) != (t280.length : Int)) l0_0 l0_1 l0_2 l0_3 a0_4) else (syntagmlaw13_SetsTell.j1 kj6 l1 a2 true t271 t274 t277 t280 true l0_0 l0_1 l0_2 l0_3 a0_4)))) = some r := H
     have A15 := Aside0.mk A150
     clear A150
     replace H := Option.bind_eq_some_iff.mp H
     obtain ⟨t277, A160, H⟩ := H
     replace H : ((syntagmref13_Lives.f kj6 l0_0 l0_1 l0_2 l0_3 a0_4).bind fun t280 => (if (t271.length : Int) = (t274.length : Int) then (syntagmlaw13_SetsTell.j1 kj6 l1 a2 true t271 t274 t277 t280 ((t277.length : Int) != (t280.length : Int)) l0_0 l0_1 l0_2 l0_3 a0_4) else (syntagmlaw13_SetsTell.j1 kj6 l1 a2 true t271 t274 t277 t280 true l0_0 l0_1 l0_2 l0_3 a0_4))) = some r := H
     have A16 := Aside0.mk A160
     clear A160
     replace H := Option.bind_eq_some_iff.mp H
     obtain ⟨t280, A170, H⟩ := H
     replace H : (if (t271.length : Int) = (t274.length : Int) then (syntagmlaw13_SetsTell.j1 kj6 l1 a2 true t271 t274 t277 t280 ((t277.length : Int) != (t280.length : Int)) l0_0 l0_1 l0_2 l0_3 a0_4) else (syntagmlaw13_SetsTell.j1 kj6 l1 a2 true t271 t274 t277 t280 true l0_0 l0_1 l0_2 l0_3 a0_4)) = some r := H
     have A17 := Aside0.mk A170
     clear A170
     have HC18 := Aside0.mk H
     clear H
     have hcz19_0 : wc.cell? ⟨gb268, 0, none⟩ = some (.slice A0_0 l0_0.length c0_0) := (blk_cell BK268.out 0).trans rfl
     have hcz19_1 : wc.cell? ⟨gb268, 1, none⟩ = some (.slice A0_1 l0_1.length c0_1) := (blk_cell BK268.out 1).trans rfl
     have hcz19_2 : wc.cell? ⟨gb268, 2, none⟩ = some (.slice A0_2 l0_2.length c0_2) := (blk_cell BK268.out 2).trans rfl
     have hcz19_3 : wc.cell? ⟨gb268, 3, none⟩ = some (.slice A0_3 l0_3.length c0_3) := (blk_cell BK268.out 3).trans rfl
     have hcz19_4 : wc.cell? ⟨gb268, 4, none⟩ = some (.int .i64 a0_4) := (blk_cell BK268.out 4).trans rfl
     have hfz19_0 := blk_frozen BK268.out 0
     have hfz19_1 := blk_frozen BK268.out 1
     have hfz19_2 := blk_frozen BK268.out 2
     have hfz19_3 := blk_frozen BK268.out 3
     have hfz19_4 := blk_frozen BK268.out 4
     go_upto_region 11 with (first | ((with_reducible refine gate_callee (f := 12) rfl ?_); refine goesL_ (some 28) rfl rfl Try.func12 (by kernel_rfl) rfl #[.agg #[.slice A0_0 l0_0.length c0_0, .slice A0_1 l0_1.length c0_1, .slice A0_2 l0_2.length c0_2, .slice A0_3 l0_3.length c0_3, .int .i64 a0_4]] rfl (by (try simp only [List.map_toArray, List.map_cons, List.map_nil]); first | done | rfl | (simp only [List.length_drop, List.length_take]; rfl)) ?_; (with_reducible refine (sets_Empty.calls kj6 _ _ l0_0 _ _ l0_1 _ _ l0_2 _ _ l0_3 a0_4 t271 _ ?side1 ?side2 ?side3 ?side4 ?side5 ?side6 ?side7 ?side8 A14.out).mono ?_); (case side1 => repeat (first | exact (Kd.C_below HR0_0.out HB.out) | (with_reducible refine Kd.C_alloc ?_ _) | (with_reducible refine Kd.C_drewN ?_ _) | (with_reducible refine Kd.C_drew ?_))); (case side2 => exact HC0_0.out); (case side3 => repeat (first | exact (Kd.C_below HR0_1.out HB.out) | (with_reducible refine Kd.C_alloc ?_ _) | (with_reducible refine Kd.C_drewN ?_ _) | (with_reducible refine Kd.C_drew ?_))); (case side4 => exact HC0_1.out); (case side5 => repeat (first | exact (Kd.C_below HR0_2.out HB.out) | (with_reducible refine Kd.C_alloc ?_ _) | (with_reducible refine Kd.C_drewN ?_ _) | (with_reducible refine Kd.C_drew ?_))); (case side6 => exact HC0_2.out); (case side7 => repeat (first | exact (Kd.C_below HR0_3.out HB.out) | (with_reducible refine Kd.C_alloc ?_ _) | (with_reducible refine Kd.C_drewN ?_ _) | (with_reducible refine Kd.C_drew ?_))); (case side8 => exact HC0_3.out); rintro e w20 ⟨v272, rfl, ho0, hb⟩; refine ⟨_, rfl, ?_⟩; have n0_ := Aside0.mk (Kd.R_lower ho0 (below_size (by repeat (first | (with_reducible first | exact HB.out | apply below_alloc | apply pw_below_drewN | apply below_drew1 | refine below_set ?_ GE268.out) | exact HB.out)))); have n1_ := Aside0.mk (blk_below (g := gb268) (o := .cells #[.slice A0_0 l0_0.length c0_0, .slice A0_1 l0_1.length c0_1, .slice A0_2 l0_2.length c0_2, .slice A0_3 l0_3.length c0_3, .int .i64 a0_4] 27 (0, 0)) (by (with_reducible repeat (first | refine blk_drewN ?_ _ | refine blk_drew ?_ | refine blk_alloc ?_ _)); exact BK268.out) hb); have n2_ := Aside0.mk (below_step (by repeat (first | (with_reducible first | exact HB.out | apply below_alloc | apply pw_below_drewN | apply below_drew1 | refine below_set ?_ GE268.out) | exact HB.out)) hb); clear BK268; clear HB; have HO273 := n0_; have BK268 := n1_; have HB := n2_; clear n0_ n1_ n2_; (try clear hb); (try clear hb2); (try clear hk); (try clear hi); (try clear ho0); have hcz21_0 : w20.cell? ⟨gb268, 0, none⟩ = some (.slice A0_0 l0_0.length c0_0) := (blk_cell BK268.out 0).trans rfl; have hcz21_1 : w20.cell? ⟨gb268, 1, none⟩ = some (.slice A0_1 l0_1.length c0_1) := (blk_cell BK268.out 1).trans rfl; have hcz21_2 : w20.cell? ⟨gb268, 2, none⟩ = some (.slice A0_2 l0_2.length c0_2) := (blk_cell BK268.out 2).trans rfl; have hcz21_3 : w20.cell? ⟨gb268, 3, none⟩ = some (.slice A0_3 l0_3.length c0_3) := (blk_cell BK268.out 3).trans rfl; have hcz21_4 : w20.cell? ⟨gb268, 4, none⟩ = some (.int .i64 a0_4) := (blk_cell BK268.out 4).trans rfl; have hfz21_0 := blk_frozen BK268.out 0; have hfz21_1 := blk_frozen BK268.out 1; have hfz21_2 := blk_frozen BK268.out 2; have hfz21_3 := blk_frozen BK268.out 3; have hfz21_4 := blk_frozen BK268.out 4) | ((with_reducible refine gate_callee (f := 13) rfl ?_); refine goesL_ (some 30) rfl rfl Try.func13 (by kernel_rfl) rfl #[.agg #[.slice A0_0 l0_0.length c0_0, .slice A0_1 l0_1.length c0_1, .slice A0_2 l0_2.length c0_2, .slice A0_3 l0_3.length c0_3, .int .i64 a0_4]] rfl (by (try simp only [List.map_toArray, List.map_cons, List.map_nil]); first | done | rfl | (simp only [List.length_drop, List.length_take]; rfl)) ?_; (with_reducible refine (syntagmref13_Empty.calls kj6 _ _ l0_0 _ _ l0_1 _ _ l0_2 _ _ l0_3 a0_4 t274 _ ?side1 ?side2 ?side3 ?side4 ?side5 ?side6 ?side7 ?side8 A15.out).mono ?_); (case side1 => repeat (first | exact (Kd.C_below HR0_0.out HB.out) | (with_reducible refine Kd.C_alloc ?_ _) | (with_reducible refine Kd.C_drewN ?_ _) | (with_reducible refine Kd.C_drew ?_))); (case side2 => exact HC0_0.out); (case side3 => repeat (first | exact (Kd.C_below HR0_1.out HB.out) | (with_reducible refine Kd.C_alloc ?_ _) | (with_reducible refine Kd.C_drewN ?_ _) | (with_reducible refine Kd.C_drew ?_))); (case side4 => exact HC0_1.out); (case side5 => repeat (first | exact (Kd.C_below HR0_2.out HB.out) | (with_reducible refine Kd.C_alloc ?_ _) | (with_reducible refine Kd.C_drewN ?_ _) | (with_reducible refine Kd.C_drew ?_))); (case side6 => exact HC0_2.out); (case side7 => repeat (first | exact (Kd.C_below HR0_3.out HB.out) | (with_reducible refine Kd.C_alloc ?_ _) | (with_reducible refine Kd.C_drewN ?_ _) | (with_reducible refine Kd.C_drew ?_))); (case side8 => exact HC0_3.out); rintro e w22 ⟨v275, rfl, ho0, hb⟩; refine ⟨_, rfl, ?_⟩; have n0_ := Aside0.mk (Kd.R_elder' (by (with_reducible repeat (first | apply Kd.R_alloc | apply Kd.R_drewN | apply Kd.R_drew)); exact HO273.out) (Kd.R_base ho0) hb); have n1_ := Aside0.mk (Kd.R_lower (Kd.R_new' ho0 (Kd.R_lt (by (with_reducible repeat (first | apply Kd.R_alloc | apply Kd.R_drewN | apply Kd.R_drew)); exact HO273.out))) (below_size (by repeat (first | (with_reducible first | exact HB.out | apply below_alloc | apply pw_below_drewN | apply below_drew1 | refine below_set ?_ GE268.out) | exact HB.out)))); have n2_ := Aside0.mk (blk_below (g := gb268) (o := .cells #[.slice A0_0 l0_0.length c0_0, .slice A0_1 l0_1.length c0_1, .slice A0_2 l0_2.length c0_2, .slice A0_3 l0_3.length c0_3, .int .i64 a0_4] 27 (0, 0)) (by (with_reducible repeat (first | refine blk_drewN ?_ _ | refine blk_drew ?_ | refine blk_alloc ?_ _)); exact BK268.out) hb); have n3_ := Aside0.mk (below_step (by repeat (first | (with_reducible first | exact HB.out | apply below_alloc | apply pw_below_drewN | apply below_drew1 | refine below_set ?_ GE268.out) | exact HB.out)) hb); clear HO273; clear BK268; clear HB; have HO273 := n0_; have HO276 := n1_; have BK268 := n2_; have HB := n3_; clear n0_ n1_ n2_ n3_; (try clear hb); (try clear hb2); (try clear hk); (try clear hi); (try clear ho0); have hcz23_0 : w22.cell? ⟨gb268, 0, none⟩ = some (.slice A0_0 l0_0.length c0_0) := (blk_cell BK268.out 0).trans rfl; have hcz23_1 : w22.cell? ⟨gb268, 1, none⟩ = some (.slice A0_1 l0_1.length c0_1) := (blk_cell BK268.out 1).trans rfl; have hcz23_2 : w22.cell? ⟨gb268, 2, none⟩ = some (.slice A0_2 l0_2.length c0_2) := (blk_cell BK268.out 2).trans rfl; have hcz23_3 : w22.cell? ⟨gb268, 3, none⟩ = some (.slice A0_3 l0_3.length c0_3) := (blk_cell BK268.out 3).trans rfl; have hcz23_4 : w22.cell? ⟨gb268, 4, none⟩ = some (.int .i64 a0_4) := (blk_cell BK268.out 4).trans rfl; have hfz23_0 := blk_frozen BK268.out 0; have hfz23_1 := blk_frozen BK268.out 1; have hfz23_2 := blk_frozen BK268.out 2; have hfz23_3 := blk_frozen BK268.out 3; have hfz23_4 := blk_frozen BK268.out 4) | ((with_reducible refine gate_callee (f := 14) rfl ?_); refine goesL_ (some 32) rfl rfl Try.func14 (by kernel_rfl) rfl #[.agg #[.slice A0_0 l0_0.length c0_0, .slice A0_1 l0_1.length c0_1, .slice A0_2 l0_2.length c0_2, .slice A0_3 l0_3.length c0_3, .int .i64 a0_4]] rfl (by (try simp only [List.map_toArray, List.map_cons, List.map_nil]); first | done | rfl | (simp only [List.length_drop, List.length_take]; rfl)) ?_; (with_reducible refine (sets_Lives.calls kj6 _ _ l0_0 _ _ l0_1 _ _ l0_2 _ _ l0_3 a0_4 t277 _ ?side1 ?side2 ?side3 ?side4 ?side5 ?side6 ?side7 ?side8 A16.out).mono ?_); (case side1 => repeat (first | exact (Kd.C_below HR0_0.out HB.out) | (with_reducible refine Kd.C_alloc ?_ _) | (with_reducible refine Kd.C_drewN ?_ _) | (with_reducible refine Kd.C_drew ?_))); (case side2 => exact HC0_0.out); (case side3 => repeat (first | exact (Kd.C_below HR0_1.out HB.out) | (with_reducible refine Kd.C_alloc ?_ _) | (with_reducible refine Kd.C_drewN ?_ _) | (with_reducible refine Kd.C_drew ?_))); (case side4 => exact HC0_1.out); (case side5 => repeat (first | exact (Kd.C_below HR0_2.out HB.out) | (with_reducible refine Kd.C_alloc ?_ _) | (with_reducible refine Kd.C_drewN ?_ _) | (with_reducible refine Kd.C_drew ?_))); (case side6 => exact HC0_2.out); (case side7 => repeat (first | exact (Kd.C_below HR0_3.out HB.out) | (with_reducible refine Kd.C_alloc ?_ _) | (with_reducible refine Kd.C_drewN ?_ _) | (with_reducible refine Kd.C_drew ?_))); (case side8 => exact HC0_3.out); rintro e w24 ⟨v278, rfl, ho0, hb⟩; refine ⟨_, rfl, ?_⟩; have n0_ := Aside0.mk (Kd.R_elder' (by (with_reducible repeat (first | apply Kd.R_alloc | apply Kd.R_drewN | apply Kd.R_drew)); exact HO273.out) (Kd.R_base ho0) hb); have n1_ := Aside0.mk (Kd.R_elder' (by (with_reducible repeat (first | apply Kd.R_alloc | apply Kd.R_drewN | apply Kd.R_drew)); exact HO276.out) (Kd.R_base ho0) hb); have n2_ := Aside0.mk (Kd.R_lower (Kd.R_new' (Kd.R_new' ho0 (Kd.R_lt (by (with_reducible repeat (first | apply Kd.R_alloc | apply Kd.R_drewN | apply Kd.R_drew)); exact HO273.out))) (Kd.R_lt (by (with_reducible repeat (first | apply Kd.R_alloc | apply Kd.R_drewN | apply Kd.R_drew)); exact HO276.out))) (below_size (by repeat (first | (with_reducible first | exact HB.out | apply below_alloc | apply pw_below_drewN | apply below_drew1 | refine below_set ?_ GE268.out) | exact HB.out)))); have n3_ := Aside0.mk (blk_below (g := gb268) (o := .cells #[.slice A0_0 l0_0.length c0_0, .slice A0_1 l0_1.length c0_1, .slice A0_2 l0_2.length c0_2, .slice A0_3 l0_3.length c0_3, .int .i64 a0_4] 27 (0, 0)) (by (with_reducible repeat (first | refine blk_drewN ?_ _ | refine blk_drew ?_ | refine blk_alloc ?_ _)); exact BK268.out) hb); have n4_ := Aside0.mk (below_step (by repeat (first | (with_reducible first | exact HB.out | apply below_alloc | apply pw_below_drewN | apply below_drew1 | refine below_set ?_ GE268.out) | exact HB.out)) hb); clear HO273; clear HO276; clear BK268; clear HB; have HO273 := n0_; have HO276 := n1_; have HO279 := n2_; have BK268 := n3_; have HB := n4_; clear n0_ n1_ n2_ n3_ n4_; (try clear hb); (try clear hb2); (try clear hk); (try clear hi); (try clear ho0); have hcz25_0 : w24.cell? ⟨gb268, 0, none⟩ = some (.slice A0_0 l0_0.length c0_0) := (blk_cell BK268.out 0).trans rfl; have hcz25_1 : w24.cell? ⟨gb268, 1, none⟩ = some (.slice A0_1 l0_1.length c0_1) := (blk_cell BK268.out 1).trans rfl; have hcz25_2 : w24.cell? ⟨gb268, 2, none⟩ = some (.slice A0_2 l0_2.length c0_2) := (blk_cell BK268.out 2).trans rfl; have hcz25_3 : w24.cell? ⟨gb268, 3, none⟩ = some (.slice A0_3 l0_3.length c0_3) := (blk_cell BK268.out 3).trans rfl; have hcz25_4 : w24.cell? ⟨gb268, 4, none⟩ = some (.int .i64 a0_4) := (blk_cell BK268.out 4).trans rfl; have hfz25_0 := blk_frozen BK268.out 0; have hfz25_1 := blk_frozen BK268.out 1; have hfz25_2 := blk_frozen BK268.out 2; have hfz25_3 := blk_frozen BK268.out 3; have hfz25_4 := blk_frozen BK268.out 4) | ((with_reducible refine gate_callee (f := 15) rfl ?_); refine goesL_ (some 34) rfl rfl Try.func15 (by kernel_rfl) rfl #[.agg #[.slice A0_0 l0_0.length c0_0, .slice A0_1 l0_1.length c0_1, .slice A0_2 l0_2.length c0_2, .slice A0_3 l0_3.length c0_3, .int .i64 a0_4]] rfl (by (try simp only [List.map_toArray, List.map_cons, List.map_nil]); first | done | rfl | (simp only [List.length_drop, List.length_take]; rfl)) ?_; (with_reducible refine (syntagmref13_Lives.calls kj6 _ _ l0_0 _ _ l0_1 _ _ l0_2 _ _ l0_3 a0_4 t280 _ ?side1 ?side2 ?side3 ?side4 ?side5 ?side6 ?side7 ?side8 A17.out).mono ?_); (case side1 => repeat (first | exact (Kd.C_below HR0_0.out HB.out) | (with_reducible refine Kd.C_alloc ?_ _) | (with_reducible refine Kd.C_drewN ?_ _) | (with_reducible refine Kd.C_drew ?_))); (case side2 => exact HC0_0.out); (case side3 => repeat (first | exact (Kd.C_below HR0_1.out HB.out) | (with_reducible refine Kd.C_alloc ?_ _) | (with_reducible refine Kd.C_drewN ?_ _) | (with_reducible refine Kd.C_drew ?_))); (case side4 => exact HC0_1.out); (case side5 => repeat (first | exact (Kd.C_below HR0_2.out HB.out) | (with_reducible refine Kd.C_alloc ?_ _) | (with_reducible refine Kd.C_drewN ?_ _) | (with_reducible refine Kd.C_drew ?_))); (case side6 => exact HC0_2.out); (case side7 => repeat (first | exact (Kd.C_below HR0_3.out HB.out) | (with_reducible refine Kd.C_alloc ?_ _) | (with_reducible refine Kd.C_drewN ?_ _) | (with_reducible refine Kd.C_drew ?_))); (case side8 => exact HC0_3.out); rintro e w26 ⟨v281, rfl, ho0, hb⟩; refine ⟨_, rfl, ?_⟩; have n0_ := Aside0.mk (Kd.R_elder' (by (with_reducible repeat (first | apply Kd.R_alloc | apply Kd.R_drewN | apply Kd.R_drew)); exact HO273.out) (Kd.R_base ho0) hb); have n1_ := Aside0.mk (Kd.R_elder' (by (with_reducible repeat (first | apply Kd.R_alloc | apply Kd.R_drewN | apply Kd.R_drew)); exact HO276.out) (Kd.R_base ho0) hb); have n2_ := Aside0.mk (Kd.R_elder' (by (with_reducible repeat (first | apply Kd.R_alloc | apply Kd.R_drewN | apply Kd.R_drew)); exact HO279.out) (Kd.R_base ho0) hb); have n3_ := Aside0.mk (Kd.R_lower (Kd.R_new' (Kd.R_new' (Kd.R_new' ho0 (Kd.R_lt (by (with_reducible repeat (first | apply Kd.R_alloc | apply Kd.R_drewN | apply Kd.R_drew)); exact HO273.out))) (Kd.R_lt (by (with_reducible repeat (first | apply Kd.R_alloc | apply Kd.R_drewN | apply Kd.R_drew)); exact HO276.out))) (Kd.R_lt (by (with_reducible repeat (first | apply Kd.R_alloc | apply Kd.R_drewN | apply Kd.R_drew)); exact HO279.out))) (below_size (by repeat (first | (with_reducible first | exact HB.out | apply below_alloc | apply pw_below_drewN | apply below_drew1 | refine below_set ?_ GE268.out) | exact HB.out)))); have n4_ := Aside0.mk (blk_below (g := gb268) (o := .cells #[.slice A0_0 l0_0.length c0_0, .slice A0_1 l0_1.length c0_1, .slice A0_2 l0_2.length c0_2, .slice A0_3 l0_3.length c0_3, .int .i64 a0_4] 27 (0, 0)) (by (with_reducible repeat (first | refine blk_drewN ?_ _ | refine blk_drew ?_ | refine blk_alloc ?_ _)); exact BK268.out) hb); have n5_ := Aside0.mk (below_step (by repeat (first | (with_reducible first | exact HB.out | apply below_alloc | apply pw_below_drewN | apply below_drew1 | refine below_set ?_ GE268.out) | exact HB.out)) hb); clear HO273; clear HO276; clear HO279; clear BK268; clear HB; have HO273 := n0_; have HO276 := n1_; have HO279 := n2_; have HO282 := n3_; have BK268 := n4_; have HB := n5_; clear n0_ n1_ n2_ n3_ n4_ n5_; (try clear hb); (try clear hb2); (try clear hk); (try clear hi); (try clear ho0)))
     (try simp only [Act.put, List.setIfInBounds_toArray, List.set_cons_zero, List.set_cons_succ])
     go_cut [46] (fun v46 wc => ∃ (kq : Nat) (x46_17 : Bool), v46 = .bool x46_17 ∧ Aside0 (syntagmlaw13_SetsTell.j1 kq l1 a2 true t271 t274 t277 t280 x46_17 l0_0 l0_1 l0_2 l0_3 a0_4 = some r) ∧ Aside0 (kq ≤ kj6) ∧ Aside0 (Kd.R Kd.bool 4 wc w.heap.size (fun k_ => some k_ ≠ (v275 : Value).ownBlock ∧ some k_ ≠ (v278 : Value).ownBlock ∧ some k_ ≠ (v281 : Value).ownBlock) v272 t271) ∧ Aside0 (Kd.R Kd.bool 4 wc w.heap.size (fun k_ => some k_ ≠ (v272 : Value).ownBlock ∧ some k_ ≠ (v278 : Value).ownBlock ∧ some k_ ≠ (v281 : Value).ownBlock) v275 t274) ∧ Aside0 (Kd.R Kd.bool 4 wc w.heap.size (fun k_ => some k_ ≠ (v272 : Value).ownBlock ∧ some k_ ≠ (v275 : Value).ownBlock ∧ some k_ ≠ (v281 : Value).ownBlock) v278 t277) ∧ Aside0 (Kd.R Kd.bool 4 wc w.heap.size (fun k_ => some k_ ≠ (v272 : Value).ownBlock ∧ some k_ ≠ (v275 : Value).ownBlock ∧ some k_ ≠ (v278 : Value).ownBlock) v281 t280) ∧ Aside0 (wc.heap[gb268]? = some (.cells #[(.slice A0_0 l0_0.length c0_0), (.slice A0_1 l0_1.length c0_1), (.slice A0_2 l0_2.length c0_2), (.slice A0_3 l0_3.length c0_3), .int .i64 a0_4] 27 (0, 0))) ∧ Aside0 (Below w.heap.size w wc))
     case first =>
      have H := HC18.out
      clear HC18
      by_cases c27 : (t271.length : Int) = (t274.length : Int)
      ·rw [if_pos c27] at H
       have c27b0 : ((t271.length : Int) == (t274.length : Int)) = true := beq_iff_eq.mpr c27
       have c27b1 : ((t271.length : Int) != (t274.length : Int)) = false := bne_eq_false_iff_eq.mpr c27
       have c27b2 : (t271.length == t274.length) = true := by first | simpa using c27 | (simp at c27 ⊢; omega)
       clear c27
       (first | rw [c27b0] | (simp only [i64_w, i32_w]; rw [c27b0]) | skip)
       have H' := Aside0.mk H
       clear H
       obtain ⟨Ao28, co28, eo28⟩ := Kd.R_slice HO273.out
       subst eo28
       obtain ⟨Ao29, co29, eo29⟩ := Kd.R_slice HO276.out
       subst eo29
       obtain ⟨Ao30, co30, eo30⟩ := Kd.R_slice HO279.out
       subst eo30
       obtain ⟨Ao31, co31, eo31⟩ := Kd.R_slice HO282.out
       subst eo31
       go_wp2
       go_meet
       case rel => exact ⟨_, (((t277.length : Int) != (t280.length : Int))), (by first | rfl | (simp; done) | (simp [*]; done)), H', ⟨by have := HJ6.out; first | omega | exact Nat.le_refl _⟩, ⟨by (with_reducible repeat (first | apply Kd.R_alloc | apply Kd.R_drewN | apply Kd.R_drew)); exact Kd.R_mono HO273.out (fun _ hk => ⟨hk.1.1.2, ⟨hk.1.2, hk.2⟩⟩)⟩, ⟨by (with_reducible repeat (first | apply Kd.R_alloc | apply Kd.R_drewN | apply Kd.R_drew)); exact Kd.R_mono HO276.out (fun _ hk => ⟨hk.1.1.2, ⟨hk.1.2, hk.2⟩⟩)⟩, ⟨by (with_reducible repeat (first | apply Kd.R_alloc | apply Kd.R_drewN | apply Kd.R_drew)); exact Kd.R_mono HO279.out (fun _ hk => ⟨hk.1.1.2, ⟨hk.1.2, hk.2⟩⟩)⟩, ⟨by (with_reducible repeat (first | apply Kd.R_alloc | apply Kd.R_drewN | apply Kd.R_drew)); exact Kd.R_mono HO282.out (fun _ hk => ⟨hk.1.1.2, ⟨hk.1.2, hk.2⟩⟩)⟩, ⟨by (with_reducible repeat (first | refine blk_drewN ?_ _ | refine blk_drew ?_ | refine blk_alloc ?_ _)); exact BK268.out⟩, ⟨by repeat (first | (with_reducible first | exact HB.out | apply below_alloc | apply pw_below_drewN | apply below_drew1 | refine below_set ?_ GE268.out) | exact HB.out)⟩⟩
      ·rw [if_neg c27] at H
       have c27b0 : ((t271.length : Int) == (t274.length : Int)) = false := beq_eq_false_iff_ne.mpr c27
       have c27b1 : ((t271.length : Int) != (t274.length : Int)) = true := bne_iff_ne.mpr c27
       have c27b2 : (t271.length == t274.length) = false := by first | simpa using c27 | (simp at c27 ⊢; omega)
       (first | rw [c27b0] | (simp only [i64_w, i32_w]; rw [c27b0]) | skip)
       have H' := Aside0.mk H
       clear H
       obtain ⟨Ao32, co32, eo32⟩ := Kd.R_slice HO273.out
       subst eo32
       obtain ⟨Ao33, co33, eo33⟩ := Kd.R_slice HO276.out
       subst eo33
       go_wp2
       go_meet
       case rel => exact ⟨_, (true), (by first | rfl | (simp; done) | (simp [*]; done)), H', ⟨by have := HJ6.out; first | omega | exact Nat.le_refl _⟩, ⟨by (with_reducible repeat (first | apply Kd.R_alloc | apply Kd.R_drewN | apply Kd.R_drew)); exact Kd.R_mono HO273.out (fun _ hk => ⟨hk.1.1.2, ⟨hk.1.2, hk.2⟩⟩)⟩, ⟨by (with_reducible repeat (first | apply Kd.R_alloc | apply Kd.R_drewN | apply Kd.R_drew)); exact Kd.R_mono HO276.out (fun _ hk => ⟨hk.1.1.2, ⟨hk.1.2, hk.2⟩⟩)⟩, ⟨by (with_reducible repeat (first | apply Kd.R_alloc | apply Kd.R_drewN | apply Kd.R_drew)); exact Kd.R_mono HO279.out (fun _ hk => ⟨hk.1.1.2, ⟨hk.1.2, hk.2⟩⟩)⟩, ⟨by (with_reducible repeat (first | apply Kd.R_alloc | apply Kd.R_drewN | apply Kd.R_drew)); exact Kd.R_mono HO282.out (fun _ hk => ⟨hk.1.1.2, ⟨hk.1.2, hk.2⟩⟩)⟩, ⟨by (with_reducible repeat (first | refine blk_drewN ?_ _ | refine blk_drew ?_ | refine blk_alloc ?_ _)); exact BK268.out⟩, ⟨by repeat (first | (with_reducible first | exact HB.out | apply below_alloc | apply pw_below_drewN | apply below_drew1 | refine below_set ?_ GE268.out) | exact HB.out)⟩⟩
     case rest =>
      clear HC18
      try clear c1
      try clear c2
      try clear p2
      try clear c3
      try clear c5
      try clear c10
      try clear c11
      try clear c12
      try clear c13
      try clear c14
      try clear c15
      try clear c27
      try clear c27b0
      try clear c27b1
      try clear c27b2
      try clear hcz10_0
      try clear hcz10_1
      try clear hcz10_2
      try clear hcz10_3
      try clear hcz10_4
      try clear hcz19_0
      try clear hcz19_1
      try clear hcz19_2
      try clear hcz19_3
      try clear hcz19_4
      try clear hcz21_0
      try clear hcz21_1
      try clear hcz21_2
      try clear hcz21_3
      try clear hcz21_4
      try clear hcz23_0
      try clear hcz23_1
      try clear hcz23_2
      try clear hcz23_3
      try clear hcz23_4
      try clear hcz25_0
      try clear hcz25_1
      try clear hcz25_2
      try clear hcz25_3
      try clear hcz25_4
      try clear hfz10_0
      try clear hfz10_1
      try clear hfz10_2
      try clear hfz10_3
      try clear hfz10_4
      try clear hfz19_0
      try clear hfz19_1
      try clear hfz19_2
      try clear hfz19_3
      try clear hfz19_4
      try clear hfz21_0
      try clear hfz21_1
      try clear hfz21_2
      try clear hfz21_3
      try clear hfz21_4
      try clear hfz23_0
      try clear hfz23_1
      try clear hfz23_2
      try clear hfz23_3
      try clear hfz23_4
      try clear hfz25_0
      try clear hfz25_1
      try clear hfz25_2
      try clear hfz25_3
      try clear hfz25_4
      try clear p2
      obtain ⟨kq, x46_17, rfl, HA, HJ17, HO_9, HO_10, HO_11, HO_12, BK268, HB⟩ := hcut
      cases kq with
      | zero => exact absurd HA.out (by simp [syntagmlaw13_SetsTell.j1])
      | succ kj17 =>
       have H := HA.out
       clear HA
       simp only [syntagmlaw13_SetsTell.j1] at H
       by_cases c34 : x46_17 = true
       ·subst c34
        have H1 : (some false) = some r := by rw [if_pos rfl] at H; exact H
        clear H
        have H := H1
        clear H1
        exact absurd ((Option.some.inj H).trans HT.out) (by decide)
       ·replace c34 := Bool.eq_false_iff.mpr c34
        subst c34
        have H1 : (syntagmlaw13_SetsTell.l0 kj17 l1 a2 true t271 t274 t277 t280 0 l0_0 l0_1 l0_2 l0_3 a0_4) = some r := by rw [if_neg (show ¬ (false = true) by decide)] at H; exact H
        clear H
        have H := H1
        clear H1
        have H' := Aside0.mk H
        clear H
        go_wp2
        go_loopg [13] kj17 (fun kq v13 w' => ∃ (x13_3 : Int), v13 = .int .i64 x13_3 ∧ Aside0 (syntagmlaw13_SetsTell.l0 kq l1 a2 true t271 t274 t277 t280 x13_3 l0_0 l0_1 l0_2 l0_3 a0_4 = some r) ∧ Aside0 (kq ≤ kj17) ∧ Aside0 (Kd.R Kd.bool 4 w' w.heap.size (fun k_ => some k_ ≠ (v275 : Value).ownBlock ∧ some k_ ≠ (v278 : Value).ownBlock ∧ some k_ ≠ (v281 : Value).ownBlock) v272 t271) ∧ Aside0 (Kd.R Kd.bool 4 w' w.heap.size (fun k_ => some k_ ≠ (v272 : Value).ownBlock ∧ some k_ ≠ (v278 : Value).ownBlock ∧ some k_ ≠ (v281 : Value).ownBlock) v275 t274) ∧ Aside0 (Kd.R Kd.bool 4 w' w.heap.size (fun k_ => some k_ ≠ (v272 : Value).ownBlock ∧ some k_ ≠ (v275 : Value).ownBlock ∧ some k_ ≠ (v281 : Value).ownBlock) v278 t277) ∧ Aside0 (Kd.R Kd.bool 4 w' w.heap.size (fun k_ => some k_ ≠ (v272 : Value).ownBlock ∧ some k_ ≠ (v275 : Value).ownBlock ∧ some k_ ≠ (v278 : Value).ownBlock) v281 t280) ∧ Aside0 (w'.heap[gb268]? = some (.cells #[(.slice A0_0 l0_0.length c0_0), (.slice A0_1 l0_1.length c0_1), (.slice A0_2 l0_2.length c0_2), (.slice A0_3 l0_3.length c0_3), .int .i64 a0_4] 27 (0, 0))) ∧ Aside0 (Below w.heap.size w w'))
        case atStart => exact ⟨(0), (by first | rfl | (simp; done) | (simp [*]; done)), H', ⟨Nat.le_refl _⟩, ⟨by (with_reducible repeat (first | apply Kd.R_alloc | apply Kd.R_drewN | apply Kd.R_drew)); exact HO_9.out⟩, ⟨by (with_reducible repeat (first | apply Kd.R_alloc | apply Kd.R_drewN | apply Kd.R_drew)); exact HO_10.out⟩, ⟨by (with_reducible repeat (first | apply Kd.R_alloc | apply Kd.R_drewN | apply Kd.R_drew)); exact HO_11.out⟩, ⟨by (with_reducible repeat (first | apply Kd.R_alloc | apply Kd.R_drewN | apply Kd.R_drew)); exact HO_12.out⟩, ⟨by (with_reducible repeat (first | refine blk_drewN ?_ _ | refine blk_drew ?_ | refine blk_alloc ?_ _)); exact BK268.out⟩, ⟨by repeat (first | (with_reducible first | exact HB.out | apply below_alloc | apply pw_below_drewN | apply below_drew1 | refine below_set ?_ GE268.out) | exact HB.out)⟩⟩
        case round =>
         clear H'
         try clear c1
         try clear c2
         try clear p2
         try clear c3
         try clear c5
         try clear c10
         try clear c11
         try clear c12
         try clear c13
         try clear c14
         try clear c15
         try clear c27
         try clear c27b0
         try clear c27b1
         try clear c27b2
         try clear c34
         try clear hcz10_0
         try clear hcz10_1
         try clear hcz10_2
         try clear hcz10_3
         try clear hcz10_4
         try clear hcz19_0
         try clear hcz19_1
         try clear hcz19_2
         try clear hcz19_3
         try clear hcz19_4
         try clear hcz21_0
         try clear hcz21_1
         try clear hcz21_2
         try clear hcz21_3
         try clear hcz21_4
         try clear hcz23_0
         try clear hcz23_1
         try clear hcz23_2
         try clear hcz23_3
         try clear hcz23_4
         try clear hcz25_0
         try clear hcz25_1
         try clear hcz25_2
         try clear hcz25_3
         try clear hcz25_4
         try clear hfz10_0
         try clear hfz10_1
         try clear hfz10_2
         try clear hfz10_3
         try clear hfz10_4
         try clear hfz19_0
         try clear hfz19_1
         try clear hfz19_2
         try clear hfz19_3
         try clear hfz19_4
         try clear hfz21_0
         try clear hfz21_1
         try clear hfz21_2
         try clear hfz21_3
         try clear hfz21_4
         try clear hfz23_0
         try clear hfz23_1
         try clear hfz23_2
         try clear hfz23_3
         try clear hfz23_4
         try clear hfz25_0
         try clear hfz25_1
         try clear hfz25_2
         try clear hfz25_3
         try clear hfz25_4
         try clear p2
         obtain ⟨x13_3, rfl, HA, HK3, HO_9, HO_10, HO_11, HO_12, BK268, HB⟩ := hrel
         cases gk with
         | zero => exact absurd HA.out (by simp [syntagmlaw13_SetsTell.l0])
         | succ k3 =>
          have H := HA.out
          clear HA
          simp only [syntagmlaw13_SetsTell.l0] at H
          by_cases c35 : x13_3 < (t271.length : Int)
          ·rw [if_pos c35] at H
           have c35b0 : decide (x13_3 < (t271.length : Int)) = true := decide_eq_true c35
           clear c35
           by_cases c36 : 0 ≤ x13_3
           ·rw [if_pos c36] at H
            have c36b0 : decide (0 ≤ x13_3) = true := decide_eq_true c36
            clear c36
            by_cases c37 : x13_3 < (t274.length : Int)
            ·rw [if_pos c37] at H
             have c37b0 : decide (x13_3 < (t274.length : Int)) = true := decide_eq_true c37
             clear c37
             by_cases c38 : ((rdOf false t271 x13_3) != (rdOf false t274 x13_3)) = true
             ·rw [if_pos c38] at H
              have c38b0 : ((rdOf false t271 x13_3) != (rdOf false t274 x13_3)) = true := c38
              (try (have c38b1 : decide ((rdOf false t271 x13_3) = (rdOf false t274 x13_3)) = false := by simpa using c38))
              (try (have c38b2 : ((rdOf false t271 x13_3) == (rdOf false t274 x13_3)) = false := by simpa using c38))
              (try (have c38b3 : ¬ ((rdOf false t271 x13_3) = (rdOf false t274 x13_3)) := by simpa using c38))
              clear c38
              exact absurd ((Option.some.inj H).trans HT.out) (by decide)
             ·rw [if_neg c38] at H
              have c38b0 : ((rdOf false t271 x13_3) != (rdOf false t274 x13_3)) = false := by simpa using c38
              (try (have c38b1 : decide ((rdOf false t271 x13_3) = (rdOf false t274 x13_3)) = true := by simpa using c38))
              (try (have c38b2 : ((rdOf false t271 x13_3) == (rdOf false t274 x13_3)) = true := by simpa using c38))
              clear c38
              by_cases c39 : x13_3 < (t277.length : Int)
              ·rw [if_pos c39] at H
               have c39b0 : decide (x13_3 < (t277.length : Int)) = true := decide_eq_true c39
               clear c39
               by_cases c40 : x13_3 < (t280.length : Int)
               ·rw [if_pos c40] at H
                have c40b0 : decide (x13_3 < (t280.length : Int)) = true := decide_eq_true c40
                clear c40
                by_cases c41 : ((rdOf false t277 x13_3) != (rdOf false t280 x13_3)) = true
                ·rw [if_pos c41] at H
                 have c41b0 : ((rdOf false t277 x13_3) != (rdOf false t280 x13_3)) = true := c41
                 (try (have c41b1 : decide ((rdOf false t277 x13_3) = (rdOf false t280 x13_3)) = false := by simpa using c41))
                 (try (have c41b2 : ((rdOf false t277 x13_3) == (rdOf false t280 x13_3)) = false := by simpa using c41))
                 (try (have c41b3 : ¬ ((rdOf false t277 x13_3) = (rdOf false t280 x13_3)) := by simpa using c41))
                 clear c41
                 exact absurd ((Option.some.inj H).trans HT.out) (by decide)
                ·rw [if_neg c41] at H
                 have c41b0 : ((rdOf false t277 x13_3) != (rdOf false t280 x13_3)) = false := by simpa using c41
                 (try (have c41b1 : decide ((rdOf false t277 x13_3) = (rdOf false t280 x13_3)) = true := by simpa using c41))
                 (try (have c41b2 : ((rdOf false t277 x13_3) == (rdOf false t280 x13_3)) = true := by simpa using c41))
                 clear c41
                 have H' := Aside0.mk H
                 clear H
                 obtain ⟨Ao42, co42, eo42⟩ := Kd.R_slice HO_9.out
                 subst eo42
                 try go_wp2
                 have n0_ := Aside0.mk (Kd.R_drew HO_9.out)
                 have n1_ := Aside0.mk (Kd.R_drew HO_10.out)
                 have n2_ := Aside0.mk (Kd.R_drew HO_11.out)
                 have n3_ := Aside0.mk (Kd.R_drew HO_12.out)
                 have n4_ := Aside0.mk (blk_drew BK268.out)
                 have n5_ := Aside0.mk (below_drew1 HB.out)
                 clear HO_9
                 clear HO_10
                 clear HO_11
                 clear HO_12
                 clear BK268
                 clear HB
                 have HO_9 := n0_
                 have HO_10 := n1_
                 have HO_11 := n2_
                 have HO_12 := n3_
                 have BK268 := n4_
                 have HB := n5_
                 clear n0_ n1_ n2_ n3_ n4_ n5_
                 have p283 : 0 ≤ (x13_3 : Int) := of_decide_eq_true (by first | (with_reducible assumption) | assumption)
                 have q283 : x13_3 < (t271.length : Int) := of_decide_eq_true (by first | (with_reducible assumption) | assumption)
                 obtain ⟨ad283, e283, hx283_0⟩ := Kd.at_bool (Kd.R_reads' HO_9.out).2.2 x13_3 p283 q283
                 cases e283
                 replace p283 := eq_true p283
                 replace q283 := eq_true q283
                 obtain ⟨Ao44, co44, eo44⟩ := Kd.R_slice HO_10.out
                 (first | subst eo44 | (injection eo44 with f1_ f2_ f3_; have f4_ := f1_.symm; have f5_ := f3_.symm; clear f1_ f2_ f3_; subst f4_; subst f5_))
                 have p284 : 0 ≤ (x13_3 : Int) := of_decide_eq_true (by first | (with_reducible assumption) | assumption)
                 have q284 : x13_3 < (t274.length : Int) := of_decide_eq_true (by first | (with_reducible assumption) | assumption)
                 obtain ⟨ad284, e284, hx284_0⟩ := Kd.at_bool (Kd.R_reads' HO_10.out).2.2 x13_3 p284 q284
                 cases e284
                 replace p284 := eq_true p284
                 replace q284 := eq_true q284
                 obtain ⟨Ao45, co45, eo45⟩ := Kd.R_slice HO_11.out
                 (first | subst eo45 | (injection eo45 with f1_ f2_ f3_; have f4_ := f1_.symm; have f5_ := f3_.symm; clear f1_ f2_ f3_; subst f4_; subst f5_))
                 have p285 : 0 ≤ (x13_3 : Int) := of_decide_eq_true (by first | (with_reducible assumption) | assumption)
                 have q285 : x13_3 < (t277.length : Int) := of_decide_eq_true (by first | (with_reducible assumption) | assumption)
                 obtain ⟨ad285, e285, hx285_0⟩ := Kd.at_bool (Kd.R_reads' HO_11.out).2.2 x13_3 p285 q285
                 cases e285
                 replace p285 := eq_true p285
                 replace q285 := eq_true q285
                 obtain ⟨Ao46, co46, eo46⟩ := Kd.R_slice HO_12.out
                 (first | subst eo46 | (injection eo46 with f1_ f2_ f3_; have f4_ := f1_.symm; have f5_ := f3_.symm; clear f1_ f2_ f3_; subst f4_; subst f5_))
                 have p286 : 0 ≤ (x13_3 : Int) := of_decide_eq_true (by first | (with_reducible assumption) | assumption)
                 have q286 : x13_3 < (t280.length : Int) := of_decide_eq_true (by first | (with_reducible assumption) | assumption)
                 obtain ⟨ad286, e286, hx286_0⟩ := Kd.at_bool (Kd.R_reads' HO_12.out).2.2 x13_3 p286 q286
                 cases e286
                 replace p286 := eq_true p286
                 replace q286 := eq_true q286
                 refine start_ (n := 20) (S := fun w' => w'.cell? (ad283.add (x13_3).toNat) = some (.bool (rdOf false t271 x13_3)) ∧ w'.cell? (ad284.add (x13_3).toNat) = some (.bool (rdOf false t274 x13_3)) ∧ w'.cell? (ad285.add (x13_3).toNat) = some (.bool (rdOf false t277 x13_3)) ∧ w'.cell? (ad286.add (x13_3).toNat) = some (.bool (rdOf false t280 x13_3))) (ds := []) #[false, false, false, false, false, false, false, false, false, false, false, false, false, false, false, false, false, false, false, false] (by kernel_rfl) rfl rfl ⟨hx283_0, hx284_0, hx285_0, hx286_0⟩ (fun hHeld => ?_); refine with_tabW syntagmlaw13_SetsTell.tab16 syntagmlaw13_SetsTell.bits16 (fun HT_ HW_ => ?_)
                 generalize wr.drew = w43 at HO_9 HO_10 HO_11 HO_12 BK268 HB hx283_0 hx284_0 hx285_0 hx286_0 hHeld ⊢
                 refine pure_ (i := 0) (N := some 53) (v := ?_) (a' := ?_) #[true, false, false, false, false, false, false, false, false, false, false, false, false, false, false, false, false, false, false, false] rfl rfl (any_of HT_.out (by kernel_rfl)) (fun _ _ _ h => h) (Or.inl ⟨by rfl, ?_⟩) ?_ ?_
                 rotate_left
                 ·intro w'
                  go_simp
                  with_reducible rfl
                 rotate_left
                 ·simp only [Act.put, List.setIfInBounds_toArray, List.set_cons_zero, List.set_cons_succ, i64_w, i32_w]
                  rfl
                 refine pure_ (i := 1) (N := some 54) (v := ?_) (a' := ?_) #[true, true, false, false, false, false, false, false, false, false, false, false, false, false, false, false, false, false, false, false] rfl rfl (any_of HT_.out (by kernel_rfl)) (fun _ _ _ h => h) (Or.inl ⟨by rfl, ?_⟩) ?_ ?_
                 rotate_left
                 ·intro w'
                  go_simp
                  with_reducible rfl
                 rotate_left
                 ·simp only [Act.put, List.setIfInBounds_toArray, List.set_cons_zero, List.set_cons_succ, i64_w, i32_w]
                  rfl
                 refine pure_ (i := 2) (N := some 55) (v := ?_) (a' := ?_) #[true, true, true, false, false, false, false, false, false, false, false, false, false, false, false, false, false, false, false, false] rfl rfl (any_of HT_.out (by kernel_rfl)) (fun _ _ _ h => h) (Or.inl ⟨by rfl, ?_⟩) ?_ ?_
                 rotate_left
                 ·intro w'
                  go_simp
                  with_reducible rfl
                 rotate_left
                 ·simp only [Act.put, List.setIfInBounds_toArray, List.set_cons_zero, List.set_cons_succ, i64_w, i32_w]
                  rfl
                 refine pure_ (i := 4) (N := some 57) (v := ?_) (a' := ?_) #[true, true, true, false, true, false, false, false, false, false, false, false, false, false, false, false, false, false, false, false] rfl rfl (any_of HT_.out (by kernel_rfl)) (fun _ _ _ h => h) (Or.inl ⟨by rfl, ?_⟩) ?_ ?_
                 rotate_left
                 ·intro w'
                  go_simp
                  with_reducible rfl
                 rotate_left
                 ·simp only [Act.put, List.setIfInBounds_toArray, List.set_cons_zero, List.set_cons_succ, i64_w, i32_w]
                  rfl
                 refine pure_ (i := 5) (N := some 58) (v := ?_) (a' := ?_) #[true, true, true, false, true, true, false, false, false, false, false, false, false, false, false, false, false, false, false, false] rfl rfl (any_of HT_.out (by kernel_rfl)) (fun _ _ _ h => h) (Or.inl ⟨by rfl, ?_⟩) ?_ ?_
                 rotate_left
                 ·intro w'
                  go_simp
                  with_reducible rfl
                 rotate_left
                 ·simp only [Act.put, List.setIfInBounds_toArray, List.set_cons_zero, List.set_cons_succ, i64_w, i32_w]
                  rfl
                 refine pure_ (i := 6) (N := some 59) (v := ?_) (a' := ?_) #[true, true, true, false, true, true, true, false, false, false, false, false, false, false, false, false, false, false, false, false] rfl rfl (any_of HT_.out (by kernel_rfl)) (fun _ _ _ h => h) (Or.inl ⟨by rfl, ?_⟩) ?_ ?_
                 rotate_left
                 ·intro w'
                  go_simp
                  with_reducible rfl
                 rotate_left
                 ·simp only [Act.put, List.setIfInBounds_toArray, List.set_cons_zero, List.set_cons_succ, i64_w, i32_w]
                  rfl
                 refine take_ (i := 3) (N := some 56) (v := ?_) (a' := ?_) #[true, true, true, true, true, true, true, false, false, false, false, false, false, false, false, false, false, false, false, false] rfl rfl (take_ofW HT_.out HW_.out (by kernel_rfl)) (fun _ _ _ h => h) (Or.inl ⟨by rfl, ?_⟩) hHeld ?_ ?_
                 rotate_left
                 ·rintro w' ⟨s0, s1, s2, s3⟩
                  go_simp
                  with_reducible rfl
                 rotate_left
                 ·simp only [Act.put, List.setIfInBounds_toArray, List.set_cons_zero, List.set_cons_succ, i64_w, i32_w]
                  rfl
                 refine take_ (i := 7) (N := some 60) (v := ?_) (a' := ?_) #[true, true, true, true, true, true, true, true, false, false, false, false, false, false, false, false, false, false, false, false] rfl rfl (take_ofW HT_.out HW_.out (by kernel_rfl)) (fun _ _ _ h => h) (Or.inl ⟨by rfl, ?_⟩) hHeld ?_ ?_
                 rotate_left
                 ·rintro w' ⟨s0, s1, s2, s3⟩
                  go_simp
                  with_reducible rfl
                 rotate_left
                 ·simp only [Act.put, List.setIfInBounds_toArray, List.set_cons_zero, List.set_cons_succ, i64_w, i32_w]
                  rfl
                 refine pure_ (i := 8) (N := some 61) (v := ?_) (a' := ?_) #[true, true, true, true, true, true, true, true, true, false, false, false, false, false, false, false, false, false, false, false] rfl rfl (any_of HT_.out (by kernel_rfl)) (fun _ _ _ h => h) (Or.inl ⟨by rfl, ?_⟩) ?_ ?_
                 rotate_left
                 ·intro w'
                  go_simp
                  with_reducible rfl
                 rotate_left
                 ·simp only [Act.put, List.setIfInBounds_toArray, List.set_cons_zero, List.set_cons_succ, i64_w, i32_w]
                  rfl
                 refine pure_ (i := 9) (N := some 62) (v := ?_) (a' := ?_) #[true, true, true, true, true, true, true, true, true, true, false, false, false, false, false, false, false, false, false, false] rfl rfl (any_of HT_.out (by kernel_rfl)) (fun _ _ _ h => h) (Or.inl ⟨by rfl, ?_⟩) ?_ ?_
                 rotate_left
                 ·intro w'
                  go_simp
                  with_reducible rfl
                 rotate_left
                 ·simp only [Act.put, List.setIfInBounds_toArray, List.set_cons_zero, List.set_cons_succ, i64_w, i32_w]
                  rfl
                 refine pure_ (i := 10) (N := some 63) (v := ?_) (a' := ?_) #[true, true, true, true, true, true, true, true, true, true, true, false, false, false, false, false, false, false, false, false] rfl rfl (any_of HT_.out (by kernel_rfl)) (fun _ _ _ h => h) (Or.inl ⟨by rfl, ?_⟩) ?_ ?_
                 rotate_left
                 ·intro w'
                  go_simp
                  with_reducible rfl
                 rotate_left
                 ·simp only [Act.put, List.setIfInBounds_toArray, List.set_cons_zero, List.set_cons_succ, i64_w, i32_w]
                  rfl
                 refine pure_ (i := 11) (N := some 64) (v := ?_) (a' := ?_) #[true, true, true, true, true, true, true, true, true, true, true, true, false, false, false, false, false, false, false, false] rfl rfl (any_of HT_.out (by kernel_rfl)) (fun _ _ _ h => h) (Or.inl ⟨by rfl, ?_⟩) ?_ ?_
                 rotate_left
                 ·intro w'
                  go_simp
                  with_reducible rfl
                 rotate_left
                 ·simp only [Act.put, List.setIfInBounds_toArray, List.set_cons_zero, List.set_cons_succ, i64_w, i32_w]
                  rfl
                 refine pure_ (i := 12) (N := some 65) (v := ?_) (a' := ?_) #[true, true, true, true, true, true, true, true, true, true, true, true, true, false, false, false, false, false, false, false] rfl rfl (any_of HT_.out (by kernel_rfl)) (fun _ _ _ h => h) (Or.inl ⟨by rfl, ?_⟩) ?_ ?_
                 rotate_left
                 ·intro w'
                  go_simp
                  with_reducible rfl
                 rotate_left
                 ·simp only [Act.put, List.setIfInBounds_toArray, List.set_cons_zero, List.set_cons_succ, i64_w, i32_w]
                  rfl
                 refine pure_ (i := 14) (N := some 67) (v := ?_) (a' := ?_) #[true, true, true, true, true, true, true, true, true, true, true, true, true, false, true, false, false, false, false, false] rfl rfl (any_of HT_.out (by kernel_rfl)) (fun _ _ _ h => h) (Or.inl ⟨by rfl, ?_⟩) ?_ ?_
                 rotate_left
                 ·intro w'
                  go_simp
                  with_reducible rfl
                 rotate_left
                 ·simp only [Act.put, List.setIfInBounds_toArray, List.set_cons_zero, List.set_cons_succ, i64_w, i32_w]
                  rfl
                 refine pure_ (i := 15) (N := some 68) (v := ?_) (a' := ?_) #[true, true, true, true, true, true, true, true, true, true, true, true, true, false, true, true, false, false, false, false] rfl rfl (any_of HT_.out (by kernel_rfl)) (fun _ _ _ h => h) (Or.inl ⟨by rfl, ?_⟩) ?_ ?_
                 rotate_left
                 ·intro w'
                  go_simp
                  with_reducible rfl
                 rotate_left
                 ·simp only [Act.put, List.setIfInBounds_toArray, List.set_cons_zero, List.set_cons_succ, i64_w, i32_w]
                  rfl
                 refine pure_ (i := 16) (N := some 69) (v := ?_) (a' := ?_) #[true, true, true, true, true, true, true, true, true, true, true, true, true, false, true, true, true, false, false, false] rfl rfl (any_of HT_.out (by kernel_rfl)) (fun _ _ _ h => h) (Or.inl ⟨by rfl, ?_⟩) ?_ ?_
                 rotate_left
                 ·intro w'
                  go_simp
                  with_reducible rfl
                 rotate_left
                 ·simp only [Act.put, List.setIfInBounds_toArray, List.set_cons_zero, List.set_cons_succ, i64_w, i32_w]
                  rfl
                 refine take_ (i := 13) (N := some 66) (v := ?_) (a' := ?_) #[true, true, true, true, true, true, true, true, true, true, true, true, true, true, true, true, true, false, false, false] rfl rfl (take_ofW HT_.out HW_.out (by kernel_rfl)) (fun _ _ _ h => h) (Or.inl ⟨by rfl, ?_⟩) hHeld ?_ ?_
                 rotate_left
                 ·rintro w' ⟨s0, s1, s2, s3⟩
                  go_simp
                  with_reducible rfl
                 rotate_left
                 ·simp only [Act.put, List.setIfInBounds_toArray, List.set_cons_zero, List.set_cons_succ, i64_w, i32_w]
                  rfl
                 refine take_ (i := 17) (N := some 70) (v := ?_) (a' := ?_) #[true, true, true, true, true, true, true, true, true, true, true, true, true, true, true, true, true, true, false, false] rfl rfl (take_ofW HT_.out HW_.out (by kernel_rfl)) (fun _ _ _ h => h) (Or.inl ⟨by rfl, ?_⟩) hHeld ?_ ?_
                 rotate_left
                 ·rintro w' ⟨s0, s1, s2, s3⟩
                  go_simp
                  with_reducible rfl
                 rotate_left
                 ·simp only [Act.put, List.setIfInBounds_toArray, List.set_cons_zero, List.set_cons_succ, i64_w, i32_w]
                  rfl
                 refine pure_ (i := 18) (N := some 71) (v := ?_) (a' := ?_) #[true, true, true, true, true, true, true, true, true, true, true, true, true, true, true, true, true, true, true, false] rfl rfl (any_of HT_.out (by kernel_rfl)) (fun _ _ _ h => h) (Or.inl ⟨by rfl, ?_⟩) ?_ ?_
                 rotate_left
                 ·intro w'
                  go_simp
                  with_reducible rfl
                 rotate_left
                 ·simp only [Act.put, List.setIfInBounds_toArray, List.set_cons_zero, List.set_cons_succ, i64_w, i32_w]
                  rfl
                 refine pure_ (i := 19) (N := some 72) (v := ?_) (a' := ?_) #[true, true, true, true, true, true, true, true, true, true, true, true, true, true, true, true, true, true, true, true] rfl rfl (any_of HT_.out (by kernel_rfl)) (fun _ _ _ h => h) (Or.inl ⟨by rfl, ?_⟩) ?_ ?_
                 rotate_left
                 ·intro w'
                  go_simp
                  with_reducible rfl
                 rotate_left
                 ·simp only [Act.put, List.setIfInBounds_toArray, List.set_cons_zero, List.set_cons_succ, i64_w, i32_w]
                  rfl
                 refine done_ (done_of HT_.out (by kernel_rfl)) ?_
                 try go_wp2
                 go_roundg k3
                 case measure => have := HJ6.out; have := HJ17.out; have := HK3.out; omega
                 case rel => exact ⟨(wrap64 (x13_3 + 1)), (by first | rfl | (simp; done) | (simp [*]; done)), H', ⟨by have := HJ6.out; have := HJ17.out; have := HK3.out; omega⟩, ⟨by (with_reducible repeat (first | apply Kd.R_alloc | apply Kd.R_drewN | apply Kd.R_drew)); exact HO_9.out⟩, ⟨by (with_reducible repeat (first | apply Kd.R_alloc | apply Kd.R_drewN | apply Kd.R_drew)); exact HO_10.out⟩, ⟨by (with_reducible repeat (first | apply Kd.R_alloc | apply Kd.R_drewN | apply Kd.R_drew)); exact HO_11.out⟩, ⟨by (with_reducible repeat (first | apply Kd.R_alloc | apply Kd.R_drewN | apply Kd.R_drew)); exact HO_12.out⟩, ⟨by (with_reducible repeat (first | refine blk_drewN ?_ _ | refine blk_drew ?_ | refine blk_alloc ?_ _)); exact BK268.out⟩, ⟨by repeat (first | (with_reducible first | exact HB.out | apply below_alloc | apply pw_below_drewN | apply below_drew1 | refine below_set ?_ GE268.out) | exact HB.out)⟩⟩
               ·rw [if_neg c40] at H
                exact absurd H (by simp)
              ·rw [if_neg c39] at H
               exact absurd H (by simp)
            ·rw [if_neg c37] at H
             exact absurd H (by simp)
           ·rw [if_neg c36] at H
            exact absurd H (by simp)
          ·rw [if_neg c35] at H
           have c35b0 : decide (x13_3 < (t271.length : Int)) = false := decide_eq_false c35
           clear c35
           replace H : ((sets_First.f k3 l0_0 l0_1 l0_2 l0_3 a0_4).bind fun t287 => ((syntagmref13_First.f k3 l0_0 l0_1 l0_2 l0_3 a0_4).bind fun t290 => ((syntagmref13_Same.f k3 t287 t290).bind fun t293 => (if t293 = true then ((sets_Follow.f k3 l0_0 l0_1 l0_2 l0_3 a0_4).bind fun t294 => ((syntagmref13_Follow.f k3 l0_0 l0_1 l0_2 l0_3 a0_4).bind fun t297 => ((syntagmref13_Same.f k3 t294 t297).bind fun t300 => (if t300 = true then ((sets_Of.f k3 l0_0 l0_1 l0_2 l0_3 a0_4 l1 a2).bind fun t301 => ((syntagmref13_Of.f k3 l0_0 l0_1 l0_2 l0_3 a0_4 l1 a2).bind fun t302 => (some (t301 == t302)))) else (some false))))) else (some false))))) = some r := by first | (rw [if_pos rfl] at H; exact H) | (rw [if_pos trivial] at H; exact H)
           replace H := Option.bind_eq_some_iff.mp H
           obtain ⟨t287, A470, H⟩ := H
           replace H : ((syntagmref13_First.f k3 l0_0 l0_1 l0_2 l0_3 a0_4).bind fun t290 => ((syntagmref13_Same.f k3 t287 t290).bind fun t293 => (if t293 = true then ((sets_Follow.f k3 l0_0 l0_1 l0_2 l0_3 a0_4).bind fun t294 => ((syntagmref13_Follow.f k3 l0_0 l0_1 l0_2 l0_3 a0_4).bind fun t297 => ((syntagmref13_Same.f k3 t294 t297).bind fun t300 => (if t300 = true then ((sets_Of.f k3 l0_0 l0_1 l0_2 l0_3 a0_4 l1 a2).bind fun t301 => ((syntagmref13_Of.f k3 l0_0 l0_1 l0_2 l0_3 a0_4 l1 a2).bind fun t302 => (some (t301 == t302)))) else (some false))))) else (some false)))) = some r := H
           have A47 := Aside0.mk A470
           clear A470
           replace H := Option.bind_eq_some_iff.mp H
           obtain ⟨t290, A480, H⟩ := H
           replace H : ((syntagmref13_Same.f k3 t287 t290).bind fun t293 => (if t293 = true then ((sets_Follow.f k3 l0_0 l0_1 l0_2 l0_3 a0_4).bind fun t294 => ((syntagmref13_Follow.f k3 l0_0 l0_1 l0_2 l0_3 a0_4).bind fun t297 => ((syntagmref13_Same.f k3 t294 t297).bind fun t300 => (if t300 = true then ((sets_Of.f k3 l0_0 l0_1 l0_2 l0_3 a0_4 l1 a2).bind fun t301 => ((syntagmref13_Of.f k3 l0_0 l0_1 l0_2 l0_3 a0_4 l1 a2).bind fun t302 => (some (t301 == t302)))) else (some false))))) else (some false))) = some r := H
           have A48 := Aside0.mk A480
           clear A480
           replace H := Option.bind_eq_some_iff.mp H
           obtain ⟨t293, A490, H⟩ := H
           replace H : (if t293 = true then ((sets_Follow.f k3 l0_0 l0_1 l0_2 l0_3 a0_4).bind fun t294 => ((syntagmref13_Follow.f k3 l0_0 l0_1 l0_2 l0_3 a0_4).bind fun t297 => ((syntagmref13_Same.f k3 t294 t297).bind fun t300 => (if t300 = true then ((sets_Of.f k3 l0_0 l0_1 l0_2 l0_3 a0_4 l1 a2).bind fun t301 => ((syntagmref13_Of.f k3 l0_0 l0_1 l0_2 l0_3 a0_4 l1 a2).bind fun t302 => (some (t301 == t302)))) else (some false))))) else (some false)) = some r := H
           have A49 := Aside0.mk A490
           clear A490
           by_cases c50 : t293 = true
           ·subst c50
            have H1 : ((sets_Follow.f k3 l0_0 l0_1 l0_2 l0_3 a0_4).bind fun t294 => ((syntagmref13_Follow.f k3 l0_0 l0_1 l0_2 l0_3 a0_4).bind fun t297 => ((syntagmref13_Same.f k3 t294 t297).bind fun t300 => (if t300 = true then ((sets_Of.f k3 l0_0 l0_1 l0_2 l0_3 a0_4 l1 a2).bind fun t301 => ((syntagmref13_Of.f k3 l0_0 l0_1 l0_2 l0_3 a0_4 l1 a2).bind fun t302 => (some (t301 == t302)))) else (some false))))) = some r := by rw [if_pos rfl] at H; exact H
            clear H
            have H := H1
            clear H1
            replace H := Option.bind_eq_some_iff.mp H
            obtain ⟨t294, A510, H⟩ := H
            replace H : ((syntagmref13_Follow.f k3 l0_0 l0_1 l0_2 l0_3 a0_4).bind fun t297 => ((syntagmref13_Same.f k3 t294 t297).bind fun t300 => (if t300 = true then ((sets_Of.f k3 l0_0 l0_1 l0_2 l0_3 a0_4 l1 a2).bind fun t301 => ((syntagmref13_Of.f k3 l0_0 l0_1 l0_2 l0_3 a0_4 l1 a2).bind fun t302 => (some (t301 == t302)))) else (some false)))) = some r := H
            have A51 := Aside0.mk A510
            clear A510
            replace H := Option.bind_eq_some_iff.mp H
            obtain ⟨t297, A520, H⟩ := H
            replace H : ((syntagmref13_Same.f k3 t294 t297).bind fun t300 => (if t300 = true then ((sets_Of.f k3 l0_0 l0_1 l0_2 l0_3 a0_4 l1 a2).bind fun t301 => ((syntagmref13_Of.f k3 l0_0 l0_1 l0_2 l0_3 a0_4 l1 a2).bind fun t302 => (some (t301 == t302)))) else (some false))) = some r := H
            have A52 := Aside0.mk A520
            clear A520
            replace H := Option.bind_eq_some_iff.mp H
            obtain ⟨t300, A530, H⟩ := H
            replace H : (if t300 = true then ((sets_Of.f k3 l0_0 l0_1 l0_2 l0_3 a0_4 l1 a2).bind fun t301 => ((syntagmref13_Of.f k3 l0_0 l0_1 l0_2 l0_3 a0_4 l1 a2).bind fun t302 => (some (t301 == t302)))) else (some false)) = some r := H
            have A53 := Aside0.mk A530
            clear A530
            by_cases c54 : t300 = true
            ·subst c54
             have H1 : ((sets_Of.f k3 l0_0 l0_1 l0_2 l0_3 a0_4 l1 a2).bind fun t301 => ((syntagmref13_Of.f k3 l0_0 l0_1 l0_2 l0_3 a0_4 l1 a2).bind fun t302 => (some (t301 == t302)))) = some r := by rw [if_pos rfl] at H; exact H
             clear H
             have H := H1
             clear H1
             replace H := Option.bind_eq_some_iff.mp H
             obtain ⟨t301, A550, H⟩ := H
             replace H : ((syntagmref13_Of.f k3 l0_0 l0_1 l0_2 l0_3 a0_4 l1 a2).bind fun t302 => (some (t301 == t302))) = some r := H
             have A55 := Aside0.mk A550
             clear A550
             replace H := Option.bind_eq_some_iff.mp H
             obtain ⟨t302, A560, H⟩ := H
             replace H : (some (t301 == t302)) = some r := H
             have A56 := Aside0.mk A560
             clear A560
             obtain rfl := Option.some.inj H
             obtain ⟨Ao57, co57, eo57⟩ := Kd.R_slice HO_9.out
             subst eo57
             try go_wp2
             have n0_ := Aside0.mk (Kd.R_drew HO_9.out)
             have n1_ := Aside0.mk (Kd.R_drew HO_10.out)
             have n2_ := Aside0.mk (Kd.R_drew HO_11.out)
             have n3_ := Aside0.mk (Kd.R_drew HO_12.out)
             have n4_ := Aside0.mk (blk_drew BK268.out)
             have n5_ := Aside0.mk (below_drew1 HB.out)
             clear HO_9
             clear HO_10
             clear HO_11
             clear HO_12
             clear BK268
             clear HB
             have HO_9 := n0_
             have HO_10 := n1_
             have HO_11 := n2_
             have HO_12 := n3_
             have BK268 := n4_
             have HB := n5_
             clear n0_ n1_ n2_ n3_ n4_ n5_
             refine start_ (n := 27) (S := fun w' => w'.cell? ⟨gb268, 0, none⟩ = some (.slice A0_0 l0_0.length c0_0) ∧ w'.cell? ⟨gb268, 1, none⟩ = some (.slice A0_1 l0_1.length c0_1) ∧ w'.cell? ⟨gb268, 2, none⟩ = some (.slice A0_2 l0_2.length c0_2) ∧ w'.cell? ⟨gb268, 3, none⟩ = some (.slice A0_3 l0_3.length c0_3) ∧ w'.cell? ⟨gb268, 4, none⟩ = some (.int .i64 a0_4)) (ds := []) #[false, false, false, false, false, false, false, false, false, false, false, false, false, false, false, false, false, false, false, false, false, false, false, false, false, false, false] (by kernel_rfl) rfl rfl ⟨(blk_cell BK268.out 0).trans rfl, (blk_cell BK268.out 1).trans rfl, (blk_cell BK268.out 2).trans rfl, (blk_cell BK268.out 3).trans rfl, (blk_cell BK268.out 4).trans rfl⟩ (fun hHeld => ?_); refine with_tabW syntagmlaw13_SetsTell.tab18 syntagmlaw13_SetsTell.bits18 (fun HT_ HW_ => ?_)
             generalize wr.drew = w58 at HO_9 HO_10 HO_11 HO_12 BK268 HB hHeld ⊢
             refine pure_ (i := 0) (N := some 73) (v := ?_) (a' := ?_) #[true, false, false, false, false, false, false, false, false, false, false, false, false, false, false, false, false, false, false, false, false, false, false, false, false, false, false] rfl rfl (any_of HT_.out (by kernel_rfl)) (fun _ _ _ h => h) (Or.inl ⟨by rfl, ?_⟩) ?_ ?_
             rotate_left
             ·intro w'
              go_simp
              with_reducible rfl
             rotate_left
             ·simp only [Act.put, List.setIfInBounds_toArray, List.set_cons_zero, List.set_cons_succ, i64_w, i32_w]
              rfl
             refine pure_ (i := 1) (N := some 74) (v := ?_) (a' := ?_) #[true, true, false, false, false, false, false, false, false, false, false, false, false, false, false, false, false, false, false, false, false, false, false, false, false, false, false] rfl rfl (any_of HT_.out (by kernel_rfl)) (fun _ _ _ h => h) (Or.inl ⟨by rfl, ?_⟩) ?_ ?_
             rotate_left
             ·intro w'
              go_simp
              with_reducible rfl
             rotate_left
             ·simp only [Act.put, List.setIfInBounds_toArray, List.set_cons_zero, List.set_cons_succ, i64_w, i32_w]
              rfl
             refine take_ (i := 2) (N := some 75) (v := ?_) (a' := ?_) #[true, true, true, false, false, false, false, false, false, false, false, false, false, false, false, false, false, false, false, false, false, false, false, false, false, false, false] rfl rfl (take_ofW HT_.out HW_.out (by kernel_rfl)) (fun _ _ _ h => h) (Or.inl ⟨by rfl, ?_⟩) hHeld ?_ ?_
             rotate_left
             ·rintro w' ⟨s0, s1, s2, s3, s4⟩
              go_simp
              with_reducible rfl
             rotate_left
             ·simp only [Act.put, List.setIfInBounds_toArray, List.set_cons_zero, List.set_cons_succ, i64_w, i32_w]
              rfl
             refine take_ (i := 4) (N := some 77) (v := ?_) (a' := ?_) #[true, true, true, false, true, false, false, false, false, false, false, false, false, false, false, false, false, false, false, false, false, false, false, false, false, false, false] rfl rfl (take_ofW HT_.out HW_.out (by kernel_rfl)) (fun _ _ _ h => h) (Or.inl ⟨by rfl, ?_⟩) hHeld ?_ ?_
             rotate_left
             ·rintro w' ⟨s0, s1, s2, s3, s4⟩
              go_simp
              with_reducible rfl
             rotate_left
             ·simp only [Act.put, List.setIfInBounds_toArray, List.set_cons_zero, List.set_cons_succ, i64_w, i32_w]
              rfl
             refine one_ (i := 3) (N := some 76) #[true, true, true, true, true, false, false, false, false, false, false, false, false, false, false, false, false, false, false, false, false, false, false, false, false, false, false] rfl rfl (one_of HT_.out (by kernel_rfl)) (by decide) (fun K hK => ?_)
             refine goes_ Try.func17 (by kernel_rfl) rfl #[.agg #[.slice A0_0 l0_0.length c0_0, .slice A0_1 l0_1.length c0_1, .slice A0_2 l0_2.length c0_2, .slice A0_3 l0_3.length c0_3, .int .i64 a0_4]] (by rfl) rfl rfl (by (try simp only [List.map_toArray, List.map_cons, List.map_nil]); first | done | rfl | (simp only [List.length_drop, List.length_take]; rfl)) ?_
             with_reducible refine (sets_First.calls k3 _ _ l0_0 _ _ l0_1 _ _ l0_2 _ _ l0_3 a0_4 t287 _ ?side1 ?side2 ?side3 ?side4 ?side5 ?side6 ?side7 ?side8 A47.out).mono ?_
             (case side1 => repeat (first | exact (Kd.C_below HR0_0.out HB.out) | (with_reducible refine Kd.C_alloc ?_ _) | (with_reducible refine Kd.C_drewN ?_ _) | (with_reducible refine Kd.C_drew ?_)))
             (case side2 => exact HC0_0.out)
             (case side3 => repeat (first | exact (Kd.C_below HR0_1.out HB.out) | (with_reducible refine Kd.C_alloc ?_ _) | (with_reducible refine Kd.C_drewN ?_ _) | (with_reducible refine Kd.C_drew ?_)))
             (case side4 => exact HC0_1.out)
             (case side5 => repeat (first | exact (Kd.C_below HR0_2.out HB.out) | (with_reducible refine Kd.C_alloc ?_ _) | (with_reducible refine Kd.C_drewN ?_ _) | (with_reducible refine Kd.C_drew ?_)))
             (case side6 => exact HC0_2.out)
             (case side7 => repeat (first | exact (Kd.C_below HR0_3.out HB.out) | (with_reducible refine Kd.C_alloc ?_ _) | (with_reducible refine Kd.C_drewN ?_ _) | (with_reducible refine Kd.C_drew ?_)))
             (case side8 => exact HC0_3.out)
             rintro e w59 ⟨v288, rfl, ho0, hb⟩
             refine ⟨_, rfl, ?_⟩
             have n0_ := Aside0.mk (Kd.R_below (by (with_reducible repeat (first | apply Kd.R_alloc | apply Kd.R_drewN | apply Kd.R_drew)); exact HO_9.out) hb)
             have n1_ := Aside0.mk (Kd.R_below (by (with_reducible repeat (first | apply Kd.R_alloc | apply Kd.R_drewN | apply Kd.R_drew)); exact HO_10.out) hb)
             have n2_ := Aside0.mk (Kd.R_below (by (with_reducible repeat (first | apply Kd.R_alloc | apply Kd.R_drewN | apply Kd.R_drew)); exact HO_11.out) hb)
             have n3_ := Aside0.mk (Kd.R_below (by (with_reducible repeat (first | apply Kd.R_alloc | apply Kd.R_drewN | apply Kd.R_drew)); exact HO_12.out) hb)
             have n4_ := Aside0.mk (Kd.R_lower ho0 (below_size (by repeat (first | (with_reducible first | exact HB.out | apply below_alloc | apply pw_below_drewN | apply below_drew1 | refine below_set ?_ GE268.out) | exact HB.out))))
             have n5_ := Aside0.mk (blk_below (g := gb268) (o := .cells #[.slice A0_0 l0_0.length c0_0, .slice A0_1 l0_1.length c0_1, .slice A0_2 l0_2.length c0_2, .slice A0_3 l0_3.length c0_3, .int .i64 a0_4] 27 (0, 0)) (by (with_reducible repeat (first | refine blk_drewN ?_ _ | refine blk_drew ?_ | refine blk_alloc ?_ _)); exact BK268.out) hb)
             have n6_ := Aside0.mk (below_step (by repeat (first | (with_reducible first | exact HB.out | apply below_alloc | apply pw_below_drewN | apply below_drew1 | refine below_set ?_ GE268.out) | exact HB.out)) hb)
             clear HO_9
             clear HO_10
             clear HO_11
             clear HO_12
             clear BK268
             clear HB
             have HO_9 := n0_
             have HO_10 := n1_
             have HO_11 := n2_
             have HO_12 := n3_
             have HO289 := n4_
             have BK268 := n5_
             have HB := n6_
             clear n0_ n1_ n2_ n3_ n4_ n5_ n6_
             (try clear hb)
             (try clear hb2)
             (try clear hk)
             (try clear hi)
             (try clear ho0)
             refine hK.out _ _ ⟨(blk_cell BK268.out 0).trans rfl, (blk_cell BK268.out 1).trans rfl, (blk_cell BK268.out 2).trans rfl, (blk_cell BK268.out 3).trans rfl, (blk_cell BK268.out 4).trans rfl⟩ (fun hHeld => ?_)
             clear hK K
             refine norm_ (a' := ?_) ?_ ?_
             rotate_left
             ·show Act.put _ (some 76) _ = _
              simp only [Act.put, List.setIfInBounds_toArray, List.set_cons_zero, List.set_cons_succ, i64_w, i32_w]
              rfl
             refine one_ (i := 5) (N := some 78) #[true, true, true, true, true, true, false, false, false, false, false, false, false, false, false, false, false, false, false, false, false, false, false, false, false, false, false] rfl rfl (one_of HT_.out (by kernel_rfl)) (by decide) (fun K hK => ?_)
             refine goes_ Try.func18 (by kernel_rfl) rfl #[.agg #[.slice A0_0 l0_0.length c0_0, .slice A0_1 l0_1.length c0_1, .slice A0_2 l0_2.length c0_2, .slice A0_3 l0_3.length c0_3, .int .i64 a0_4]] (by rfl) rfl rfl (by (try simp only [List.map_toArray, List.map_cons, List.map_nil]); first | done | rfl | (simp only [List.length_drop, List.length_take]; rfl)) ?_
             with_reducible refine (syntagmref13_First.calls k3 _ _ l0_0 _ _ l0_1 _ _ l0_2 _ _ l0_3 a0_4 t290 _ ?side1 ?side2 ?side3 ?side4 ?side5 ?side6 ?side7 ?side8 A48.out).mono ?_
             (case side1 => repeat (first | exact (Kd.C_below HR0_0.out HB.out) | (with_reducible refine Kd.C_alloc ?_ _) | (with_reducible refine Kd.C_drewN ?_ _) | (with_reducible refine Kd.C_drew ?_)))
             (case side2 => exact HC0_0.out)
             (case side3 => repeat (first | exact (Kd.C_below HR0_1.out HB.out) | (with_reducible refine Kd.C_alloc ?_ _) | (with_reducible refine Kd.C_drewN ?_ _) | (with_reducible refine Kd.C_drew ?_)))
             (case side4 => exact HC0_1.out)
             (case side5 => repeat (first | exact (Kd.C_below HR0_2.out HB.out) | (with_reducible refine Kd.C_alloc ?_ _) | (with_reducible refine Kd.C_drewN ?_ _) | (with_reducible refine Kd.C_drew ?_)))
             (case side6 => exact HC0_2.out)
             (case side7 => repeat (first | exact (Kd.C_below HR0_3.out HB.out) | (with_reducible refine Kd.C_alloc ?_ _) | (with_reducible refine Kd.C_drewN ?_ _) | (with_reducible refine Kd.C_drew ?_)))
             (case side8 => exact HC0_3.out)
             rintro e w60 ⟨v291, rfl, ho0, hb⟩
             refine ⟨_, rfl, ?_⟩
             have n0_ := Aside0.mk (Kd.R_below (by (with_reducible repeat (first | apply Kd.R_alloc | apply Kd.R_drewN | apply Kd.R_drew)); exact HO_9.out) hb)
             have n1_ := Aside0.mk (Kd.R_below (by (with_reducible repeat (first | apply Kd.R_alloc | apply Kd.R_drewN | apply Kd.R_drew)); exact HO_10.out) hb)
             have n2_ := Aside0.mk (Kd.R_below (by (with_reducible repeat (first | apply Kd.R_alloc | apply Kd.R_drewN | apply Kd.R_drew)); exact HO_11.out) hb)
             have n3_ := Aside0.mk (Kd.R_below (by (with_reducible repeat (first | apply Kd.R_alloc | apply Kd.R_drewN | apply Kd.R_drew)); exact HO_12.out) hb)
             have n4_ := Aside0.mk (Kd.R_elder' (by (with_reducible repeat (first | apply Kd.R_alloc | apply Kd.R_drewN | apply Kd.R_drew)); exact HO289.out) (Kd.R_base ho0) hb)
             have n5_ := Aside0.mk (Kd.R_lower (Kd.R_new' ho0 (Kd.R_lt (by (with_reducible repeat (first | apply Kd.R_alloc | apply Kd.R_drewN | apply Kd.R_drew)); exact HO289.out))) (below_size (by repeat (first | (with_reducible first | exact HB.out | apply below_alloc | apply pw_below_drewN | apply below_drew1 | refine below_set ?_ GE268.out) | exact HB.out))))
             have n6_ := Aside0.mk (blk_below (g := gb268) (o := .cells #[.slice A0_0 l0_0.length c0_0, .slice A0_1 l0_1.length c0_1, .slice A0_2 l0_2.length c0_2, .slice A0_3 l0_3.length c0_3, .int .i64 a0_4] 27 (0, 0)) (by (with_reducible repeat (first | refine blk_drewN ?_ _ | refine blk_drew ?_ | refine blk_alloc ?_ _)); exact BK268.out) hb)
             have n7_ := Aside0.mk (below_step (by repeat (first | (with_reducible first | exact HB.out | apply below_alloc | apply pw_below_drewN | apply below_drew1 | refine below_set ?_ GE268.out) | exact HB.out)) hb)
             clear HO_9
             clear HO_10
             clear HO_11
             clear HO_12
             clear HO289
             clear BK268
             clear HB
             have HO_9 := n0_
             have HO_10 := n1_
             have HO_11 := n2_
             have HO_12 := n3_
             have HO289 := n4_
             have HO292 := n5_
             have BK268 := n6_
             have HB := n7_
             clear n0_ n1_ n2_ n3_ n4_ n5_ n6_ n7_
             (try clear hb)
             (try clear hb2)
             (try clear hk)
             (try clear hi)
             (try clear ho0)
             obtain ⟨Ao61, co61, eo61⟩ := Kd.R_slice HO289.out
             (first | subst eo61 | (injection eo61 with f1_ f2_ f3_; have f4_ := f1_.symm; have f5_ := f3_.symm; clear f1_ f2_ f3_; subst f4_; subst f5_))
             obtain ⟨Ao62, co62, eo62⟩ := Kd.R_slice HO292.out
             (first | subst eo62 | (injection eo62 with f1_ f2_ f3_; have f4_ := f1_.symm; have f5_ := f3_.symm; clear f1_ f2_ f3_; subst f4_; subst f5_))
             refine hK.out _ _ ⟨(blk_cell BK268.out 0).trans rfl, (blk_cell BK268.out 1).trans rfl, (blk_cell BK268.out 2).trans rfl, (blk_cell BK268.out 3).trans rfl, (blk_cell BK268.out 4).trans rfl⟩ (fun hHeld => ?_)
             clear hK K
             refine norm_ (a' := ?_) ?_ ?_
             rotate_left
             ·show Act.put _ (some 78) _ = _
              simp only [Act.put, List.setIfInBounds_toArray, List.set_cons_zero, List.set_cons_succ, i64_w, i32_w]
              rfl
             refine one_ (i := 6) (N := some 79) #[true, true, true, true, true, true, true, false, false, false, false, false, false, false, false, false, false, false, false, false, false, false, false, false, false, false, false] rfl rfl (one_of HT_.out (by kernel_rfl)) (by decide) (fun K hK => ?_)
             refine goes_ Try.func16 (by kernel_rfl) rfl #[.slice Ao61 t287.length co61, .slice Ao62 t290.length co62] (by rfl) rfl rfl (by (try simp only [List.map_toArray, List.map_cons, List.map_nil]); first | done | rfl | (simp only [List.length_drop, List.length_take]; rfl)) ?_
             with_reducible refine (syntagmref13_Same.calls k3 _ _ t287 _ _ t290 true _ ?side1 ?side2 ?side3 ?side4 A49.out).mono ?_
             (case side1 => repeat (first | exact (Kd.R_reads' HO289.out).2.2 | (with_reducible refine Kd.C_alloc ?_ _) | (with_reducible refine Kd.C_drewN ?_ _) | (with_reducible refine Kd.C_drew ?_)))
             (case side2 => exact (Kd.R_reads' HO289.out).2.1)
             (case side3 => repeat (first | exact (Kd.R_reads' HO292.out).2.2 | (with_reducible refine Kd.C_alloc ?_ _) | (with_reducible refine Kd.C_drewN ?_ _) | (with_reducible refine Kd.C_drew ?_)))
             (case side4 => exact (Kd.R_reads' HO292.out).2.1)
             rintro e w' ⟨rfl, ⟨nd, rfl⟩⟩
             refine ⟨_, rfl, ?_⟩
             refine hK.out _ _ ⟨(blk_cell BK268.out 0).trans rfl, (blk_cell BK268.out 1).trans rfl, (blk_cell BK268.out 2).trans rfl, (blk_cell BK268.out 3).trans rfl, (blk_cell BK268.out 4).trans rfl⟩ (fun hHeld => ?_)
             clear hK K
             refine norm_ (a' := ?_) ?_ ?_
             rotate_left
             ·show Act.put _ (some 79) _ = _
              simp only [Act.put, List.setIfInBounds_toArray, List.set_cons_zero, List.set_cons_succ, i64_w, i32_w]
              rfl
             refine pure_ (i := 7) (N := some 80) (v := ?_) (a' := ?_) #[true, true, true, true, true, true, true, true, false, false, false, false, false, false, false, false, false, false, false, false, false, false, false, false, false, false, false] rfl rfl (any_of HT_.out (by kernel_rfl)) (fun _ _ _ h => h) (Or.inl ⟨by rfl, ?_⟩) ?_ ?_
             rotate_left
             ·intro w'
              go_simp
              with_reducible rfl
             rotate_left
             ·simp only [Act.put, List.setIfInBounds_toArray, List.set_cons_zero, List.set_cons_succ, i64_w, i32_w]
              rfl
             refine pure_ (i := 8) (N := some 81) (v := ?_) (a' := ?_) #[true, true, true, true, true, true, true, true, true, false, false, false, false, false, false, false, false, false, false, false, false, false, false, false, false, false, false] rfl rfl (any_of HT_.out (by kernel_rfl)) (fun _ _ _ h => h) (Or.inl ⟨by rfl, ?_⟩) ?_ ?_
             rotate_left
             ·intro w'
              go_simp
              with_reducible rfl
             rotate_left
             ·simp only [Act.put, List.setIfInBounds_toArray, List.set_cons_zero, List.set_cons_succ, i64_w, i32_w]
              rfl
             refine take_ (i := 9) (N := some 82) (v := ?_) (a' := ?_) #[true, true, true, true, true, true, true, true, true, true, false, false, false, false, false, false, false, false, false, false, false, false, false, false, false, false, false] rfl rfl (take_ofW HT_.out HW_.out (by kernel_rfl)) (fun _ _ _ h => h) (Or.inl ⟨by rfl, ?_⟩) hHeld ?_ ?_
             rotate_left
             ·rintro w' ⟨s0, s1, s2, s3, s4⟩
              go_simp
              with_reducible rfl
             rotate_left
             ·simp only [Act.put, List.setIfInBounds_toArray, List.set_cons_zero, List.set_cons_succ, i64_w, i32_w]
              rfl
             refine take_ (i := 11) (N := some 84) (v := ?_) (a' := ?_) #[true, true, true, true, true, true, true, true, true, true, false, true, false, false, false, false, false, false, false, false, false, false, false, false, false, false, false] rfl rfl (take_ofW HT_.out HW_.out (by kernel_rfl)) (fun _ _ _ h => h) (Or.inl ⟨by rfl, ?_⟩) hHeld ?_ ?_
             rotate_left
             ·rintro w' ⟨s0, s1, s2, s3, s4⟩
              go_simp
              with_reducible rfl
             rotate_left
             ·simp only [Act.put, List.setIfInBounds_toArray, List.set_cons_zero, List.set_cons_succ, i64_w, i32_w]
              rfl
             refine one_ (i := 10) (N := some 83) #[true, true, true, true, true, true, true, true, true, true, true, true, false, false, false, false, false, false, false, false, false, false, false, false, false, false, false] rfl rfl (one_of HT_.out (by kernel_rfl)) (by decide) (fun K hK => ?_)
             refine goes_ Try.func19 (by kernel_rfl) rfl #[.agg #[.slice A0_0 l0_0.length c0_0, .slice A0_1 l0_1.length c0_1, .slice A0_2 l0_2.length c0_2, .slice A0_3 l0_3.length c0_3, .int .i64 a0_4]] (by rfl) rfl rfl (by (try simp only [List.map_toArray, List.map_cons, List.map_nil]); first | done | rfl | (simp only [List.length_drop, List.length_take]; rfl)) ?_
             with_reducible refine (sets_Follow.calls k3 _ _ l0_0 _ _ l0_1 _ _ l0_2 _ _ l0_3 a0_4 t294 _ ?side1 ?side2 ?side3 ?side4 ?side5 ?side6 ?side7 ?side8 A51.out).mono ?_
             (case side1 => repeat (first | exact (Kd.C_below HR0_0.out (by repeat (first | (with_reducible first | exact HB.out | apply below_alloc | apply pw_below_drewN | apply below_drew1 | refine below_set ?_ GE268.out) | exact HB.out))) | (with_reducible refine Kd.C_alloc ?_ _) | (with_reducible refine Kd.C_drewN ?_ _) | (with_reducible refine Kd.C_drew ?_)))
             (case side2 => exact HC0_0.out)
             (case side3 => repeat (first | exact (Kd.C_below HR0_1.out (by repeat (first | (with_reducible first | exact HB.out | apply below_alloc | apply pw_below_drewN | apply below_drew1 | refine below_set ?_ GE268.out) | exact HB.out))) | (with_reducible refine Kd.C_alloc ?_ _) | (with_reducible refine Kd.C_drewN ?_ _) | (with_reducible refine Kd.C_drew ?_)))
             (case side4 => exact HC0_1.out)
             (case side5 => repeat (first | exact (Kd.C_below HR0_2.out (by repeat (first | (with_reducible first | exact HB.out | apply below_alloc | apply pw_below_drewN | apply below_drew1 | refine below_set ?_ GE268.out) | exact HB.out))) | (with_reducible refine Kd.C_alloc ?_ _) | (with_reducible refine Kd.C_drewN ?_ _) | (with_reducible refine Kd.C_drew ?_)))
             (case side6 => exact HC0_2.out)
             (case side7 => repeat (first | exact (Kd.C_below HR0_3.out (by repeat (first | (with_reducible first | exact HB.out | apply below_alloc | apply pw_below_drewN | apply below_drew1 | refine below_set ?_ GE268.out) | exact HB.out))) | (with_reducible refine Kd.C_alloc ?_ _) | (with_reducible refine Kd.C_drewN ?_ _) | (with_reducible refine Kd.C_drew ?_)))
             (case side8 => exact HC0_3.out)
             rintro e w63 ⟨v295, rfl, ho0, hb⟩
             refine ⟨_, rfl, ?_⟩
             have n0_ := Aside0.mk (Kd.R_below (by (with_reducible repeat (first | apply Kd.R_alloc | apply Kd.R_drewN | apply Kd.R_drew)); exact HO_9.out) hb)
             have n1_ := Aside0.mk (Kd.R_below (by (with_reducible repeat (first | apply Kd.R_alloc | apply Kd.R_drewN | apply Kd.R_drew)); exact HO_10.out) hb)
             have n2_ := Aside0.mk (Kd.R_below (by (with_reducible repeat (first | apply Kd.R_alloc | apply Kd.R_drewN | apply Kd.R_drew)); exact HO_11.out) hb)
             have n3_ := Aside0.mk (Kd.R_below (by (with_reducible repeat (first | apply Kd.R_alloc | apply Kd.R_drewN | apply Kd.R_drew)); exact HO_12.out) hb)
             have n4_ := Aside0.mk (Kd.R_elder' (by (with_reducible repeat (first | apply Kd.R_alloc | apply Kd.R_drewN | apply Kd.R_drew)); exact HO289.out) (Kd.R_base ho0) hb)
             have n5_ := Aside0.mk (Kd.R_elder' (by (with_reducible repeat (first | apply Kd.R_alloc | apply Kd.R_drewN | apply Kd.R_drew)); exact HO292.out) (Kd.R_base ho0) hb)
             have n6_ := Aside0.mk (Kd.R_lower (Kd.R_new' (Kd.R_new' ho0 (Kd.R_lt (by (with_reducible repeat (first | apply Kd.R_alloc | apply Kd.R_drewN | apply Kd.R_drew)); exact HO289.out))) (Kd.R_lt (by (with_reducible repeat (first | apply Kd.R_alloc | apply Kd.R_drewN | apply Kd.R_drew)); exact HO292.out))) (below_size (by repeat (first | (with_reducible first | exact HB.out | apply below_alloc | apply pw_below_drewN | apply below_drew1 | refine below_set ?_ GE268.out) | exact HB.out))))
             have n7_ := Aside0.mk (blk_below (g := gb268) (o := .cells #[.slice A0_0 l0_0.length c0_0, .slice A0_1 l0_1.length c0_1, .slice A0_2 l0_2.length c0_2, .slice A0_3 l0_3.length c0_3, .int .i64 a0_4] 27 (0, 0)) (by (with_reducible repeat (first | refine blk_drewN ?_ _ | refine blk_drew ?_ | refine blk_alloc ?_ _)); exact BK268.out) hb)
             have n8_ := Aside0.mk (below_step (by repeat (first | (with_reducible first | exact HB.out | apply below_alloc | apply pw_below_drewN | apply below_drew1 | refine below_set ?_ GE268.out) | exact HB.out)) hb)
             clear HO_9
             clear HO_10
             clear HO_11
             clear HO_12
             clear HO289
             clear HO292
             clear BK268
             clear HB
             have HO_9 := n0_
             have HO_10 := n1_
             have HO_11 := n2_
             have HO_12 := n3_
             have HO289 := n4_
             have HO292 := n5_
             have HO296 := n6_
             have BK268 := n7_
             have HB := n8_
             clear n0_ n1_ n2_ n3_ n4_ n5_ n6_ n7_ n8_
             (try clear hb)
             (try clear hb2)
             (try clear hk)
             (try clear hi)
             (try clear ho0)
             refine hK.out _ _ ⟨(blk_cell BK268.out 0).trans rfl, (blk_cell BK268.out 1).trans rfl, (blk_cell BK268.out 2).trans rfl, (blk_cell BK268.out 3).trans rfl, (blk_cell BK268.out 4).trans rfl⟩ (fun hHeld => ?_)
             clear hK K
             refine norm_ (a' := ?_) ?_ ?_
             rotate_left
             ·show Act.put _ (some 83) _ = _
              simp only [Act.put, List.setIfInBounds_toArray, List.set_cons_zero, List.set_cons_succ, i64_w, i32_w]
              rfl
             refine one_ (i := 12) (N := some 85) #[true, true, true, true, true, true, true, true, true, true, true, true, true, false, false, false, false, false, false, false, false, false, false, false, false, false, false] rfl rfl (one_of HT_.out (by kernel_rfl)) (by decide) (fun K hK => ?_)
             refine goes_ Try.func20 (by kernel_rfl) rfl #[.agg #[.slice A0_0 l0_0.length c0_0, .slice A0_1 l0_1.length c0_1, .slice A0_2 l0_2.length c0_2, .slice A0_3 l0_3.length c0_3, .int .i64 a0_4]] (by rfl) rfl rfl (by (try simp only [List.map_toArray, List.map_cons, List.map_nil]); first | done | rfl | (simp only [List.length_drop, List.length_take]; rfl)) ?_
             with_reducible refine (syntagmref13_Follow.calls k3 _ _ l0_0 _ _ l0_1 _ _ l0_2 _ _ l0_3 a0_4 t297 _ ?side1 ?side2 ?side3 ?side4 ?side5 ?side6 ?side7 ?side8 A52.out).mono ?_
             (case side1 => repeat (first | exact (Kd.C_below HR0_0.out HB.out) | (with_reducible refine Kd.C_alloc ?_ _) | (with_reducible refine Kd.C_drewN ?_ _) | (with_reducible refine Kd.C_drew ?_)))
             (case side2 => exact HC0_0.out)
             (case side3 => repeat (first | exact (Kd.C_below HR0_1.out HB.out) | (with_reducible refine Kd.C_alloc ?_ _) | (with_reducible refine Kd.C_drewN ?_ _) | (with_reducible refine Kd.C_drew ?_)))
             (case side4 => exact HC0_1.out)
             (case side5 => repeat (first | exact (Kd.C_below HR0_2.out HB.out) | (with_reducible refine Kd.C_alloc ?_ _) | (with_reducible refine Kd.C_drewN ?_ _) | (with_reducible refine Kd.C_drew ?_)))
             (case side6 => exact HC0_2.out)
             (case side7 => repeat (first | exact (Kd.C_below HR0_3.out HB.out) | (with_reducible refine Kd.C_alloc ?_ _) | (with_reducible refine Kd.C_drewN ?_ _) | (with_reducible refine Kd.C_drew ?_)))
             (case side8 => exact HC0_3.out)
             rintro e w64 ⟨v298, rfl, ho0, hb⟩
             refine ⟨_, rfl, ?_⟩
             have n0_ := Aside0.mk (Kd.R_below (by (with_reducible repeat (first | apply Kd.R_alloc | apply Kd.R_drewN | apply Kd.R_drew)); exact HO_9.out) hb)
             have n1_ := Aside0.mk (Kd.R_below (by (with_reducible repeat (first | apply Kd.R_alloc | apply Kd.R_drewN | apply Kd.R_drew)); exact HO_10.out) hb)
             have n2_ := Aside0.mk (Kd.R_below (by (with_reducible repeat (first | apply Kd.R_alloc | apply Kd.R_drewN | apply Kd.R_drew)); exact HO_11.out) hb)
             have n3_ := Aside0.mk (Kd.R_below (by (with_reducible repeat (first | apply Kd.R_alloc | apply Kd.R_drewN | apply Kd.R_drew)); exact HO_12.out) hb)
             have n4_ := Aside0.mk (Kd.R_elder' (by (with_reducible repeat (first | apply Kd.R_alloc | apply Kd.R_drewN | apply Kd.R_drew)); exact HO289.out) (Kd.R_base ho0) hb)
             have n5_ := Aside0.mk (Kd.R_elder' (by (with_reducible repeat (first | apply Kd.R_alloc | apply Kd.R_drewN | apply Kd.R_drew)); exact HO292.out) (Kd.R_base ho0) hb)
             have n6_ := Aside0.mk (Kd.R_elder' (by (with_reducible repeat (first | apply Kd.R_alloc | apply Kd.R_drewN | apply Kd.R_drew)); exact HO296.out) (Kd.R_base ho0) hb)
             have n7_ := Aside0.mk (Kd.R_lower (Kd.R_new' (Kd.R_new' (Kd.R_new' ho0 (Kd.R_lt (by (with_reducible repeat (first | apply Kd.R_alloc | apply Kd.R_drewN | apply Kd.R_drew)); exact HO289.out))) (Kd.R_lt (by (with_reducible repeat (first | apply Kd.R_alloc | apply Kd.R_drewN | apply Kd.R_drew)); exact HO292.out))) (Kd.R_lt (by (with_reducible repeat (first | apply Kd.R_alloc | apply Kd.R_drewN | apply Kd.R_drew)); exact HO296.out))) (below_size (by repeat (first | (with_reducible first | exact HB.out | apply below_alloc | apply pw_below_drewN | apply below_drew1 | refine below_set ?_ GE268.out) | exact HB.out))))
             have n8_ := Aside0.mk (blk_below (g := gb268) (o := .cells #[.slice A0_0 l0_0.length c0_0, .slice A0_1 l0_1.length c0_1, .slice A0_2 l0_2.length c0_2, .slice A0_3 l0_3.length c0_3, .int .i64 a0_4] 27 (0, 0)) (by (with_reducible repeat (first | refine blk_drewN ?_ _ | refine blk_drew ?_ | refine blk_alloc ?_ _)); exact BK268.out) hb)
             have n9_ := Aside0.mk (below_step (by repeat (first | (with_reducible first | exact HB.out | apply below_alloc | apply pw_below_drewN | apply below_drew1 | refine below_set ?_ GE268.out) | exact HB.out)) hb)
             clear HO_9
             clear HO_10
             clear HO_11
             clear HO_12
             clear HO289
             clear HO292
             clear HO296
             clear BK268
             clear HB
             have HO_9 := n0_
             have HO_10 := n1_
             have HO_11 := n2_
             have HO_12 := n3_
             have HO289 := n4_
             have HO292 := n5_
             have HO296 := n6_
             have HO299 := n7_
             have BK268 := n8_
             have HB := n9_
             clear n0_ n1_ n2_ n3_ n4_ n5_ n6_ n7_ n8_ n9_
             (try clear hb)
             (try clear hb2)
             (try clear hk)
             (try clear hi)
             (try clear ho0)
             obtain ⟨Ao65, co65, eo65⟩ := Kd.R_slice HO296.out
             (first | subst eo65 | (injection eo65 with f1_ f2_ f3_; have f4_ := f1_.symm; have f5_ := f3_.symm; clear f1_ f2_ f3_; subst f4_; subst f5_))
             obtain ⟨Ao66, co66, eo66⟩ := Kd.R_slice HO299.out
             (first | subst eo66 | (injection eo66 with f1_ f2_ f3_; have f4_ := f1_.symm; have f5_ := f3_.symm; clear f1_ f2_ f3_; subst f4_; subst f5_))
             refine hK.out _ _ ⟨(blk_cell BK268.out 0).trans rfl, (blk_cell BK268.out 1).trans rfl, (blk_cell BK268.out 2).trans rfl, (blk_cell BK268.out 3).trans rfl, (blk_cell BK268.out 4).trans rfl⟩ (fun hHeld => ?_)
             clear hK K
             refine norm_ (a' := ?_) ?_ ?_
             rotate_left
             ·show Act.put _ (some 85) _ = _
              simp only [Act.put, List.setIfInBounds_toArray, List.set_cons_zero, List.set_cons_succ, i64_w, i32_w]
              rfl
             refine one_ (i := 13) (N := some 86) #[true, true, true, true, true, true, true, true, true, true, true, true, true, true, false, false, false, false, false, false, false, false, false, false, false, false, false] rfl rfl (one_of HT_.out (by kernel_rfl)) (by decide) (fun K hK => ?_)
             refine goes_ Try.func16 (by kernel_rfl) rfl #[.slice Ao65 t294.length co65, .slice Ao66 t297.length co66] (by rfl) rfl rfl (by (try simp only [List.map_toArray, List.map_cons, List.map_nil]); first | done | rfl | (simp only [List.length_drop, List.length_take]; rfl)) ?_
             with_reducible refine (syntagmref13_Same.calls k3 _ _ t294 _ _ t297 true _ ?side1 ?side2 ?side3 ?side4 A53.out).mono ?_
             (case side1 => repeat (first | exact (Kd.R_reads' HO296.out).2.2 | (with_reducible refine Kd.C_alloc ?_ _) | (with_reducible refine Kd.C_drewN ?_ _) | (with_reducible refine Kd.C_drew ?_)))
             (case side2 => exact (Kd.R_reads' HO296.out).2.1)
             (case side3 => repeat (first | exact (Kd.R_reads' HO299.out).2.2 | (with_reducible refine Kd.C_alloc ?_ _) | (with_reducible refine Kd.C_drewN ?_ _) | (with_reducible refine Kd.C_drew ?_)))
             (case side4 => exact (Kd.R_reads' HO299.out).2.1)
             rintro e w' ⟨rfl, ⟨nd, rfl⟩⟩
             refine ⟨_, rfl, ?_⟩
             refine hK.out _ _ ⟨(blk_cell BK268.out 0).trans rfl, (blk_cell BK268.out 1).trans rfl, (blk_cell BK268.out 2).trans rfl, (blk_cell BK268.out 3).trans rfl, (blk_cell BK268.out 4).trans rfl⟩ (fun hHeld => ?_)
             clear hK K
             refine norm_ (a' := ?_) ?_ ?_
             rotate_left
             ·show Act.put _ (some 86) _ = _
              simp only [Act.put, List.setIfInBounds_toArray, List.set_cons_zero, List.set_cons_succ, i64_w, i32_w]
              rfl
             refine pure_ (i := 14) (N := some 87) (v := ?_) (a' := ?_) #[true, true, true, true, true, true, true, true, true, true, true, true, true, true, true, false, false, false, false, false, false, false, false, false, false, false, false] rfl rfl (any_of HT_.out (by kernel_rfl)) (fun _ _ _ h => h) (Or.inl ⟨by rfl, ?_⟩) ?_ ?_
             rotate_left
             ·intro w'
              go_simp
              with_reducible rfl
             rotate_left
             ·simp only [Act.put, List.setIfInBounds_toArray, List.set_cons_zero, List.set_cons_succ, i64_w, i32_w]
              rfl
             refine pure_ (i := 15) (N := some 88) (v := ?_) (a' := ?_) #[true, true, true, true, true, true, true, true, true, true, true, true, true, true, true, true, false, false, false, false, false, false, false, false, false, false, false] rfl rfl (any_of HT_.out (by kernel_rfl)) (fun _ _ _ h => h) (Or.inl ⟨by rfl, ?_⟩) ?_ ?_
             rotate_left
             ·intro w'
              go_simp
              with_reducible rfl
             rotate_left
             ·simp only [Act.put, List.setIfInBounds_toArray, List.set_cons_zero, List.set_cons_succ, i64_w, i32_w]
              rfl
             refine pure_ (i := 17) (N := some 90) (v := ?_) (a' := ?_) #[true, true, true, true, true, true, true, true, true, true, true, true, true, true, true, true, false, true, false, false, false, false, false, false, false, false, false] rfl rfl (any_of HT_.out (by kernel_rfl)) (fun _ _ _ h => h) (Or.inl ⟨by rfl, ?_⟩) ?_ ?_
             rotate_left
             ·intro w'
              go_simp
              with_reducible rfl
             rotate_left
             ·simp only [Act.put, List.setIfInBounds_toArray, List.set_cons_zero, List.set_cons_succ, i64_w, i32_w]
              rfl
             refine pure_ (i := 18) (N := some 91) (v := ?_) (a' := ?_) #[true, true, true, true, true, true, true, true, true, true, true, true, true, true, true, true, false, true, true, false, false, false, false, false, false, false, false] rfl rfl (any_of HT_.out (by kernel_rfl)) (fun _ _ _ h => h) (Or.inl ⟨by rfl, ?_⟩) ?_ ?_
             rotate_left
             ·intro w'
              go_simp
              with_reducible rfl
             rotate_left
             ·simp only [Act.put, List.setIfInBounds_toArray, List.set_cons_zero, List.set_cons_succ, i64_w, i32_w]
              rfl
             refine pure_ (i := 21) (N := some 94) (v := ?_) (a' := ?_) #[true, true, true, true, true, true, true, true, true, true, true, true, true, true, true, true, false, true, true, false, false, true, false, false, false, false, false] rfl rfl (any_of HT_.out (by kernel_rfl)) (fun _ _ _ h => h) (Or.inl ⟨by rfl, ?_⟩) ?_ ?_
             rotate_left
             ·intro w'
              go_simp
              with_reducible rfl
             rotate_left
             ·simp only [Act.put, List.setIfInBounds_toArray, List.set_cons_zero, List.set_cons_succ, i64_w, i32_w]
              rfl
             refine pure_ (i := 22) (N := some 95) (v := ?_) (a' := ?_) #[true, true, true, true, true, true, true, true, true, true, true, true, true, true, true, true, false, true, true, false, false, true, true, false, false, false, false] rfl rfl (any_of HT_.out (by kernel_rfl)) (fun _ _ _ h => h) (Or.inl ⟨by rfl, ?_⟩) ?_ ?_
             rotate_left
             ·intro w'
              go_simp
              with_reducible rfl
             rotate_left
             ·simp only [Act.put, List.setIfInBounds_toArray, List.set_cons_zero, List.set_cons_succ, i64_w, i32_w]
              rfl
             refine take_ (i := 16) (N := some 89) (v := ?_) (a' := ?_) #[true, true, true, true, true, true, true, true, true, true, true, true, true, true, true, true, true, true, true, false, false, true, true, false, false, false, false] rfl rfl (take_ofW HT_.out HW_.out (by kernel_rfl)) (fun _ _ _ h => h) (Or.inl ⟨by rfl, ?_⟩) hHeld ?_ ?_
             rotate_left
             ·rintro w' ⟨s0, s1, s2, s3, s4⟩
              go_simp
              with_reducible rfl
             rotate_left
             ·simp only [Act.put, List.setIfInBounds_toArray, List.set_cons_zero, List.set_cons_succ, i64_w, i32_w]
              rfl
             refine take_ (i := 20) (N := some 93) (v := ?_) (a' := ?_) #[true, true, true, true, true, true, true, true, true, true, true, true, true, true, true, true, true, true, true, false, true, true, true, false, false, false, false] rfl rfl (take_ofW HT_.out HW_.out (by kernel_rfl)) (fun _ _ _ h => h) (Or.inl ⟨by rfl, ?_⟩) hHeld ?_ ?_
             rotate_left
             ·rintro w' ⟨s0, s1, s2, s3, s4⟩
              go_simp
              with_reducible rfl
             rotate_left
             ·simp only [Act.put, List.setIfInBounds_toArray, List.set_cons_zero, List.set_cons_succ, i64_w, i32_w]
              rfl
             refine one_ (i := 19) (N := some 92) #[true, true, true, true, true, true, true, true, true, true, true, true, true, true, true, true, true, true, true, true, true, true, true, false, false, false, false] rfl rfl (one_of HT_.out (by kernel_rfl)) (by decide) (fun K hK => ?_)
             refine goes_ Try.func21 (by kernel_rfl) rfl #[.agg #[.slice A0_0 l0_0.length c0_0, .slice A0_1 l0_1.length c0_1, .slice A0_2 l0_2.length c0_2, .slice A0_3 l0_3.length c0_3, .int .i64 a0_4], .slice A1 l1.length c1, .int .u64 a2] (by rfl) rfl rfl (by (try simp only [List.map_toArray, List.map_cons, List.map_nil]); first | done | rfl | (simp only [List.length_drop, List.length_take]; rfl)) ?_
             with_reducible refine (sets_Of.calls k3 _ _ l0_0 _ _ l0_1 _ _ l0_2 _ _ l0_3 a0_4 _ _ l1 a2 t301 _ ?side1 ?side2 ?side3 ?side4 ?side5 ?side6 ?side7 ?side8 ?side9 ?side10 A55.out).mono ?_
             (case side1 => repeat (first | exact (Kd.C_below HR0_0.out (by repeat (first | (with_reducible first | exact HB.out | apply below_alloc | apply pw_below_drewN | apply below_drew1 | refine below_set ?_ GE268.out) | exact HB.out))) | (with_reducible refine Kd.C_alloc ?_ _) | (with_reducible refine Kd.C_drewN ?_ _) | (with_reducible refine Kd.C_drew ?_)))
             (case side2 => exact HC0_0.out)
             (case side3 => repeat (first | exact (Kd.C_below HR0_1.out (by repeat (first | (with_reducible first | exact HB.out | apply below_alloc | apply pw_below_drewN | apply below_drew1 | refine below_set ?_ GE268.out) | exact HB.out))) | (with_reducible refine Kd.C_alloc ?_ _) | (with_reducible refine Kd.C_drewN ?_ _) | (with_reducible refine Kd.C_drew ?_)))
             (case side4 => exact HC0_1.out)
             (case side5 => repeat (first | exact (Kd.C_below HR0_2.out (by repeat (first | (with_reducible first | exact HB.out | apply below_alloc | apply pw_below_drewN | apply below_drew1 | refine below_set ?_ GE268.out) | exact HB.out))) | (with_reducible refine Kd.C_alloc ?_ _) | (with_reducible refine Kd.C_drewN ?_ _) | (with_reducible refine Kd.C_drew ?_)))
             (case side6 => exact HC0_2.out)
             (case side7 => repeat (first | exact (Kd.C_below HR0_3.out (by repeat (first | (with_reducible first | exact HB.out | apply below_alloc | apply pw_below_drewN | apply below_drew1 | refine below_set ?_ GE268.out) | exact HB.out))) | (with_reducible refine Kd.C_alloc ?_ _) | (with_reducible refine Kd.C_drewN ?_ _) | (with_reducible refine Kd.C_drew ?_)))
             (case side8 => exact HC0_3.out)
             (case side9 => repeat (first | exact (Kd.C_below HR1.out (by repeat (first | (with_reducible first | exact HB.out | apply below_alloc | apply pw_below_drewN | apply below_drew1 | refine below_set ?_ GE268.out) | exact HB.out))) | (with_reducible refine Kd.C_alloc ?_ _) | (with_reducible refine Kd.C_drewN ?_ _) | (with_reducible refine Kd.C_drew ?_)))
             (case side10 => exact HC1.out)
             rintro e w67 ⟨rfl, hb⟩
             refine ⟨_, rfl, ?_⟩
             have n0_ := Aside0.mk (Kd.R_below (by (with_reducible repeat (first | apply Kd.R_alloc | apply Kd.R_drewN | apply Kd.R_drew)); exact HO_9.out) hb)
             have n1_ := Aside0.mk (Kd.R_below (by (with_reducible repeat (first | apply Kd.R_alloc | apply Kd.R_drewN | apply Kd.R_drew)); exact HO_10.out) hb)
             have n2_ := Aside0.mk (Kd.R_below (by (with_reducible repeat (first | apply Kd.R_alloc | apply Kd.R_drewN | apply Kd.R_drew)); exact HO_11.out) hb)
             have n3_ := Aside0.mk (Kd.R_below (by (with_reducible repeat (first | apply Kd.R_alloc | apply Kd.R_drewN | apply Kd.R_drew)); exact HO_12.out) hb)
             have n4_ := Aside0.mk (Kd.R_below (by (with_reducible repeat (first | apply Kd.R_alloc | apply Kd.R_drewN | apply Kd.R_drew)); exact HO289.out) hb)
             have n5_ := Aside0.mk (Kd.R_below (by (with_reducible repeat (first | apply Kd.R_alloc | apply Kd.R_drewN | apply Kd.R_drew)); exact HO292.out) hb)
             have n6_ := Aside0.mk (Kd.R_below (by (with_reducible repeat (first | apply Kd.R_alloc | apply Kd.R_drewN | apply Kd.R_drew)); exact HO296.out) hb)
             have n7_ := Aside0.mk (Kd.R_below (by (with_reducible repeat (first | apply Kd.R_alloc | apply Kd.R_drewN | apply Kd.R_drew)); exact HO299.out) hb)
             have n8_ := Aside0.mk (blk_below (g := gb268) (o := .cells #[.slice A0_0 l0_0.length c0_0, .slice A0_1 l0_1.length c0_1, .slice A0_2 l0_2.length c0_2, .slice A0_3 l0_3.length c0_3, .int .i64 a0_4] 27 (0, 0)) (by (with_reducible repeat (first | refine blk_drewN ?_ _ | refine blk_drew ?_ | refine blk_alloc ?_ _)); exact BK268.out) hb)
             have n9_ := Aside0.mk (below_step (by repeat (first | (with_reducible first | exact HB.out | apply below_alloc | apply pw_below_drewN | apply below_drew1 | refine below_set ?_ GE268.out) | exact HB.out)) hb)
             clear HO_9
             clear HO_10
             clear HO_11
             clear HO_12
             clear HO289
             clear HO292
             clear HO296
             clear HO299
             clear BK268
             clear HB
             have HO_9 := n0_
             have HO_10 := n1_
             have HO_11 := n2_
             have HO_12 := n3_
             have HO289 := n4_
             have HO292 := n5_
             have HO296 := n6_
             have HO299 := n7_
             have BK268 := n8_
             have HB := n9_
             clear n0_ n1_ n2_ n3_ n4_ n5_ n6_ n7_ n8_ n9_
             (try clear hb)
             (try clear hb2)
             (try clear hk)
             (try clear hi)
             refine hK.out _ _ ⟨(blk_cell BK268.out 0).trans rfl, (blk_cell BK268.out 1).trans rfl, (blk_cell BK268.out 2).trans rfl, (blk_cell BK268.out 3).trans rfl, (blk_cell BK268.out 4).trans rfl⟩ (fun hHeld => ?_)
             clear hK K
             refine norm_ (a' := ?_) ?_ ?_
             rotate_left
             ·show Act.put _ (some 92) _ = _
              simp only [Act.put, List.setIfInBounds_toArray, List.set_cons_zero, List.set_cons_succ, i64_w, i32_w]
              rfl
             refine one_ (i := 23) (N := some 96) #[true, true, true, true, true, true, true, true, true, true, true, true, true, true, true, true, true, true, true, true, true, true, true, true, false, false, false] rfl rfl (one_of HT_.out (by kernel_rfl)) (by decide) (fun K hK => ?_)
             refine goes_ Try.func22 (by kernel_rfl) rfl #[.agg #[.slice A0_0 l0_0.length c0_0, .slice A0_1 l0_1.length c0_1, .slice A0_2 l0_2.length c0_2, .slice A0_3 l0_3.length c0_3, .int .i64 a0_4], .slice A1 l1.length c1, .int .u64 a2] (by rfl) rfl rfl (by (try simp only [List.map_toArray, List.map_cons, List.map_nil]); first | done | rfl | (simp only [List.length_drop, List.length_take]; rfl)) ?_
             with_reducible refine (syntagmref13_Of.calls k3 _ _ l0_0 _ _ l0_1 _ _ l0_2 _ _ l0_3 a0_4 _ _ l1 a2 t302 _ ?side1 ?side2 ?side3 ?side4 ?side5 ?side6 ?side7 ?side8 ?side9 ?side10 A56.out).mono ?_
             (case side1 => repeat (first | exact (Kd.C_below HR0_0.out HB.out) | (with_reducible refine Kd.C_alloc ?_ _) | (with_reducible refine Kd.C_drewN ?_ _) | (with_reducible refine Kd.C_drew ?_)))
             (case side2 => exact HC0_0.out)
             (case side3 => repeat (first | exact (Kd.C_below HR0_1.out HB.out) | (with_reducible refine Kd.C_alloc ?_ _) | (with_reducible refine Kd.C_drewN ?_ _) | (with_reducible refine Kd.C_drew ?_)))
             (case side4 => exact HC0_1.out)
             (case side5 => repeat (first | exact (Kd.C_below HR0_2.out HB.out) | (with_reducible refine Kd.C_alloc ?_ _) | (with_reducible refine Kd.C_drewN ?_ _) | (with_reducible refine Kd.C_drew ?_)))
             (case side6 => exact HC0_2.out)
             (case side7 => repeat (first | exact (Kd.C_below HR0_3.out HB.out) | (with_reducible refine Kd.C_alloc ?_ _) | (with_reducible refine Kd.C_drewN ?_ _) | (with_reducible refine Kd.C_drew ?_)))
             (case side8 => exact HC0_3.out)
             (case side9 => repeat (first | exact (Kd.C_below HR1.out HB.out) | (with_reducible refine Kd.C_alloc ?_ _) | (with_reducible refine Kd.C_drewN ?_ _) | (with_reducible refine Kd.C_drew ?_)))
             (case side10 => exact HC1.out)
             rintro e w68 ⟨rfl, hb⟩
             refine ⟨_, rfl, ?_⟩
             have n0_ := Aside0.mk (Kd.R_below (by (with_reducible repeat (first | apply Kd.R_alloc | apply Kd.R_drewN | apply Kd.R_drew)); exact HO_9.out) hb)
             have n1_ := Aside0.mk (Kd.R_below (by (with_reducible repeat (first | apply Kd.R_alloc | apply Kd.R_drewN | apply Kd.R_drew)); exact HO_10.out) hb)
             have n2_ := Aside0.mk (Kd.R_below (by (with_reducible repeat (first | apply Kd.R_alloc | apply Kd.R_drewN | apply Kd.R_drew)); exact HO_11.out) hb)
             have n3_ := Aside0.mk (Kd.R_below (by (with_reducible repeat (first | apply Kd.R_alloc | apply Kd.R_drewN | apply Kd.R_drew)); exact HO_12.out) hb)
             have n4_ := Aside0.mk (Kd.R_below (by (with_reducible repeat (first | apply Kd.R_alloc | apply Kd.R_drewN | apply Kd.R_drew)); exact HO289.out) hb)
             have n5_ := Aside0.mk (Kd.R_below (by (with_reducible repeat (first | apply Kd.R_alloc | apply Kd.R_drewN | apply Kd.R_drew)); exact HO292.out) hb)
             have n6_ := Aside0.mk (Kd.R_below (by (with_reducible repeat (first | apply Kd.R_alloc | apply Kd.R_drewN | apply Kd.R_drew)); exact HO296.out) hb)
             have n7_ := Aside0.mk (Kd.R_below (by (with_reducible repeat (first | apply Kd.R_alloc | apply Kd.R_drewN | apply Kd.R_drew)); exact HO299.out) hb)
             have n8_ := Aside0.mk (blk_below (g := gb268) (o := .cells #[.slice A0_0 l0_0.length c0_0, .slice A0_1 l0_1.length c0_1, .slice A0_2 l0_2.length c0_2, .slice A0_3 l0_3.length c0_3, .int .i64 a0_4] 27 (0, 0)) (by (with_reducible repeat (first | refine blk_drewN ?_ _ | refine blk_drew ?_ | refine blk_alloc ?_ _)); exact BK268.out) hb)
             have n9_ := Aside0.mk (below_step (by repeat (first | (with_reducible first | exact HB.out | apply below_alloc | apply pw_below_drewN | apply below_drew1 | refine below_set ?_ GE268.out) | exact HB.out)) hb)
             clear HO_9
             clear HO_10
             clear HO_11
             clear HO_12
             clear HO289
             clear HO292
             clear HO296
             clear HO299
             clear BK268
             clear HB
             have HO_9 := n0_
             have HO_10 := n1_
             have HO_11 := n2_
             have HO_12 := n3_
             have HO289 := n4_
             have HO292 := n5_
             have HO296 := n6_
             have HO299 := n7_
             have BK268 := n8_
             have HB := n9_
             clear n0_ n1_ n2_ n3_ n4_ n5_ n6_ n7_ n8_ n9_
             (try clear hb)
             (try clear hb2)
             (try clear hk)
             (try clear hi)
             refine hK.out _ _ ⟨(blk_cell BK268.out 0).trans rfl, (blk_cell BK268.out 1).trans rfl, (blk_cell BK268.out 2).trans rfl, (blk_cell BK268.out 3).trans rfl, (blk_cell BK268.out 4).trans rfl⟩ (fun hHeld => ?_)
             clear hK K
             refine norm_ (a' := ?_) ?_ ?_
             rotate_left
             ·show Act.put _ (some 96) _ = _
              simp only [Act.put, List.setIfInBounds_toArray, List.set_cons_zero, List.set_cons_succ, i64_w, i32_w]
              rfl
             refine pure_ (i := 24) (N := some 97) (v := ?_) (a' := ?_) #[true, true, true, true, true, true, true, true, true, true, true, true, true, true, true, true, true, true, true, true, true, true, true, true, true, false, false] rfl rfl (any_of HT_.out (by kernel_rfl)) (fun _ _ _ h => h) (Or.inl ⟨by rfl, ?_⟩) ?_ ?_
             rotate_left
             ·intro w'
              go_simp
              with_reducible rfl
             rotate_left
             ·simp only [Act.put, List.setIfInBounds_toArray, List.set_cons_zero, List.set_cons_succ, i64_w, i32_w]
              rfl
             refine pure_ (i := 25) (N := some 98) (v := ?_) (a' := ?_) #[true, true, true, true, true, true, true, true, true, true, true, true, true, true, true, true, true, true, true, true, true, true, true, true, true, true, false] rfl rfl (any_of HT_.out (by kernel_rfl)) (fun _ _ _ h => h) (Or.inl ⟨by rfl, ?_⟩) ?_ ?_
             rotate_left
             ·intro w'
              go_simp
              with_reducible rfl
             rotate_left
             ·simp only [Act.put, List.setIfInBounds_toArray, List.set_cons_zero, List.set_cons_succ, i64_w, i32_w]
              rfl
             refine pure_ (i := 26) (N := some 6) (v := ?_) (a' := ?_) #[true, true, true, true, true, true, true, true, true, true, true, true, true, true, true, true, true, true, true, true, true, true, true, true, true, true, true] rfl rfl (any_of HT_.out (by kernel_rfl)) (fun _ _ _ h => h) (Or.inl ⟨by rfl, ?_⟩) ?_ ?_
             rotate_left
             ·intro w'
              go_simp
              with_reducible rfl
             rotate_left
             ·simp only [Act.put, List.setIfInBounds_toArray, List.set_cons_zero, List.set_cons_succ, i64_w, i32_w]
              rfl
             refine done_ (done_of HT_.out (by kernel_rfl)) ?_
             try go_wp2
             go_ret
             exact ⟨by first | rfl | (simp [errW_none, errW_some] <;> rfl) | (simp [*, errW_none, errW_some] <;> rfl), by repeat (first | (with_reducible first | exact HB.out | apply below_alloc | apply pw_below_drewN | apply below_drew1 | refine below_set ?_ GE268.out) | exact HB.out)⟩
            ·replace c54 := Bool.eq_false_iff.mpr c54
             subst c54
             have H1 : (some false) = some r := by rw [if_neg (show ¬ (false = true) by decide)] at H; exact H
             clear H
             have H := H1
             clear H1
             exact absurd ((Option.some.inj H).trans HT.out) (by decide)
           ·replace c50 := Bool.eq_false_iff.mpr c50
            subst c50
            have H1 : (some false) = some r := by rw [if_neg (show ¬ (false = true) by decide)] at H; exact H
            clear H
            have H := H1
            clear H1
            exact absurd ((Option.some.inj H).trans HT.out) (by decide)
 ·replace c5 := Bool.eq_false_iff.mpr c5
  subst c5
  have H1 : (some false) = some r := by rw [if_neg (show ¬ (false = true) by decide)] at H; exact H
  clear H
  have H := H1
  clear H1
  exact absurd ((Option.some.inj H).trans HT.out) (by decide)

end Go.Proofs.Ytggfiopajogiiaa.P
end

section
set_option linter.unusedVariables false
set_option linter.unusedSimpArgs false
namespace Go.Proofs.Ytggfiopajogiiaa.Open
open Go Go.RowKit Go.ChangeShapes Go.WideShapes Go.Deep Go.Proofs.YtggfiopajogiiaaW.PrintWords

/-- What reads as data of type t is told by the kind d; 'wf': what is known of its numbers and texts. -/
structure Opens (P : Program) (t : TypeId) {α : Type} (d : Kd α) (wf : α → Prop) : Prop where
 sz : P.cellsOf t = d.sz
 down : ∀ {H : Type} {enc : TypeId × Value → H} {w : World} {base : Nat} {spare : Nat → Bool} {held : Bool} {fuel : Nat} {cs : List Value} {x : DataW H × List MemPlace},
  DataW.trod enc P w base spare held fuel t cs = some x → ∃ a : α, d.K w a cs ∧ wf a

variable {P : Program} {t e : TypeId} {α β : Type}

theorem opens_int {k : IntKind} (hc : P.cellsOf t = 1) (ht : P.underlying t = some (.int k)) : Opens P t (Kd.int k) (fun n => (Lit.int k n).wf = true) :=
 ⟨hc, fun h => by
  obtain ⟨n, rfl, _, hw⟩ := DataW.trod_int ht h
  exact ⟨n, rfl, hw⟩⟩
theorem opens_bool (hc : P.cellsOf t = 1) (ht : P.underlying t = some .bool) : Opens P t Kd.bool (fun _ => True) :=
 ⟨hc, fun h => by
  obtain ⟨b, rfl, _⟩ := DataW.trod_bool ht h
  exact ⟨b, rfl, trivial⟩⟩
theorem opens_string (hc : P.cellsOf t = 1) (ht : P.underlying t = some .string) : Opens P t Kd.string (fun s => s.size ≤ maxLen) :=
 ⟨hc, fun h => by
  obtain ⟨s, rfl, _, hs⟩ := DataW.trod_string ht h
  exact ⟨s, rfl, hs⟩⟩

theorem cells_at {w : World} {base n : Nat} {a : Addr} {cs : List Value} (h : w.cells? base a n = some cs) : cs.length = n ∧ ∀ i u, cs[i]? = some u → w.cell? (a.add i) = some u := by
 unfold World.cells? at h
 split at h
 ·have hl := mapM_some_length h
  rw [List.length_range] at hl
  refine ⟨hl, fun i u hu => ?_⟩
  have hi : i < n := by rw [← hl]; exact (List.getElem?_eq_some_iff.1 hu).1
  have := mapM_some_get h i i (by simp [hi])
  rw [this, hu]
 ·cases h

/-- A slice's elements, by the element's law. -/
theorem opens_slice {d : Kd α} {wf : α → Prop} (hc : P.cellsOf t = 1) (ht : P.underlying t = some (.slice e)) (he : Opens P e d wf) : Opens P t (Kd.slice e d) (fun xs => xs.length ≤ 9223372036854775807 ∧ ∀ x ∈ xs, wf x) :=
 ⟨hc, fun {H enc w base spare held fuel cs x} h => by
  rcases open_slice ht h with ⟨rfl, _⟩ | ⟨a, len, cap, m, n, D, Pl, rfl, hb, hl, hm, hmd, _, hel⟩
  ·exact ⟨[], ⟨none, 0, rfl, Nat.le_refl _, rfl, Nat.zero_le _, fun h => absurd h (Nat.lt_irrefl 0)⟩, Nat.zero_le _, fun x hx => by cases hx⟩
  ·have hlm : len ≤ m := by rw [hmd]; split <;> omega
   have hex : ∀ i, i < len → ∃ y : α, ∃ cs', w.cells? base (a.add (i * P.cellsOf e)) (P.cellsOf e) = some cs' ∧ d.K w y cs' ∧ wf y := fun i hi => by
    obtain ⟨cs', h1, h2⟩ := hel i (by omega)
    obtain ⟨y, hk, hw⟩ := he.down h2
    exact ⟨y, cs', h1, hk, hw⟩
   obtain ⟨f, hf⟩ : ∃ f : (i : Nat) → i < len → α, ∀ i hi, ∃ cs', w.cells? base (a.add (i * P.cellsOf e)) (P.cellsOf e) = some cs' ∧ d.K w (f i hi) cs' ∧ wf (f i hi) :=
    ⟨fun i hi => Classical.choose (hex i hi), fun i hi => Classical.choose_spec (hex i hi)⟩
   let xs : List α := List.ofFn (fun i : Fin len => f i.1 i.2)
   have hxl : xs.length = len := by simp [xs]
   refine ⟨xs, ⟨some a, cap, by rw [hxl], by rw [hxl]; exact hl, rfl, by rw [hxl]; unfold maxLen at hm; omega, fun _ => ⟨a, rfl, fun j p hj => ?_⟩⟩, by rw [hxl]; unfold maxLen at hm; omega, fun x hx => ?_⟩
   ·have hjl : j < len := by rw [← hxl]; exact (List.getElem?_eq_some_iff.1 hj).1
    obtain ⟨cs', h1, h2, _⟩ := hf j hjl
    have hp : p = f j hjl := by
     have := (List.getElem?_eq_some_iff.1 hj).2
     rw [← this]
     simp [xs]
    subst hp
    refine ⟨cs', d.K_len h2, h2, fun i u hu => ?_⟩
    have h3 := (cells_at h1).2 i u hu
    rw [Deep.add_add, he.sz] at h3
    exact h3
   ·obtain ⟨i, rfl⟩ := (List.mem_ofFn).1 hx
    exact (hf i.1 i.2).elim fun _ h => h.2.2⟩

/-- A struct's fields from one on. -/
structure OpensFs (P : Program) (fs : List Field) (off : Nat) {α : Type} (d : Kd α) (wf : α → Prop) : Prop where
 down : ∀ {H : Type} {enc : TypeId × Value → H} {w : World} {base : Nat} {spare : Nat → Bool} {held : Bool} {n : Nat} {cs : List Value}, cs.length = off + d.sz →
  (∀ f ∈ fs, ∃ y : DataW H × List MemPlace, DataW.trod enc P w base spare held n f.type ((cs.drop f.offset).take (P.cellsOf f.type)) = some y) → ∃ a : α, d.K w a (cs.drop off) ∧ wf a

theorem fields_one {f : Field} {off : Nat} {d : Kd α} {wf : α → Prop} (ho : f.offset = off) (hf : Opens P f.type d wf) : OpensFs P [f] off d wf :=
 ⟨fun {H enc w base spare held n cs} hl h => by
  obtain ⟨y, hy⟩ := h f (List.mem_singleton.2 rfl)
  rw [ho, hf.sz, List.take_of_length_le (by rw [List.length_drop]; omega)] at hy
  exact hf.down hy⟩
theorem fields_cons {f : Field} {fs : List Field} {off : Nat} {d : Kd α} {d' : Kd β} {wf : α → Prop} {wf' : β → Prop} (ho : f.offset = off) (hf : Opens P f.type d wf) (hr : OpensFs P fs (off + d.sz) d' wf') :
  OpensFs P (f :: fs) off (Kd.pair d d') (fun x => wf x.1 ∧ wf' x.2) :=
 ⟨fun {H enc w base spare held n cs} hl h => by
  have hl' : cs.length = off + (d.sz + d'.sz) := hl
  obtain ⟨y, hy⟩ := h f List.mem_cons_self
  rw [ho, hf.sz] at hy
  obtain ⟨a, ka, wa⟩ := hf.down hy
  obtain ⟨b, kb, wb⟩ := hr.down (by omega) (fun g hg => h g (List.mem_cons_of_mem _ hg))
  refine ⟨(a, b), ⟨_, _, ?_, ka, kb⟩, wa, wb⟩
  rw [← List.drop_drop, List.take_append_drop]⟩

theorem opens_struct {fs : Array Field} {d : Kd α} {wf : α → Prop} {f : β → α} (g : α → β) (hfg : ∀ a, f (g a) = a) (hc : P.cellsOf t = d.sz) (ht : P.underlying t = some (.struct fs)) (hf : OpensFs P fs.toList 0 d wf) :
  Opens P t (Kd.iso d f) (fun b => wf (f b)) :=
 ⟨hc, fun h => by
  obtain ⟨xs, n, rfl, _, hl, hx, hel⟩ := DataW.trod_struct ht h
  obtain ⟨a, ka, wa⟩ := hf.down (by rw [hl, hc]; simp) (fun q hq => by
   obtain ⟨i, hi, rfl⟩ := List.getElem_of_mem hq
   have h1 := hel i (fs.toList[i]) (by simp)
   have hi2 : i < xs.length := by rw [hx]; simpa using hi
   exact ⟨xs[i], by rw [h1]; exact List.getElem?_eq_getElem hi2⟩)
  exact ⟨g a, by show d.K _ (f (g a)) _; rw [hfg]; simpa using ka, by rw [hfg]; exact wa⟩⟩

/-- An array of two. -/
theorem opens_two {d : Kd α} {wf : α → Prop} {f : β → α × α} (g : α × α → β) (hfg : ∀ a, f (g a) = a) (hc : P.cellsOf t = d.sz + d.sz) (ht : P.underlying t = some (.array 2 e)) (he : Opens P e d wf) :
  Opens P t (Kd.iso (Kd.pair d d) f) (fun b => wf (f b).1 ∧ wf (f b).2) :=
 ⟨hc, fun {H enc w base spare held fuel cs x} h => by
  obtain ⟨xs, n, rfl, _, hl, hx, hel⟩ := DataW.trod_array ht h
  have h0 := hel 0 (by omega)
  have h1 := hel 1 (by omega)
  rw [List.getElem?_eq_getElem (by omega)] at h0 h1
  rw [he.sz] at h0 h1
  rw [Nat.zero_mul, List.drop_zero] at h0
  rw [Nat.one_mul, List.take_of_length_le (by rw [List.length_drop]; omega)] at h1
  obtain ⟨a, ka, wa⟩ := he.down h0
  obtain ⟨b, kb, wb⟩ := he.down h1
  refine ⟨g (a, b), ?_, by rw [hfg]; exact ⟨wa, wb⟩⟩
  show (Kd.pair d d).K w (f (g (a, b))) cs
  rw [hfg]
  exact ⟨_, _, (List.take_append_drop _ _).symm, ka, kb⟩⟩

/-- A value of more cells than one is written out. -/
theorem agg_of {v : Value} {cs : List Value} (h : v.cells.toList = cs) (hl : cs.length ≠ 1) : v = .agg cs.toArray := by
 subst h
 cases v <;> first | rfl | exact absurd rfl hl

end Go.Proofs.Ytggfiopajogiiaa.Open
end

section
set_option linter.unusedVariables false
namespace Go.Proofs.Ytggfiopajogiiaa.P
open Go.RowKit Go.Proofs.Ytggfiopajogiiaa.Open Go.Proofs.YtggfiopajogiiaaW.PrintWords
def wf51 (x : S51) : Prop := (x.f0.size ≤ maxLen) ∧ ((x.f1.size ≤ maxLen) ∧ ((True) ∧ (((Lit.int .i64 x.f3).wf = true))))
theorem opens51 : Opens Try.prog 51 k51 wf51 := opens_struct (fun a => ⟨a.1, a.2.1, a.2.2.1, a.2.2.2⟩) (fun _ => rfl) (by kernel_rfl) Try.underlying51 (fields_cons rfl (opens_string (by kernel_rfl) Try.underlying9) (fields_cons rfl (opens_string (by kernel_rfl) Try.underlying9) (fields_cons rfl (opens_bool (by kernel_rfl) Try.underlying4) (fields_one rfl (opens_int (by kernel_rfl) Try.underlying3)))))
def wf63 (x : S63) : Prop := ((Lit.int .i64 x.f0).wf = true) ∧ (((Lit.int .i64 x.f1).wf = true))
theorem opens63 : Opens Try.prog 63 k63 wf63 := opens_two (fun a => ⟨a.1, a.2⟩) (fun _ => rfl) (by kernel_rfl) Try.underlying63 (opens_int (by kernel_rfl) Try.underlying3)
def wf45 (x : S45) : Prop := (x.f0.size ≤ maxLen) ∧ (((Lit.int .i64 x.f1).wf = true) ∧ ((x.f2.length ≤ 9223372036854775807 ∧ ∀ y ∈ x.f2, (Lit.int .i64 y).wf = true) ∧ (((Lit.int .i64 x.f3).wf = true))))
theorem opens45 : Opens Try.prog 45 k45 wf45 := opens_struct (fun a => ⟨a.1, a.2.1, a.2.2.1, a.2.2.2⟩) (fun _ => rfl) (by kernel_rfl) Try.underlying45 (fields_cons rfl (opens_string (by kernel_rfl) Try.underlying9) (fields_cons rfl (opens_int (by kernel_rfl) Try.underlying3) (fields_cons rfl (opens_slice (by kernel_rfl) Try.underlying28 (opens_int (by kernel_rfl) Try.underlying41)) (fields_one rfl (opens_int (by kernel_rfl) Try.underlying3)))))
def wf27 (x : S27) : Prop := (x.f0.length ≤ 9223372036854775807 ∧ ∀ y ∈ x.f0, wf51 y) ∧ ((x.f1.length ≤ 9223372036854775807 ∧ ∀ y ∈ x.f1, wf63 y) ∧ ((x.f2.length ≤ 9223372036854775807 ∧ ∀ y ∈ x.f2, y.size ≤ maxLen) ∧ ((x.f3.length ≤ 9223372036854775807 ∧ ∀ y ∈ x.f3, wf45 y) ∧ (((Lit.int .i64 x.f4).wf = true)))))
theorem opens27 : Opens Try.prog 27 k27 wf27 := opens_struct (fun a => ⟨a.1, a.2.1, a.2.2.1, a.2.2.2.1, a.2.2.2.2⟩) (fun _ => rfl) (by kernel_rfl) Try.underlying27 (fields_cons rfl (opens_slice (by kernel_rfl) Try.underlying22 opens51) (fields_cons rfl (opens_slice (by kernel_rfl) Try.underlying23 opens63) (fields_cons rfl (opens_slice (by kernel_rfl) Try.underlying24 (opens_string (by kernel_rfl) Try.underlying9)) (fields_cons rfl (opens_slice (by kernel_rfl) Try.underlying25 opens45) (fields_one rfl (opens_int (by kernel_rfl) Try.underlying3))))))
end Go.Proofs.Ytggfiopajogiiaa.P
end

section
set_option linter.unusedVariables false
set_option linter.unusedSimpArgs false
namespace Go.Proofs.Ytggfiopajogiiaa.P
open Go.RowKit Go.Proofs.YtggfiopajogiiaaW.PrintWords Go.Proofs.YtggfiopajogiiaaW.PrintLast Go.Proofs.YtggfiopajogiiaaW.PrintMore

theorem few_end (l0 : List S51) (l1 : List S63) (l2 : List ByteArray) (l3 : List S45) (st : Int) (k : Nat) (i : Int) :
  ∃ b, syntagmlaw13_Few.j1 (k + 1) i false l0 l1 l2 l3 st = some b ∧ (b = true → l0.length ≤ 10 ∧ l2.length ≤ 8 ∧ l3.length ≤ 14 ∧ l1.length ≤ 30) := by
 unfold syntagmlaw13_Few.j1
 rw [if_neg (by decide)]
 split
 ·split
  ·split
   ·exact ⟨_, rfl, fun h => by have := of_decide_eq_true h; omega⟩
   ·exact ⟨_, rfl, fun h => by cases h⟩
  ·exact ⟨_, rfl, fun h => by cases h⟩
 ·exact ⟨_, rfl, fun h => by cases h⟩

theorem few_l0 (l0 : List S51) (l1 : List S63) (l2 : List ByteArray) (l3 : List S45) (st : Int) : ∀ (m i : Nat), i + m = 15 → ∀ k, 2 * m + 2 ≤ k →
  ∃ b, syntagmlaw13_Few.l0 k i l0 l1 l2 l3 st = some b ∧ (b = true → l0.length ≤ 10 ∧ l2.length ≤ 8 ∧ l3.length ≤ 14 ∧ l1.length ≤ 30)
 | m, i, hi, 0, hk => by omega
 | m, i, hi, 1, hk => by omega
 | 0, i, hi, k + 2, hk => by
  unfold syntagmlaw13_Few.l0
  have e : decide ((i : Int) < 15) = false := decide_eq_false (by omega)
  rw [e]
  split
  ·exact few_end l0 l1 l2 l3 st k i
  ·exact few_end l0 l1 l2 l3 st k i
 | m + 1, i, hi, k + 2, hk => by
  unfold syntagmlaw13_Few.l0
  have e : decide ((i : Int) < 15) = true := decide_eq_true (by omega)
  rw [e]
  split
  ·unfold syntagmlaw13_Few.j1
   rw [if_pos rfl, if_pos (by omega), if_pos (by assumption)]
   split
   ·exact ⟨_, rfl, fun h => by cases h⟩
   ·have w : wrap64 ((i : Int) + 1) = ((i + 1 : Nat) : Int) := by unfold wrap64; omega
    rw [w]
    exact few_l0 l0 l1 l2 l3 st m (i + 1) (by omega) k (by omega)
  ·exact few_end l0 l1 l2 l3 st k i

theorem few_is (l0 : List S51) (l1 : List S63) (l2 : List ByteArray) (l3 : List S45) (st : Int) (k : Nat) (hk : 32 ≤ k) :
  ∃ b, syntagmlaw13_Few.f k l0 l1 l2 l3 st = some b ∧ (b = true → l0.length ≤ 10 ∧ l2.length ≤ 8 ∧ l3.length ≤ 14 ∧ l1.length ≤ 30) :=
 few_l0 l0 l1 l2 l3 st 15 0 rfl k (by omega)

end Go.Proofs.Ytggfiopajogiiaa.P
end

section
set_option linter.unusedVariables false
set_option linter.unusedSimpArgs false
namespace Go.Proofs.Ytggfiopajogiiaa.P
open Go.RowKit Go.Proofs.YtggfiopajogiiaaW.PrintWords

def iter {α : Type} (F : α → α) : Nat → α → α
 | 0, x => x
 | n + 1, x => iter F n (F x)

theorem iter_succ {α : Type} (F : α → α) : ∀ (n : Nat) (x : α), iter F (n + 1) x = F (iter F n x)
 | 0, _ => rfl
 | n + 1, x => iter_succ F n (F x)

theorem iter_fixed {α : Type} (F : α → α) {x : α} (h : F x = x) : ∀ n, iter F n x = x
 | 0 => rfl
 | n + 1 => by show iter F n (F x) = x; rw [h]; exact iter_fixed F h n

theorem iter_inv {α : Type} (F : α → α) (I : α → Prop) (h : ∀ x, I x → I (F x)) : ∀ (n : Nat) (x : α), I x → I (iter F n x)
 | 0, _, hx => hx
 | n + 1, x, hx => iter_inv F I h n (F x) (h x hx)

theorem count_le_of : ∀ (xs ys : List Bool), xs.length = ys.length → (∀ i, xs.getD i false = true → ys.getD i false = true) → xs.count true ≤ ys.count true ∧ (xs.count true = ys.count true → xs = ys)
 | [], [], _, _ => ⟨Nat.le_refl _, fun _ => rfl⟩
 | x :: xs, y :: ys, hl, h => by
  have ih := count_le_of xs ys (by simpa using hl) (fun i => by have := h (i + 1); simpa using this)
  have h0 := h 0
  simp only [List.getD_cons_zero] at h0
  cases x <;> cases y
  ·simpa using ih
  ·simp only [List.count_cons]
   refine ⟨by have := ih.1; simp; omega, fun e => ?_⟩
   have := ih.1
   simp at e
   omega
  ·simp at h0
  ·simpa using ih
 | [], _ :: _, hl, _ => by simp at hl
 | _ :: _, [], hl, _ => by simp at hl

/-- A growing row of n bits that, once it stands, stands for ever, stands from its n-th state on. -/
theorem seq_stable (c : Nat → List Bool) (n : Nat) (hl : ∀ k, (c k).length = n) (hg : ∀ k i, (c k).getD i false = true → (c (k + 1)).getD i false = true) (hs : ∀ k, c k = c (k + 1) → c (k + 1) = c (k + 2)) : c n = c (n + 1) := by
 have h1 : ∀ k, (∃ j, j < k ∧ c j = c (j + 1)) ∨ k ≤ (c k).count true := by
  intro k
  induction k with
  | zero => exact .inr (Nat.zero_le _)
  | succ k ih =>
   rcases ih with ⟨j, hj, e⟩ | ih
   ·exact .inl ⟨j, by omega, e⟩
   ·by_cases e : c k = c (k + 1)
    ·exact .inl ⟨k, by omega, e⟩
    ·have := count_le_of (c k) (c (k + 1)) (by rw [hl, hl]) (hg k)
     have h2 : (c k).count true ≠ (c (k + 1)).count true := fun q => e (this.2 q)
     exact .inr (by omega)
 rcases h1 (n + 1) with ⟨j, hj, e⟩ | h
 ·have h2 : ∀ i, c (j + i) = c (j + i + 1) := by
   intro i
   induction i with
   | zero => exact e
   | succ i ih => exact hs _ ih
  have := h2 (n - j)
  rwa [show j + (n - j) = n by omega] at this
 ·have := List.count_le_length (a := true) (l := c (n + 1))
  rw [hl] at this
  omega

section
variable {β : Type}
/-- One round: each step puts a new set at its place. -/
def run (ss : List (Nat × (List β → β))) (xs : List β) : List β := ss.foldl (fun xs s => xs.set s.1 (s.2 xs)) xs
theorem run_cons (s : Nat × (List β → β)) (ss : List (Nat × (List β → β))) (xs : List β) : run (s :: ss) xs = run ss (xs.set s.1 (s.2 xs)) := rfl
theorem run_append (a b : List (Nat × (List β → β))) (xs : List β) : run (a ++ b) xs = run b (run a xs) := List.foldl_append
theorem still_at {xs : List β} {i : Nat} {v : β} (h : xs.set i v = xs) (hi : i < xs.length) : xs[i] = v := by
 have : (xs.set i v)[i]'(by rw [List.length_set]; exact hi) = v := by simp
 rw [← this]; congr 1; exact h.symm
/-- An invariant of each step is one of a round. -/
theorem run_inv (I : List β → Prop) : ∀ (ss : List (Nat × (List β → β))) (xs : List β), (∀ s ∈ ss, ∀ xs, I xs → I (xs.set s.1 (s.2 xs))) → I xs → I (run ss xs)
 | [], xs, _, hx => hx
 | s :: ss, xs, hg, hx => run_inv I ss _ (fun t ht => hg t (by simp [ht])) (hg s (by simp) xs hx)
end

class Bitty (β : Type) where
 tb : β → Nat → Bool
 ok : β → Prop
 ext : ∀ {x y : β}, ok x → ok y → (∀ b, tb x b = tb y b) → x = y
open Bitty

instance : Bitty Bool where
 tb x _ := x
 ok _ := True
 ext := fun _ _ h => h 0

section
variable {β : Type} [Bitty β]
def leB (x y : β) : Prop := ∀ b, tb x b = true → tb y b = true
theorem leB_refl (x : β) : leB x x := fun _ h => h
theorem leB_trans {x y z : β} (h1 : leB x y) (h2 : leB y z) : leB x z := fun b h => h2 b (h1 b h)
theorem leB_antisymm {x y : β} (hx : ok x) (hy : ok y) (h1 : leB x y) (h2 : leB y x) : x = y := ext hx hy fun b => by
 cases h : tb x b
 ·cases h' : tb y b
  ·rfl
  ·rw [h2 b h'] at h; exact h.symm
 ·exact (h1 b h).symm
/-- A row of n sets. -/
def okL (n : Nat) (xs : List β) : Prop := xs.length = n ∧ ∀ i (h : i < xs.length), ok xs[i]
def leL (xs ys : List β) : Prop := xs.length = ys.length ∧ ∀ i (h : i < xs.length) (h' : i < ys.length), leB xs[i] ys[i]
theorem leL_refl (xs : List β) : leL xs xs := ⟨rfl, fun _ _ _ => leB_refl _⟩
theorem leL_trans {xs ys zs : List β} (h1 : leL xs ys) (h2 : leL ys zs) : leL xs zs := ⟨h1.1.trans h2.1, fun i h h' => leB_trans (h1.2 i h (by rw [← h1.1]; exact h)) (h2.2 i (by rw [← h1.1]; exact h) h')⟩
theorem leL_antisymm {n : Nat} {xs ys : List β} (hx : okL n xs) (hy : okL n ys) (h1 : leL xs ys) (h2 : leL ys xs) : xs = ys :=
 List.ext_getElem h1.1 fun i h h' => leB_antisymm (hx.2 i h) (hy.2 i h') (h1.2 i h h') (h2.2 i h' h)

/-- Steps that only grow. -/
def Grows (n : Nat) (ss : List (Nat × (List β → β))) : Prop := ∀ s ∈ ss, ∀ xs : List β, okL n xs → ok (s.2 xs) ∧ ∀ h : s.1 < xs.length, leB xs[s.1] (s.2 xs)
theorem set_grow {n : Nat} {xs : List β} {i : Nat} {v : β} (hx : okL n xs) (hv : ok v) (h : ∀ h : i < xs.length, leB xs[i] v) : okL n (xs.set i v) ∧ leL xs (xs.set i v) := by
 refine ⟨⟨by rw [List.length_set]; exact hx.1, fun j hj => ?_⟩, by rw [List.length_set], fun j hj hj' => ?_⟩
 ·rw [List.getElem_set]
  split
  ·exact hv
  ·exact hx.2 _ _
 ·rw [List.getElem_set]
  split
  ·rename_i e; subst e; exact h hj
  ·exact leB_refl _
theorem run_ok {n : Nat} : ∀ (ss : List (Nat × (List β → β))) (xs : List β), Grows n ss → okL n xs → okL n (run ss xs) ∧ leL xs (run ss xs)
 | [], xs, _, hx => ⟨hx, leL_refl _⟩
 | s :: ss, xs, hg, hx => by
  have h1 := set_grow hx (hg s (by simp) xs hx).1 (hg s (by simp) xs hx).2
  have h2 := run_ok ss _ (fun t ht => hg t (by simp [ht])) h1.1
  exact ⟨h2.1, leL_trans h1.2 h2.2⟩
/-- A round that tells whether something changed. -/
def runF (z : β) [DecidableEq β] (ss : List (Nat × (List β → β))) (st : List β × Bool) : List β × Bool := ss.foldl (fun st s => if st.1.getD s.1 z = s.2 st.1 then st else (st.1.set s.1 (s.2 st.1), true)) st
theorem runF_eq {n : Nat} (z : β) [DecidableEq β] : ∀ (ss : List (Nat × (List β → β))) (xs : List β) (c : Bool), Grows n ss → (∀ s ∈ ss, s.1 < n) → okL n xs → runF z ss (xs, c) = (run ss xs, c || decide (run ss xs ≠ xs))
 | [], xs, c, _, _, _ => by simp [runF, run]
 | s :: ss, xs, c, hg, hi, hx => by
  have h1 := set_grow hx (hg s (by simp) xs hx).1 (hg s (by simp) xs hx).2
  have h2 := run_ok ss _ (fun t ht => hg t (by simp [ht])) h1.1
  have hlt : s.1 < xs.length := by rw [hx.1]; exact hi s (by simp)
  rw [run_cons]
  by_cases e : xs.getD s.1 z = s.2 xs
  ·have e2 : xs.set s.1 (s.2 xs) = xs := by
    rw [← e]
    apply List.ext_getElem (by simp)
    intro j h h'
    rw [List.getElem_set]
    split
    ·rename_i q; subst q; simp [List.getD, h']
    ·rfl
   rw [e2]
   show runF z ss (if xs.getD s.1 z = s.2 xs then (xs, c) else _) = _
   rw [if_pos e]
   exact runF_eq z ss xs c (fun t ht => hg t (by simp [ht])) (fun t ht => hi t (by simp [ht])) hx
  ·show runF z ss (if xs.getD s.1 z = s.2 xs then (xs, c) else (xs.set s.1 (s.2 xs), true)) = _
   rw [if_neg e, runF_eq z ss _ true (fun t ht => hg t (by simp [ht])) (fun t ht => hi t (by simp [ht])) h1.1]
   have h3 : run ss (xs.set s.1 (s.2 xs)) ≠ xs := fun q => by
    rw [q] at h2
    have h4 := leL_antisymm h1.1 hx h2.2 h1.2
    have := still_at h4 hlt
    exact e (by rw [← this]; simp [List.getD, hlt])
   rw [decide_eq_true h3]
   simp
/-- Bit by bit: what a step puts has, at a bit, what the row has at that bit to do with alone. -/
def Local (n : Nat) (ss : List (Nat × (List β → β))) : Prop := ∀ s ∈ ss, ∀ (b : Nat) (xs ys : List β), okL n xs → okL n ys → (∀ i (h : i < xs.length) (h' : i < ys.length), tb xs[i] b = tb ys[i] b) → tb (s.2 xs) b = tb (s.2 ys) b
theorem run_local {n : Nat} (b : Nat) : ∀ (ss : List (Nat × (List β → β))) (xs ys : List β), Grows n ss → Local n ss → okL n xs → okL n ys → (∀ i (h : i < xs.length) (h' : i < ys.length), tb xs[i] b = tb ys[i] b) →
  ∀ i (h : i < (run ss xs).length) (h' : i < (run ss ys).length), tb (run ss xs)[i] b = tb (run ss ys)[i] b
 | [], _, _, _, _, _, _, he => he
 | s :: ss, xs, ys, hg, hl, hx, hy, he => by
  have h1 := set_grow hx (hg s (by simp) xs hx).1 (hg s (by simp) xs hx).2
  have h2 := set_grow hy (hg s (by simp) ys hy).1 (hg s (by simp) ys hy).2
  refine run_local b ss (xs.set s.1 (s.2 xs)) (ys.set s.1 (s.2 ys)) (fun t ht => hg t (by simp [ht])) (fun t ht => hl t (by simp [ht])) h1.1 h2.1 fun i h h' => ?_
  rw [List.getElem_set, List.getElem_set]
  split
  ·exact hl s (by simp) b xs ys hx hy he
  ·exact he i _ _
/-- After n rounds a row of n sets stands still. -/
theorem run_stable {n : Nat} (ss : List (Nat × (List β → β))) (xs : List β) (hg : Grows n ss) (hl : Local n ss) (hx : okL n xs) : run ss (iter (run ss) n xs) = iter (run ss) n xs := by
 have hk : ∀ k, okL n (iter (run ss) k xs) := fun k => iter_inv (run ss) (okL n) (fun x h => (run_ok ss x hg h).1) k xs hx
 rw [← iter_succ (run ss) n xs]
 refine (List.ext_getElem (by rw [(hk n).1, (hk (n + 1)).1]) fun i h h' => ext ((hk n).2 i h) ((hk (n + 1)).2 i h') fun b => ?_).symm
 have hc := seq_stable (fun k => (iter (run ss) k xs).map (fun x => tb x b)) n (fun k => by rw [List.length_map]; exact (hk k).1) (fun k j hj => ?_) (fun k he => ?_)
 ·have hc2 : ((iter (run ss) n xs).map (fun x => tb x b))[i]'(by simpa using h) = ((iter (run ss) (n + 1) xs).map (fun x => tb x b))[i]'(by simpa using h') := by congr 1
  simpa using hc2
 ·have h3 := (run_ok ss _ hg (hk k)).2
  rw [iter_succ]
  by_cases hjn : j < n
  ·have q1 : j < (iter (run ss) k xs).length := by rw [(hk k).1]; exact hjn
   have q2 : j < (run ss (iter (run ss) k xs)).length := by rw [← h3.1]; exact q1
   simp only [List.getD, List.getElem?_map, List.getElem?_eq_getElem q1, List.getElem?_eq_getElem q2, Option.map_some, Option.getD_some] at hj ⊢
   exact h3.2 j q1 q2 b hj
  ·have q1 : (iter (run ss) k xs).length ≤ j := by rw [(hk k).1]; omega
   simp [List.getD, List.getElem?_eq_none q1] at hj
 ·rw [iter_succ _ (k + 1), iter_succ _ k]
  have q : ∀ i (h : i < (iter (run ss) k xs).length) (h' : i < (iter (run ss) (k + 1) xs).length), tb (iter (run ss) k xs)[i] b = tb (iter (run ss) (k + 1) xs)[i] b := fun i h h' => by
   have : ((iter (run ss) k xs).map (fun x => tb x b))[i]'(by simpa using h) = ((iter (run ss) (k + 1) xs).map (fun x => tb x b))[i]'(by simpa using h') := by congr 1
   simpa using this
  have q2 := run_local b ss _ _ hg hl (hk k) (hk (k + 1)) q
  rw [iter_succ _ k] at q2
  refine List.ext_getElem ?_ fun i h h' => ?_
  ·simp only [List.length_map]
   rw [← iter_succ (run ss), ← iter_succ (run ss), (hk _).1, (hk _).1]
  ·simpa using q2 i (by simpa using h) (by simpa using h')
end

/-- A function that goes on till its round changes nothing comes to where that stands still. -/
theorem grow_ends {α : Type} [DecidableEq α] (g : Nat → α → Option α) (pass : α → α × Bool) (F : α → α) (I : α → Prop) (hg : ∀ k x, g (k + 1) x = if (pass x).2 = true then g k (pass x).1 else some (pass x).1) (hI : ∀ x, I x → I (F x))
  (hp : ∀ x, I x → pass x = (F x, decide (F x ≠ x))) : ∀ (m : Nat) (x : α), I x → F (iter F m x) = iter F m x → ∀ k, m + 1 ≤ k → g k x = some (iter F m x)
 | m, x, hx, hs, 0, hk => by omega
 | 0, x, hx, hs, k + 1, hk => by
  have hs' : F x = x := hs
  rw [hg, hp x hx, hs']
  simp [iter]
 | m + 1, x, hx, hs, k + 1, hk => by
  rw [hg, hp x hx]
  by_cases e : F x = x
  ·rw [iter_fixed F e, e]; simp
  ·rw [decide_eq_true e, if_pos rfl]
   exact grow_ends g pass F I hg hI hp m (F x) (hI x hx) hs k (by omega)

end Go.Proofs.Ytggfiopajogiiaa.P

set_option linter.unusedVariables false
set_option linter.unusedSimpArgs false
namespace Go.Proofs.Ytggfiopajogiiaa.P
open Go.RowKit Go.Proofs.YtggfiopajogiiaaW.PrintWords Go.Proofs.YtggfiopajogiiaaW.PrintLast Go.Proofs.YtggfiopajogiiaaW.PrintMore Bitty

/-! ### sets of numbers below 64 -/
instance : Bitty Int where
 tb x b := x.toNat.testBit b
 ok x := 0 ≤ x ∧ x < 18446744073709551616
 ext := fun {x y} hx hy h => by
  have := Nat.eq_of_testBit_eq h
  omega

theorem ok_zero : ok (0 : Int) := ⟨by omega, by omega⟩
theorem tb_zero (b : Nat) : tb (0 : Int) b = false := Nat.zero_testBit b
theorem or_nat {x y : Int} (hx : ok x) (hy : ok y) : Go.bits .or .u64 x y = ((x.toNat ||| y.toNat : Nat) : Int) := by
 have h1 : x = ((x.toNat : Nat) : Int) := by have := hx.1; omega
 have h2 : y = ((y.toNat : Nat) : Int) := by have := hy.1; omega
 have h3 := hx.2
 have h4 := hy.2
 generalize x.toNat = a at *
 generalize y.toNat = b at *
 subst h1
 subst h2
 exact bits_or_u64_nat a b (by omega) (by omega)
theorem or_ok {x y : Int} (hx : ok x) (hy : ok y) : ok (Go.bits .or .u64 x y) := by
 rw [or_nat hx hy]
 have h3 := hx.2
 have h4 := hy.2
 have := Nat.or_lt_two_pow (n := 64) (x := x.toNat) (y := y.toNat) (by omega) (by omega)
 exact ⟨by omega, by omega⟩
theorem or_tb {x y : Int} (hx : ok x) (hy : ok y) (b : Nat) : tb (Go.bits .or .u64 x y) b = (tb x b || tb y b) := by
 rw [or_nat hx hy]
 show Nat.testBit (Int.toNat _) b = _
 rw [Int.toNat_natCast, Nat.testBit_or]
 rfl
theorem bit_some (n : Int) (h0 : 0 ≤ n) (h1 : n < 64) : bits_bit.f n = some ((2 ^ n.toNat : Nat) : Int) := by
 unfold bits_bit.f
 rw [if_neg (by omega), if_neg (by omega), if_pos h0]
 have hn : n.toNat < 64 := by omega
 have hp : 2 ^ n.toNat < 18446744073709551616 := Nat.pow_lt_pow_right (by decide) hn
 unfold shl
 rw [show min n.toNat (IntKind.bits .u64) = n.toNat from Nat.min_eq_left (Nat.le_of_lt hn), IntKind.wrap_u64, Int.one_mul]
 have e : ((2 : Int) ^ n.toNat) = ((2 ^ n.toNat : Nat) : Int) := by simp
 rw [e]
 generalize 2 ^ n.toNat = p at hp
 congr 1
 omega
theorem bit_ok (n : Int) (h0 : 0 ≤ n) (h1 : n < 64) : ok ((2 ^ n.toNat : Nat) : Int) := by
 have hp : 2 ^ n.toNat < 18446744073709551616 := Nat.pow_lt_pow_right (by decide) (by omega : n.toNat < 64)
 generalize 2 ^ n.toNat = q at hp ⊢
 exact ⟨by omega, by omega⟩
theorem bit_tb (n b : Nat) : tb ((2 ^ n : Nat) : Int) b = decide (n = b) := by
 show Nat.testBit (Int.toNat _) b = _
 rw [Int.toNat_natCast, Nat.testBit_two_pow]
theorem with_some (out n : Int) (h0 : 0 ≤ n) (h1 : n < 64) : bits_With.f out n = some (Go.bits .or .u64 out ((2 ^ n.toNat : Nat) : Int)) := by
 unfold bits_With.f
 rw [bit_some n h0 h1]
 rfl
theorem of_one (k : Nat) (hk : 2 ≤ k) (n : Int) (h0 : 0 ≤ n) (h1 : n < 64) : bits_Of.f k [n] = some ((2 ^ n.toNat : Nat) : Int) := by
 obtain ⟨k, rfl⟩ : ∃ j, k = j + 2 := ⟨k - 2, by omega⟩
 have e : rd [n] 0 = n := rfl
 have w1 : wrap64 (0 + 1) = 1 := by unfold wrap64; omega
 unfold bits_Of.f bits_Of.l0 bits_Of.l0
 simp only [List.length_cons, List.length_nil]
 rw [if_pos (by omega), if_pos (by omega), if_pos (by omega), e, bit_some n h0 h1, Option.bind_some, w1, if_neg (by omega), or_nat ok_zero (bit_ok n h0 h1)]
 have hp : Int.toNat ((2 ^ n.toNat : Nat) : Int) = 2 ^ n.toNat := Int.toNat_natCast _
 rw [hp]
 simp

/-! ### rows -/
section
variable (nT nS : Int) (es : List Bool)
def rowB (fs : List Int) (behind : Int) (b : Nat) : List Int → Bool
 | [] => tb behind b
 | s :: l => if nT ≤ s ∨ s < -nS then false else if 0 ≤ s then decide (s.toNat = b) else tb (rd fs (-1 - s)) b || (rdOf false es (-1 - s) && rowB fs behind b l)

theorem rowF_bits (hT : nT ≤ 60) (fs : List Int) (behind : Int) (hfs : ∀ i, ok (rd fs i)) (hb : ok behind) : ∀ (l : List Int) (out : Int), ok out →
  ∃ q, rowF nT nS es fs behind l out = some q ∧ ok q ∧ ∀ b, tb q b = (tb out b || rowB nT nS es fs behind b l)
 | [], out, ho => ⟨_, rfl, or_ok ho hb, fun b => or_tb ho hb b⟩
 | s :: l, out, ho => by
  by_cases h1 : nT ≤ s ∨ s < -nS
  ·refine ⟨out, by unfold rowF; rw [if_pos h1], ho, fun b => ?_⟩
   unfold rowB; rw [if_pos h1, Bool.or_false]
  ·by_cases h2 : 0 ≤ s
   ·refine ⟨_, by unfold rowF; rw [if_neg h1, if_pos h2]; exact with_some out s h2 (by omega), or_ok ho (bit_ok s h2 (by omega)), fun b => ?_⟩
    rw [or_tb ho (bit_ok s h2 (by omega)), bit_tb]
    unfold rowB; rw [if_neg h1, if_pos h2]
   ·have hu : bits_Union.f out (rd fs (-1 - s)) = some (Go.bits .or .u64 out (rd fs (-1 - s))) := rfl
    have ho2 := or_ok ho (hfs (-1 - s))
    cases he : rdOf false es (-1 - s)
    ·refine ⟨_, by unfold rowF; rw [if_neg h1, if_neg h2, hu, Option.bind_some, he, if_neg (by decide)], ho2, fun b => ?_⟩
     rw [or_tb ho (hfs _)]
     unfold rowB; rw [if_neg h1, if_neg h2, he, Bool.false_and, Bool.or_false]
    ·obtain ⟨q, q1, q2, q3⟩ := rowF_bits hT fs behind hfs hb l _ ho2
     refine ⟨q, by unfold rowF; rw [if_neg h1, if_neg h2, hu, Option.bind_some, he, if_pos rfl]; exact q1, q2, fun b => ?_⟩
     rw [q3, or_tb ho (hfs _)]
     conv => rhs; unfold rowB
     rw [if_neg h1, if_neg h2, he, Bool.true_and, Bool.or_assoc]

/-- With what a row begins. -/
def rowV (fs : List Int) (behind : Int) (l : List Int) : Int := (rowF nT nS es fs behind l 0).getD 0
theorem rowV_has (hT : nT ≤ 60) (fs : List Int) (behind : Int) (hfs : ∀ i, ok (rd fs i)) (hb : ok behind) (l : List Int) :
  rowF nT nS es fs behind l 0 = some (rowV nT nS es fs behind l) ∧ ok (rowV nT nS es fs behind l) ∧ ∀ b, tb (rowV nT nS es fs behind l) b = rowB nT nS es fs behind b l := by
 obtain ⟨q, q1, q2, q3⟩ := rowF_bits nT nS es hT fs behind hfs hb l 0 ok_zero
 unfold rowV
 rw [q1]
 exact ⟨rfl, q2, fun b => by rw [Option.getD_some, q3, tb_zero, Bool.false_or]⟩
theorem rowB_local (b : Nat) (fs gs : List Int) (u v : Int) (huv : tb u b = tb v b) (h : ∀ i, tb (rd fs i) b = tb (rd gs i) b) : ∀ l, rowB nT nS es fs u b l = rowB nT nS es gs v b l
 | [] => huv
 | s :: l => by unfold rowB; rw [h, rowB_local b fs gs u v huv h l]
end

theorem ok_rd {n : Nat} {xs : List Int} (h : okL n xs) (i : Int) : ok (rd xs i) := by
 unfold rd
 by_cases hi : i.toNat < xs.length
 ·have e : xs.getD i.toNat 0 = xs[i.toNat] := by simp [List.getD, hi]
  rw [e]; exact h.2 _ hi
 ·have e : xs.getD i.toNat 0 = 0 := by simp [List.getD, List.getElem?_eq_none (Nat.le_of_not_lt hi)]
  rw [e]; exact ok_zero
theorem okL_zero (n : Nat) : okL n (List.replicate n (0 : Int)) := ⟨List.length_replicate, fun i h => by rw [List.getElem_replicate]; exact ok_zero⟩
theorem okL_bool (n : Nat) (xs : List Bool) (h : xs.length = n) : okL n xs := ⟨h, fun _ _ => trivial⟩

/-! ### the steps -/
theorem passG_run {β : Type} [DecidableEq β] (z : β) (more : List β → S45 → β) : ∀ (ps : List S45) (st : List β × Bool), passG z more ps st = runF z (ps.map fun p => (p.f1.toNat, fun xs => more xs p)) st
 | [], _ => rfl
 | p :: ps, st => passG_run z more ps _

theorem growG_ends {β : Type} [DecidableEq β] [Bitty β] (z : β) (more : List β → S45 → β) (ps : List S45) (n : Nat) (xs : List β) (hx : okL n xs)
  (hg : Grows n (ps.map fun p => (p.f1.toNat, fun xs => more xs p))) (hl : Local n (ps.map fun p => (p.f1.toNat, fun xs => more xs p))) (hi : ∀ p ∈ ps, p.f1.toNat < n) (k : Nat) (hk : n + 1 ≤ k) :
  growG z more ps k xs = some (iter (run (ps.map fun p => (p.f1.toNat, fun xs => more xs p))) n xs) := by
 refine grow_ends (growG z more ps) (fun xs => passG z more ps (xs, false)) (run (ps.map fun p => (p.f1.toNat, fun xs => more xs p))) (okL n) (fun k x => rfl) (fun x h => (run_ok _ x hg h).1) (fun x h => ?_) n xs hx (run_stable _ xs hg hl hx) k hk
 rw [passG_run, runF_eq z _ x false hg (fun s hs => ?_) h, Bool.false_or]
 obtain ⟨p, hp, rfl⟩ := List.mem_map.1 hs
 exact hi p hp

/-- What is told by induction of all that grew. -/
theorem least {β : Type} [Bitty β] (z : β) {n : Nat} (ss : List (Nat × (List β → β))) (xs0 : List β) (hg : Grows n ss) (hx : okL n xs0) (C : Nat → Nat → Prop)
  (h0 : ∀ i b, i < n → tb (xs0.getD i z) b = true → C i b) (hs : ∀ s ∈ ss, ∀ xs, okL n xs → (∀ i b, i < n → tb (xs.getD i z) b = true → C i b) → ∀ b, tb (s.2 xs) b = true → C s.1 b) :
  ∀ (m : Nat) i b, i < n → tb ((iter (run ss) m xs0).getD i z) b = true → C i b := fun m => by
 have hall : ∀ xs, okL n xs ∧ (∀ i b, i < n → tb (xs.getD i z) b = true → C i b) → okL n (run ss xs) ∧ (∀ i b, i < n → tb ((run ss xs).getD i z) b = true → C i b) := fun xs hxs =>
  run_inv (fun xs => okL n xs ∧ (∀ i b, i < n → tb (xs.getD i z) b = true → C i b)) ss xs (fun s hs' xs h => ⟨(set_grow h.1 (hg s hs' xs h.1).1 (hg s hs' xs h.1).2).1, fun i b hi hb => by
   have hlen : i < xs.length := by rw [h.1.1]; exact hi
   have e : (xs.set s.1 (s.2 xs)).getD i z = if s.1 = i then s.2 xs else xs[i] := by
    rw [List.getD, List.getElem?_eq_getElem (by rw [List.length_set]; exact hlen), Option.getD_some, List.getElem_set]
   rw [e] at hb
   split at hb
   ·rename_i q; subst q; exact hs s hs' xs h.1 h.2 b hb
   ·refine h.2 i b hi ?_
    rw [List.getD, List.getElem?_eq_getElem hlen, Option.getD_some]
    exact hb⟩) hxs
 exact (iter_inv (run ss) (fun xs => okL n xs ∧ (∀ i b, i < n → tb (xs.getD i z) b = true → C i b)) hall m xs0 ⟨hx, h0⟩).2

end Go.Proofs.Ytggfiopajogiiaa.P

set_option linter.unusedVariables false
set_option linter.unusedSimpArgs false
namespace Go.Proofs.Ytggfiopajogiiaa.P
open Go.RowKit Go.Proofs.YtggfiopajogiiaaW.PrintWords Go.Proofs.YtggfiopajogiiaaW.PrintLast Go.Proofs.YtggfiopajogiiaaW.PrintMore Bitty

structure Gram (nT nS : Nat) (ps : List S45) : Prop where
 hT : nT ≤ 60
 hS : nS ≤ 60
 srt : ∀ p ∈ ps, 0 ≤ p.f1 ∧ p.f1 < nS
 sym : ∀ p ∈ ps, ∀ s ∈ p.f2, -(nS : Int) ≤ s ∧ s < nT

theorem gram_of {l0 : List S51} {l1 : List S63} {l2 : List ByteArray} {l3 : List S45} {st : Int} (h : validB l0 l1 l2 l3 st = true) (hr : ∀ p ∈ l3, ∀ s ∈ p.f2, -9223372036854775808 ≤ s ∧ s ≤ 9223372036854775807) :
  Gram l0.length l2.length l3 ∧ 0 ≤ st ∧ st < l2.length := by
 have hT := valid_terms h
 obtain ⟨h0, h1, h2⟩ := valid_has h
 simp only [validB, Bool.and_eq_true, Bool.not_eq_true', decide_eq_false_iff_not, List.all_eq_true] at h
 obtain ⟨⟨⟨⟨⟨⟨⟨⟨-, -⟩, -⟩, -⟩, -⟩, h5⟩, -⟩, -⟩, -⟩ := h
 refine ⟨⟨by omega, by omega, fun p hp => (h2 p hp).1, fun p hp s hs => ?_⟩, h1⟩
 have := h5 p hp
 simp only [prodB, Bool.and_eq_true, Bool.not_eq_true', decide_eq_false_iff_not] at this
 obtain ⟨⟨h6, h7⟩, h8⟩ := this
 have h9 : ¬ oddB l0.length l2.length s = true := fun ho => by
  have : p.f2.any (oddB l0.length l2.length) = true := List.any_eq_true.2 ⟨s, hs, ho⟩
  rw [h8] at this; cases this
 have hb := hr p hp s hs
 by_cases hneg : s < 0
 ·have h10 := (h2 p hp).2 s hs hneg
  rw [IntWalk.i64_in _ (by omega)] at h10
  omega
 ·have hn : decide (0 ≤ s) = true := decide_eq_true (by omega)
  have hy : decide (s < 0) = false := decide_eq_false hneg
  simp only [oddB, hn, hy, Bool.false_and, Bool.or_false, Bool.true_and, Bool.not_eq_true', Bool.not_eq_true, Bool.not_eq_false] at h9
  have h10 : 0 ≤ s ∧ s < l0.length := by simpa [inB] using h9
  omega

theorem wrap_neg {s : Int} (h0 : -60 ≤ s) (h1 : s < 0) : IntKind.i64.wrap (-1 - s) = -1 - s := IntWalk.i64_in _ (by omega)

theorem local_bool {n : Nat} (ss : List (Nat × (List Bool → Bool))) : Local n ss := fun s _ b xs ys hx hy h => by
 have : xs = ys := List.ext_getElem (by rw [hx.1, hy.1]) fun i h1 h2 => h i h1 h2
 rw [this]

section
variable {nT nS : Nat} {ps : List S45} (hG : Gram nT nS ps)
include hG
theorem srt_lt (p : S45) (hp : p ∈ ps) : p.f1.toNat < nS := by have := hG.srt p hp; omega
theorem sym_in (p : S45) (hp : p ∈ ps) (s : Int) (hs : s ∈ p.f2) (hn : s < 0) : IntKind.i64.wrap (-1 - s) = -1 - s ∧ 0 ≤ -1 - s ∧ (-1 - s).toNat < nS := by
 have h1 := hG.sym p hp s hs
 have h2 := hG.hS
 exact ⟨wrap_neg (by omega) hn, by omega, by omega⟩
end

theorem getD_at {β : Type} (z : β) (xs : List β) (i : Nat) (h : i < xs.length) : xs.getD i z = xs[i] := by rw [List.getD, List.getElem?_eq_getElem h, Option.getD_some]

/-! ### Empty, Lives -/
section
variable (term : Bool) {nT nS : Nat} {ps : List S45}
def allS (term : Bool) (ps : List S45) : List (Nat × (List Bool → Bool)) := ps.map fun p => (p.f1.toNat, fun xs => moreB term xs p)
def allR (term : Bool) (nS : Nat) (ps : List S45) : List Bool := iter (run (allS term ps)) nS (List.replicate nS false)
theorem allS_grows : Grows nS (allS term ps) := fun s hs xs hx => ⟨trivial, fun h b hb => by
 obtain ⟨p, hp, rfl⟩ := List.mem_map.1 hs
 have hb' : xs[p.f1.toNat] = true := hb
 show moreB term xs p = true
 unfold moreB
 split
 ·show xs.getD p.f1.toNat false = true
  rw [getD_at false xs _ h]; exact hb'
 ·rfl⟩
theorem allR_len : (allR term nS ps).length = nS := (iter_inv (run (allS term ps)) (okL nS) (fun x h => (run_ok _ x (allS_grows term) h).1) nS _ (okL_bool _ _ List.length_replicate)).1
theorem allR_still : run (allS term ps) (allR term nS ps) = allR term nS ps := run_stable _ _ (allS_grows term) (local_bool _) (okL_bool _ _ List.length_replicate)
variable (hG : Gram nT nS ps)
include hG
theorem allR_is (k : Nat) (hk : nS + 1 ≤ k) : growG false (moreB term) ps k (List.replicate nS false) = some (allR term nS ps) :=
 growG_ends false (moreB term) ps nS _ (okL_bool _ _ List.length_replicate) (allS_grows term) (local_bool _) (srt_lt hG) k hk
end

/-! ### First -/
section
variable {nT nS : Nat} {es : List Bool} {ps : List S45}
def firS (nT nS : Nat) (es : List Bool) (ps : List S45) : List (Nat × (List Int → Int)) := ps.map fun p => (p.f1.toNat, fun xs => moreS nT nS es xs p)
def firR (nT nS : Nat) (es : List Bool) (ps : List S45) : List Int := iter (run (firS nT nS es ps)) nS (List.replicate nS 0)
theorem moreS_has (hT : nT ≤ 60) (xs : List Int) (hx : okL nS xs) (p : S45) : ok (moreS nT nS es xs p) ∧ ∀ b, tb (moreS nT nS es xs p) b = (tb (rdOf 0 xs p.f1) b || rowB nT nS es xs 0 b p.f2) := by
 obtain ⟨r1, r2, r3⟩ := rowV_has nT nS es (by omega) xs 0 (ok_rd hx) ok_zero p.f2
 have h0 : ok (rdOf 0 xs p.f1) := ok_rd hx p.f1
 have e : moreS nT nS es xs p = Go.bits .or .u64 (rdOf 0 xs p.f1) (rowV nT nS es xs 0 p.f2) := rfl
 rw [e]
 exact ⟨or_ok h0 r2, fun b => by rw [or_tb h0 r2, r3]⟩
theorem firS_grows (hT : nT ≤ 60) : Grows nS (firS nT nS es ps) := fun s hs xs hx => by
 obtain ⟨p, hp, rfl⟩ := List.mem_map.1 hs
 obtain ⟨h1, h2⟩ := moreS_has (es := es) hT xs hx p
 refine ⟨h1, fun h b hb => ?_⟩
 have e : rdOf 0 xs p.f1 = xs[p.f1.toNat] := getD_at 0 xs _ h
 rw [h2, e, hb, Bool.true_or]
theorem rd_local {n b : Nat} {xs ys : List Int} (hx : okL n xs) (hy : okL n ys) (h : ∀ i (h : i < xs.length) (h' : i < ys.length), tb xs[i] b = tb ys[i] b) (i : Int) : tb (rd xs i) b = tb (rd ys i) b := by
 unfold rd
 by_cases hi : i.toNat < n
 ·have h1 : i.toNat < xs.length := by rw [hx.1]; exact hi
  have h2 : i.toNat < ys.length := by rw [hy.1]; exact hi
  rw [getD_at 0 xs _ h1, getD_at 0 ys _ h2]; exact h _ h1 h2
 ·have h1 : xs.length ≤ i.toNat := by rw [hx.1]; omega
  have h2 : ys.length ≤ i.toNat := by rw [hy.1]; omega
  simp [List.getD, List.getElem?_eq_none h1, List.getElem?_eq_none h2]
theorem firS_local (hT : nT ≤ 60) : Local nS (firS nT nS es ps) := fun s hs b xs ys hx hy h => by
 obtain ⟨p, hp, rfl⟩ := List.mem_map.1 hs
 show tb (moreS nT nS es xs p) b = tb (moreS nT nS es ys p) b
 rw [(moreS_has hT xs hx p).2, (moreS_has hT ys hy p).2, show tb (rdOf 0 xs p.f1) b = tb (rdOf 0 ys p.f1) b from rd_local hx hy h p.f1, rowB_local nT nS es b xs ys 0 0 rfl (rd_local hx hy h)]
variable (hG : Gram nT nS ps)
include hG
theorem firR_is (k : Nat) (hk : nS + 1 ≤ k) : growG (0 : Int) (moreS nT nS es) ps k (List.replicate nS 0) = some (firR nT nS es ps) :=
 growG_ends 0 (moreS nT nS es) ps nS _ (okL_zero nS) (firS_grows hG.hT) (firS_local hG.hT) (srt_lt hG) k hk
theorem firR_ok : okL nS (firR nT nS es ps) := iter_inv (run (firS nT nS es ps)) (okL nS) (fun x h => (run_ok _ x (firS_grows hG.hT) h).1) nS _ (okL_zero nS)
theorem firR_still : run (firS nT nS es ps) (firR nT nS es ps) = firR nT nS es ps := run_stable _ _ (firS_grows hG.hT) (firS_local hG.hT) (okL_zero nS)
end

end Go.Proofs.Ytggfiopajogiiaa.P

set_option linter.unusedVariables false
set_option linter.unusedSimpArgs false
namespace Go.Proofs.Ytggfiopajogiiaa.P
open Go.RowKit Go.Proofs.YtggfiopajogiiaaW.PrintWords Go.Proofs.YtggfiopajogiiaaW.PrintLast Go.Proofs.YtggfiopajogiiaaW.PrintMore Bitty

theorem set_getD {β : Type} (z : β) (xs : List β) (i : Nat) : xs.set i (xs.getD i z) = xs := by
 apply List.ext_getElem (by simp)
 intro j h h'
 rw [List.getElem_set]
 split
 ·rename_i q; subst q; exact getD_at z xs i h'
 ·rfl

section
variable (nT nS : Int) (es : List Bool) (fs : List Int)
def symS (srt : Int) : List Int → List (Nat × (List Int → Int))
 | [] => []
 | s :: l => if 0 ≤ s then symS srt l else ((IntKind.i64.wrap (-1 - s)).toNat, fun out => folMore nT nS es fs srt s l out) :: symS srt l
def folS (ps : List S45) : List (Nat × (List Int → Int)) := ps.flatMap fun p => symS nT nS es fs p.f1 p.f2
theorem runF_append (z : Int) (a b : List (Nat × (List Int → Int))) (st : List Int × Bool) : runF z (a ++ b) st = runF z b (runF z a st) := List.foldl_append
theorem folSym_run (srt : Int) : ∀ (l : List Int) (st : List Int × Bool), folSym nT nS es fs srt l st = runF 0 (symS nT nS es fs srt l) st
 | [], _ => rfl
 | s :: l, st => by
  unfold folSym symS
  rw [folSym_run srt l]
  by_cases h : 0 ≤ s
  ·rw [if_pos h, if_pos h]
  ·rw [if_neg h, if_neg h]
   show _ = runF 0 (symS nT nS es fs srt l) (if st.1.getD (IntKind.i64.wrap (-1 - s)).toNat 0 = folMore nT nS es fs srt s l st.1 then st else (st.1.set (IntKind.i64.wrap (-1 - s)).toNat (folMore nT nS es fs srt s l st.1), true))
   congr 1
   by_cases e : st.1.getD (IntKind.i64.wrap (-1 - s)).toNat 0 = folMore nT nS es fs srt s l st.1
   ·rw [if_pos e, ← e, set_getD]
    have : rdOf 0 st.1 (IntKind.i64.wrap (-1 - s)) = st.1.getD (IntKind.i64.wrap (-1 - s)).toNat 0 := rfl
    rw [this]
    simp
   ·rw [if_neg e]
    have : folMore nT nS es fs srt s l st.1 ≠ rdOf 0 st.1 (IntKind.i64.wrap (-1 - s)) := fun q => e q.symm
    rw [decide_eq_true this, Bool.or_true]
theorem folPass_run : ∀ (ps : List S45) (st : List Int × Bool), folPass nT nS es fs ps st = runF 0 (folS nT nS es fs ps) st
 | [], _ => rfl
 | p :: ps, st => by
  have e : folS nT nS es fs (p :: ps) = symS nT nS es fs p.f1 p.f2 ++ folS nT nS es fs ps := by simp [folS]
  rw [e, runF_append, ← folSym_run]
  exact folPass_run ps _
theorem symS_mem (srt : Int) : ∀ (l : List Int) (x : Nat × (List Int → Int)), x ∈ symS nT nS es fs srt l ↔ ∃ a s l', l = a ++ s :: l' ∧ s < 0 ∧ x = ((IntKind.i64.wrap (-1 - s)).toNat, fun out => folMore nT nS es fs srt s l' out)
 | [], x => by simp [symS]
 | s :: l, x => by
  have ih := symS_mem srt l x
  unfold symS
  constructor
  ·intro h
   by_cases h0 : 0 ≤ s
   ·rw [if_pos h0] at h
    obtain ⟨a, s', l', e, h1, h2⟩ := ih.1 h
    exact ⟨s :: a, s', l', by rw [e]; rfl, h1, h2⟩
   ·rw [if_neg h0] at h
    rcases List.mem_cons.1 h with h | h
    ·exact ⟨[], s, l, rfl, by omega, h⟩
    ·obtain ⟨a, s', l', e, h1, h2⟩ := ih.1 h
     exact ⟨s :: a, s', l', by rw [e]; rfl, h1, h2⟩
  ·rintro ⟨a, s', l', e, h1, h2⟩
   cases a with
   | nil =>
    have e1 : s = s' := by simpa using (List.cons.inj e).1
    have e2 : l = l' := (List.cons.inj e).2
    subst e1
    subst e2
    rw [if_neg (by omega), h2]
    exact List.mem_cons_self
   | cons y a =>
    have e2 : l = a ++ s' :: l' := (List.cons.inj e).2
    have h3 := ih.2 ⟨a, s', l', e2, h1, h2⟩
    split
    ·exact h3
    ·exact List.mem_cons_of_mem _ h3
theorem folS_mem (ps : List S45) (x : Nat × (List Int → Int)) : x ∈ folS nT nS es fs ps ↔ ∃ p ∈ ps, ∃ a s l, p.f2 = a ++ s :: l ∧ s < 0 ∧ x = ((IntKind.i64.wrap (-1 - s)).toNat, fun out => folMore nT nS es fs p.f1 s l out) := by
 simp only [folS, List.mem_flatMap, symS_mem]
end

section
variable {nT nS : Nat} {es : List Bool} {fs : List Int} {ps : List S45} {st : Int}
theorem folMore_has (hT : nT ≤ 60) (hf : okL nS fs) (srt s : Int) (l : List Int) (xs : List Int) (hx : okL nS xs) : ok (folMore nT nS es fs srt s l xs) ∧ ∀ b, tb (folMore nT nS es fs srt s l xs) b = (tb (rd xs (IntKind.i64.wrap (-1 - s))) b || rowB nT nS es fs (rd xs srt) b l) := by
 have h0 : ok (rd xs (IntKind.i64.wrap (-1 - s))) := ok_rd hx _
 have h1 : ok (rd xs srt) := ok_rd hx _
 obtain ⟨r1, r2, r3⟩ := rowV_has nT nS es (by omega) fs (rd xs srt) (ok_rd hf) h1 l
 have e : folMore nT nS es fs srt s l xs = Go.bits .or .u64 (rd xs (IntKind.i64.wrap (-1 - s))) (rowV nT nS es fs (rd xs srt) l) := rfl
 rw [e]
 exact ⟨or_ok h0 r2, fun b => by rw [or_tb h0 r2, r3]⟩
theorem folS_grows (hT : nT ≤ 60) (hf : okL nS fs) : Grows nS (folS nT nS es fs ps) := fun x hx xs hxs => by
 obtain ⟨p, hp, a, s, l, e, hs, rfl⟩ := (folS_mem _ _ _ _ _ _).1 hx
 obtain ⟨h1, h2⟩ := folMore_has (es := es) hT hf p.f1 s l xs hxs
 refine ⟨h1, fun h b hb => ?_⟩
 have e2 : rd xs (IntKind.i64.wrap (-1 - s)) = xs[(IntKind.i64.wrap (-1 - s)).toNat] := getD_at 0 xs _ h
 rw [h2, e2, hb, Bool.true_or]
theorem folS_local (hT : nT ≤ 60) (hf : okL nS fs) : Local nS (folS nT nS es fs ps) := fun x hx b xs ys hxs hys h => by
 obtain ⟨p, hp, a, s, l, e, hs, rfl⟩ := (folS_mem _ _ _ _ _ _).1 hx
 show tb (folMore nT nS es fs p.f1 s l xs) b = tb (folMore nT nS es fs p.f1 s l ys) b
 rw [(folMore_has hT hf p.f1 s l xs hxs).2, (folMore_has hT hf p.f1 s l ys hys).2, rd_local hxs hys h, rowB_local nT nS es b fs fs (rd xs p.f1) (rd ys p.f1) (rd_local hxs hys h p.f1) (fun _ => rfl)]
def fol0 (nS : Nat) (st : Int) : List Int := (List.replicate nS 0).set st.toNat ((2 ^ 63 : Nat) : Int)
def folR (nT nS : Nat) (es : List Bool) (fs : List Int) (ps : List S45) (st : Int) : List Int := iter (run (folS nT nS es fs ps)) nS (fol0 nS st)
theorem fol0_ok : okL nS (fol0 nS st) := by
 refine ⟨by rw [fol0, List.length_set, List.length_replicate], fun i h => ?_⟩
 simp only [fol0, List.getElem_set]
 split
 ·exact ⟨by decide, by decide⟩
 ·rw [List.getElem_replicate]; exact ok_zero
variable (hG : Gram nT nS ps) (hf : okL nS fs)
include hG hf
theorem folR_is (k : Nat) (hk : nS + 1 ≤ k) : folG nT nS es fs ps k (fol0 nS st) = some (folR nT nS es fs ps st) := by
 have hg : Grows nS (folS nT nS es fs ps) := folS_grows hG.hT hf
 refine grow_ends (folG nT nS es fs ps) (fun xs => folPass nT nS es fs ps (xs, false)) (run (folS nT nS es fs ps)) (okL nS) (fun k x => rfl) (fun x h => (run_ok _ x hg h).1) (fun x h => ?_) nS _ fol0_ok (run_stable _ _ hg (folS_local hG.hT hf) fol0_ok) k hk
 rw [folPass_run, runF_eq 0 _ x false hg (fun s hs => ?_) h, Bool.false_or]
 obtain ⟨p, hp, a, s, l, e, hn, rfl⟩ := (folS_mem _ _ _ _ _ _).1 hs
 have := sym_in hG p hp s (by rw [e]; simp) hn
 show (IntKind.i64.wrap (-1 - s)).toNat < nS
 rw [this.1]; exact this.2.2
theorem folR_ok : okL nS (folR nT nS es fs ps st) := iter_inv (run (folS nT nS es fs ps)) (okL nS) (fun x h => (run_ok _ x (folS_grows hG.hT hf) h).1) nS _ fol0_ok
theorem folR_still : run (folS nT nS es fs ps) (folR nT nS es fs ps st) = folR nT nS es fs ps st := run_stable _ _ (folS_grows hG.hT hf) (folS_local hG.hT hf) fol0_ok
end

end Go.Proofs.Ytggfiopajogiiaa.P

set_option linter.unusedVariables false
set_option linter.unusedSimpArgs false
namespace Go.Proofs.Ytggfiopajogiiaa.P
open Go.RowKit Go.Proofs.YtggfiopajogiiaaW.PrintWords Go.Proofs.YtggfiopajogiiaaW.PrintLast Go.Proofs.YtggfiopajogiiaaW.PrintMore Bitty

/-- A grammar that is in order, with its parts' numbers within what numbers there are. -/
structure Order (l0 : List S51) (l1 : List S63) (l2 : List ByteArray) (l3 : List S45) (st : Int) : Prop where
 valid : validB l0 l1 l2 l3 st = true
 gram : Gram l0.length l2.length l3
 lo : 0 ≤ st
 hi : st < l2.length
theorem order_of {l0 : List S51} {l1 : List S63} {l2 : List ByteArray} {l3 : List S45} {st : Int} (h : validB l0 l1 l2 l3 st = true) (hr : ∀ p ∈ l3, ∀ s ∈ p.f2, -9223372036854775808 ≤ s ∧ s ≤ 9223372036854775807) : Order l0 l1 l2 l3 st :=
 ⟨h, (gram_of h hr).1, (gram_of h hr).2.1, (gram_of h hr).2.2⟩

/-- May sorts be empty? -/
def eR (l2 : List ByteArray) (l3 : List S45) : List Bool := allR false l2.length l3
/-- Do they live? -/
def lR (l2 : List ByteArray) (l3 : List S45) : List Bool := allR true l2.length l3
theorem eR_len (l2 : List ByteArray) (l3 : List S45) : (eR l2 l3).length = l2.length := allR_len false
theorem lR_len (l2 : List ByteArray) (l3 : List S45) : (lR l2 l3).length = l2.length := allR_len true
/-- With what do they begin? -/
def fR (l0 : List S51) (l2 : List ByteArray) (l3 : List S45) : List Int := firR l0.length l2.length (eR l2 l3) l3
/-- What follows them? -/
def wR (l0 : List S51) (l2 : List ByteArray) (l3 : List S45) (st : Int) : List Int := folR l0.length l2.length (eR l2 l3) (fR l0 l2 l3) l3 st
/-- With what does a row begin? -/
def oR (l0 : List S51) (l2 : List ByteArray) (l3 : List S45) (l : List Int) (behind : Int) : Int := rowV l0.length l2.length (eR l2 l3) (fR l0 l2 l3) behind l

section
variable {l0 : List S51} {l1 : List S63} {l2 : List ByteArray} {l3 : List S45} {st : Int} (h : Order l0 l1 l2 l3 st)
include h
theorem Empty_is (k : Nat) (hk : 61 ≤ k) : sets_Empty.f k l0 l1 l2 l3 st = some (eR l2 l3) := by
 have := h.gram.hS
 unfold sets_Empty.f sets_all.f
 rw [if_pos h.valid, allR_is false h.gram k (by omega)]
 rfl
theorem Lives_is (k : Nat) (hk : 61 ≤ k) : sets_Lives.f k l0 l1 l2 l3 st = some (lR l2 l3) := by
 have := h.gram.hS
 unfold sets_Lives.f sets_all.f
 rw [if_pos h.valid, allR_is true h.gram k (by omega)]
 rfl
theorem First_is (k : Nat) (hk : 61 ≤ k) : sets_First.f k l0 l1 l2 l3 st = some (fR l0 l2 l3) := by
 have := h.gram.hS
 unfold sets_First.f
 rw [if_pos h.valid, Empty_is h k hk, Option.bind_some, firR_is h.gram k (by omega)]
 rfl
theorem fR_ok : okL l2.length (fR l0 l2 l3) := firR_ok h.gram
theorem wR_ok : okL l2.length (wR l0 l2 l3 st) := folR_ok h.gram (fR_ok h)
theorem oR_has (l : List Int) (behind : Int) (hb : ok behind) : rowF l0.length l2.length (eR l2 l3) (fR l0 l2 l3) behind l 0 = some (oR l0 l2 l3 l behind) ∧ ok (oR l0 l2 l3 l behind) ∧
  ∀ b, tb (oR l0 l2 l3 l behind) b = rowB l0.length l2.length (eR l2 l3) (fR l0 l2 l3) behind b l :=
 rowV_has _ _ _ (by have := h.gram.hT; omega) _ _ (ok_rd (fR_ok h)) hb l
theorem Of_is (l : List Int) (behind : Int) (hb : ok behind) (k : Nat) (hk : 61 ≤ k) : sets_Of.f k l0 l1 l2 l3 st l behind = some (oR l0 l2 l3 l behind) := by
 have := h.gram.hS
 unfold sets_Of.f
 rw [if_pos h.valid, Empty_is h k hk, Option.bind_some, firR_is h.gram k (by omega), Option.bind_some]
 exact (oR_has h l behind hb).1
theorem Follow_is (k : Nat) (hk : 61 ≤ k) : sets_Follow.f k l0 l1 l2 l3 st = some (wR l0 l2 l3 st) := by
 have := h.gram.hS
 unfold sets_Follow.f
 rw [if_pos h.valid, Empty_is h k hk, Option.bind_some, firR_is h.gram k (by omega), Option.bind_some, of_one k (by omega) 63 (by omega) (by omega), Option.bind_some]
 exact folR_is h.gram (fR_ok h) k (by omega)
end

section
variable {l0 : List S51} {l1 : List S63} {l2 : List ByteArray} {l3 : List S45} {st : Int} (h : validB l0 l1 l2 l3 st = false)
include h
theorem Empty_not (k : Nat) : sets_Empty.f k l0 l1 l2 l3 st = some [] := by
 unfold sets_Empty.f sets_all.f; rw [h]; rfl
theorem Lives_not (k : Nat) : sets_Lives.f k l0 l1 l2 l3 st = some [] := by
 unfold sets_Lives.f sets_all.f; rw [h]; rfl
theorem First_not (k : Nat) : sets_First.f k l0 l1 l2 l3 st = some [] := by
 unfold sets_First.f; rw [h]; rfl
theorem Of_not (l : List Int) (behind : Int) (k : Nat) : sets_Of.f k l0 l1 l2 l3 st l behind = some 0 := by
 unfold sets_Of.f; rw [h]; rfl
theorem Follow_not (k : Nat) : sets_Follow.f k l0 l1 l2 l3 st = some [] := by
 unfold sets_Follow.f; rw [h]; rfl
end

/-! ### rows -/
section
variable {l0 : List S51} {l1 : List S63} {l2 : List ByteArray} {l3 : List S45} {st : Int} (h : Order l0 l1 l2 l3 st)
include h
end

end Go.Proofs.Ytggfiopajogiiaa.P

set_option linter.unusedVariables false
set_option linter.unusedSimpArgs false
namespace Go.Proofs.Ytggfiopajogiiaa.P
open Go.RowKit Go.Proofs.YtggfiopajogiiaaW.PrintWords Go.Proofs.YtggfiopajogiiaaW.PrintLast Go.Proofs.YtggfiopajogiiaaW.PrintMore Bitty

section
variable {l0 : List S51} {l1 : List S63} {l2 : List ByteArray} {l3 : List S45} {st : Int} (h : Order l0 l1 l2 l3 st)
include h
end

end Go.Proofs.Ytggfiopajogiiaa.P

set_option linter.unusedVariables false
set_option linter.unusedSimpArgs false
namespace Go.Proofs.Ytggfiopajogiiaa.P
open Go.RowKit Go.Proofs.YtggfiopajogiiaaW.PrintWords Go.Proofs.YtggfiopajogiiaaW.PrintLast Go.Proofs.YtggfiopajogiiaaW.PrintMore Bitty

section
variable {l0 : List S51} {l1 l1' : List S63} {l2 : List ByteArray} {l3 l3' : List S45} {st : Int} (h : Order l0 l1 l2 l3 st) (h' : Order l0 l1' l2 l3' st) (hsub : ∀ p ∈ l3, p ∈ l3')
include h h' hsub
end

end Go.Proofs.Ytggfiopajogiiaa.P
end

section
set_option linter.unusedVariables false
set_option linter.unusedSimpArgs false
namespace Go.Proofs.Ytggfiopajogiiaa.P
open Go.RowKit Go.Proofs.YtggfiopajogiiaaW.PrintWords Go.Proofs.YtggfiopajogiiaaW.PrintLast Go.Proofs.YtggfiopajogiiaaW.PrintMore Bitty

theorem works_is (k : Nat) (hk : 61 ≤ k) : syntagmlaw13_works.f k = some true :=
 at_rounds (fun k => syntagmlaw13_works.mono k) hk (by kernel_rfl)
theorem i64_range {x : Int} (h : (Lit.int .i64 x).wf = true) : -9223372036854775808 ≤ x ∧ x ≤ 9223372036854775807 := by
 have := bounds_i64 h
 omega
theorem u64_ok {x : Int} (h : (Lit.int .u64 x).wf = true) : ok x := by
 have := bounds_u64 h
 exact ⟨by omega, by omega⟩
theorem prods_range {x : S27} (h : wf27 x) : ∀ p ∈ x.f3, ∀ s ∈ p.f2, -9223372036854775808 ≤ s ∧ s ≤ 9223372036854775807 :=
 fun p hp s hs => i64_range ((h.2.2.2.1.2 p hp).2.2.1.2 s hs)
end Go.Proofs.Ytggfiopajogiiaa.P
end

section
set_option linter.unusedVariables false
set_option linter.unusedSimpArgs false
namespace Go.Proofs.Ytggfiopajogiiaa.P
open Go.RowKit Go.Proofs.YtggfiopajogiiaaW.PrintWords Go.Proofs.YtggfiopajogiiaaW.PrintLast Go.Proofs.YtggfiopajogiiaaW.PrintMore Bitty

def ints (l : List Nat) : List Int := l.map (fun n : Nat => (n : Int))
/-- A number's bit; 0 of one that there is not. -/
def bitN (n : Int) : Nat := if 0 ≤ n ∧ n < 64 then 2 ^ n.toNat else 0
theorem bitN_lt (n : Int) : bitN n < 18446744073709551616 := by
 unfold bitN
 split
 ·rename_i h
  have : n.toNat < 64 := by omega
  exact Nat.pow_lt_pow_right (by decide) this
 ·omega
theorem bitN_test (n : Int) (i : Nat) : (bitN n).testBit i = decide (0 ≤ n ∧ n < 64 ∧ n.toNat = i) := by
 unfold bitN
 split
 ·rw [Nat.testBit_two_pow]
  simp only [decide_eq_decide]
  omega
 ·rw [Nat.zero_testBit]
  symm
  rw [decide_eq_false_iff_not]
  omega
theorem high (a i : Nat) (ha : a < 18446744073709551616) (hi : 64 ≤ i) : a.testBit i = false := Nat.testBit_lt_two_pow (Nat.lt_of_lt_of_le ha (Nat.pow_le_pow_right (by decide) hi : 2 ^ 64 ≤ 2 ^ i))
theorem or_lt (a b : Nat) (ha : a < 18446744073709551616) (hb : b < 18446744073709551616) : a ||| b < 18446744073709551616 := Nat.or_lt_two_pow (n := 64) ha hb
/-- A set's numbers, rising. -/
def bitsOf (s : Nat) : List Nat := (List.range 64).filter (fun i => s.testBit i)
theorem mem_bitsOf (a i : Nat) : i ∈ bitsOf a ↔ i < 64 ∧ a.testBit i = true := by simp [bitsOf]
theorem bitsOf_length (s : Nat) : (bitsOf s).length ≤ 64 := Nat.le_trans (List.length_filter_le _ _) (by simp)
theorem set_ext (a b : Nat) (ha : a < 18446744073709551616) (hb : b < 18446744073709551616) (h : ∀ i, i < 64 → a.testBit i = b.testBit i) : a = b :=
 Nat.eq_of_testBit_eq fun i => by
  by_cases hi : i < 64
  ·exact h i hi
  ·rw [high a i ha (by omega), high b i hb (by omega)]

/-! ### how many: math/bits.OnesCount64 -/
/-- Has it a number? -/
def hasN (a : Nat) (n : Int) : Bool := decide (0 ≤ n ∧ n < 64) && a.testBit n.toNat
theorem add_plain_u64 (x y : Nat) (h : x + y < 18446744073709551616) : IntKind.u64.wrap ((x : Int) + (y : Int)) = ((x + y : Nat) : Int) := by rw [IntKind.wrap_u64]; omega
/-- The set of some numbers. -/
def ofZ : List Int → Nat
 | [] => 0
 | n :: l => bitN n ||| ofZ l
theorem ofZ_lt : ∀ l, ofZ l < 18446744073709551616
 | [] => by decide
 | n :: l => or_lt _ _ (bitN_lt n) (ofZ_lt l)
theorem ofZ_test : ∀ (l : List Int) (i : Nat), (ofZ l).testBit i = l.any (fun n => decide (0 ≤ n ∧ n < 64 ∧ n.toNat = i))
 | [], i => by simp [ofZ]
 | n :: l, i => by rw [ofZ, Nat.testBit_or, bitN_test, ofZ_test l i, List.any_cons]
theorem ofZ_app (l m : List Int) : ofZ (l ++ m) = ofZ l ||| ofZ m := by
 induction l with
 | nil => simp [ofZ]
 | cons n l ih => simp only [List.cons_append, ofZ, ih, Nat.or_assoc]
theorem ofZ_ints (l : List Nat) (i : Nat) (h : ∀ x ∈ l, x < 64) : (ofZ (ints l)).testBit i = decide (i ∈ l) := by
 rw [ofZ_test]
 unfold ints
 rw [List.any_map]
 rw [Bool.eq_iff_iff, List.any_eq_true, decide_eq_true_iff]
 constructor
 ·rintro ⟨x, hx, h1⟩
  simp only [Function.comp, decide_eq_true_eq] at h1
  have : x = i := by omega
  exact this ▸ hx
 ·intro hi
  refine ⟨i, hi, ?_⟩
  have := h i hi
  simp only [Function.comp, decide_eq_true_eq]
  omega
theorem ofN_bits (a : Nat) (ha : a < 18446744073709551616) : ofZ (ints (bitsOf a)) = a := set_ext _ _ (ofZ_lt _) ha fun i hi => by
 rw [ofZ_ints _ _ (fun x hx => ((mem_bitsOf a x).1 hx).1)]
 by_cases h : i ∈ bitsOf a
 ·rw [decide_eq_true h, ((mem_bitsOf a i).1 h).2]
 ·rw [decide_eq_false h]
  cases ht : a.testBit i
  ·rfl
  ·exact absurd ((mem_bitsOf a i).2 ⟨hi, ht⟩) h
theorem u64_half (x : Nat) (h : x < 18446744073709551616) : IntKind.u64.wrap (Int.tdiv (x : Int) 2) = ((x / 2 : Nat) : Int) := by
 have e : Int.tdiv (x : Int) 2 = ((x / 2 : Nat) : Int) := rfl
 rw [e, IntKind.wrap_u64]
 omega
theorem ref_has_loop (a n : Nat) (ha : a < 18446744073709551616) (hn : n < 64) : ∀ d i k, i + d = n → d < k → syntagmref01_Has.l0 k ((a / 2 ^ i : Nat) : Int) (n : Nat) (i : Nat) = some (a.testBit n) := by
 intro d
 induction d with
 | zero =>
  intro i k hi hk
  obtain ⟨k, rfl⟩ : ∃ m, k = m + 1 := ⟨k - 1, by omega⟩
  have hin : i = n := by omega
  subst hin
  simp only [syntagmref01_Has.l0]
  rw [if_neg (by omega), Nat.testBit_eq_decide_div_mod_eq]
  have e : Int.tmod ((a / 2 ^ i : Nat) : Int) 2 = ((a / 2 ^ i % 2 : Nat) : Int) := rfl
  rw [e]
  congr 1
  by_cases h : a / 2 ^ i % 2 = 1
  ·rw [decide_eq_true h, h]; rfl
  ·rw [decide_eq_false h]
   exact beq_eq_false_iff_ne.2 (by omega)
 | succ d ih =>
  intro i k hi hk
  obtain ⟨k, rfl⟩ : ∃ m, k = m + 1 := ⟨k - 1, by omega⟩
  have hw : wrap64 ((i : Int) + 1) = ((i + 1 : Nat) : Int) := by unfold wrap64; omega
  have hlt : a / 2 ^ i < 18446744073709551616 := Nat.lt_of_le_of_lt (Nat.div_le_self _ _) ha
  simp only [syntagmref01_Has.l0]
  rw [if_pos (by omega), u64_half _ hlt, hw, Nat.div_div_eq_div_mul, ← Nat.pow_succ]
  exact ih (i + 1) k (by omega) (by omega)
theorem ref_has (a : Nat) (n : Int) (ha : a < 18446744073709551616) (k : Nat) (hk : 70 ≤ k) : syntagmref01_Has.f k a n = some (hasN a n) := by
 obtain ⟨k, rfl⟩ : ∃ m, k = m + 1 := ⟨k - 1, by omega⟩
 unfold syntagmref01_Has.f hasN
 by_cases h0 : n < 0
 ·rw [if_pos h0]
  simp only [syntagmref01_Has.j0]
  rw [if_pos trivial, decide_eq_false (by omega)]
  rfl
 ·rw [if_neg h0]
  simp only [syntagmref01_Has.j0]
  by_cases h1 : n > 63
  ·rw [decide_eq_true h1, if_pos rfl, decide_eq_false (by omega)]
   rfl
  ·rw [decide_eq_false h1, if_neg (by decide), decide_eq_true (by omega), Bool.true_and]
   obtain ⟨m, rfl⟩ : ∃ m : Nat, n = m := ⟨n.toNat, by omega⟩
   have := ref_has_loop a m ha (by omega) m 0 k (by omega) (by omega)
   rw [Nat.pow_zero, Nat.div_one] at this
   rw [Int.toNat_natCast]
   exact this
theorem ref_bit_loop (n : Nat) (hn : n < 64) : ∀ d i k, i + d = n → d < k → syntagmref01_Bit.l0 k (n : Nat) ((2 ^ i : Nat) : Int) (i : Nat) = some ((2 ^ n : Nat) : Int) := by
 intro d
 induction d with
 | zero =>
  intro i k hi hk
  obtain ⟨k, rfl⟩ : ∃ m, k = m + 1 := ⟨k - 1, by omega⟩
  simp only [syntagmref01_Bit.l0]
  rw [if_neg (by omega), show i = n by omega]
 | succ d ih =>
  intro i k hi hk
  obtain ⟨k, rfl⟩ : ∃ m, k = m + 1 := ⟨k - 1, by omega⟩
  have hw : wrap64 ((i : Int) + 1) = ((i + 1 : Nat) : Int) := by unfold wrap64; omega
  have hp : 2 ^ (i + 1) < 18446744073709551616 := Nat.pow_lt_pow_right (by decide) (show i + 1 < 64 by omega)
  have hb : IntKind.u64.wrap (((2 ^ i : Nat) : Int) * 2) = ((2 ^ (i + 1) : Nat) : Int) := by
   rw [IntKind.wrap_u64]
   rw [Nat.pow_succ] at hp ⊢
   generalize 2 ^ i = p at hp
   omega
  simp only [syntagmref01_Bit.l0]
  rw [if_pos (by omega), hb, hw]
  exact ih (i + 1) k (by omega) (by omega)
theorem ref_bit (n : Nat) (hn : n < 64) (k : Nat) (hk : 66 ≤ k) : syntagmref01_Bit.f k (n : Nat) = some ((2 ^ n : Nat) : Int) := by
 unfold syntagmref01_Bit.f
 have := ref_bit_loop n hn n 0 k (by omega) (by omega)
 simpa using this
theorem ints_app (l m : List Nat) : ints (l ++ m) = ints l ++ ints m := by simp [ints]
theorem ref_list_loop (a : Nat) (ha : a < 18446744073709551616) : ∀ d i k, i + d = 64 → d + 71 ≤ k → syntagmref01_List.l0 k a (ints ((List.range i).filter fun j => a.testBit j)) (i : Nat) = some (ints (bitsOf a)) := by
 intro d
 induction d with
 | zero =>
  intro i k hi hk
  obtain ⟨k, rfl⟩ : ∃ m, k = m + 1 := ⟨k - 1, by omega⟩
  simp only [syntagmref01_List.l0]
  rw [if_neg (by omega), show i = 64 by omega]
  rfl
 | succ d ih =>
  intro i k hi hk
  obtain ⟨k, rfl⟩ : ∃ m, k = m + 1 := ⟨k - 1, by omega⟩
  have hw : wrap64 ((i : Int) + 1) = ((i + 1 : Nat) : Int) := by unfold wrap64; omega
  have hh : hasN a (i : Int) = a.testBit i := by unfold hasN; rw [decide_eq_true (by omega), Int.toNat_natCast, Bool.true_and]
  have hlen : (ints ((List.range i).filter fun j => a.testBit j)).length ≤ 64 := by
   have : (ints ((List.range i).filter fun j => a.testBit j)).length = ((List.range i).filter fun j => a.testBit j).length := by simp [ints]
   have h2 := List.length_filter_le (fun j => a.testBit j) (List.range i)
   rw [List.length_range] at h2
   omega
  have := ih (i + 1) k (by omega) (by omega)
  rw [List.range_succ, List.filter_append] at this
  simp only [syntagmref01_List.l0]
  rw [if_pos (by omega), ref_has a _ ha k (by omega), Option.bind_some, hh, hw]
  cases ht : a.testBit i
  ·rw [if_neg (by decide)]
   simpa [ht] using this
  ·rw [if_pos rfl, if_pos (by omega)]
   simpa [ht, ints_app, ints] using this
theorem ref_list (a : Nat) (ha : a < 18446744073709551616) (k : Nat) (hk : 140 ≤ k) : syntagmref01_List.f k a = some (ints (bitsOf a)) := by
 unfold syntagmref01_List.f
 exact ref_list_loop a ha 64 0 k (by omega) (by omega)
/-- Is a number among the first i? -/
theorem ref_of_inner (l : List Int) (hl : l.length ≤ 2000) (s : Nat) (n : Nat) (hn : n < 64) (r : Option Int) (K : Nat)
  (hend : ∀ k, K ≤ k → syntagmref01_Of.l1 k l s (n : Nat) (l.any fun x => x == (n : Int)) (l.length : Int) = r) :
  ∀ d i k, i + d = l.length → d + K ≤ k → syntagmref01_Of.l1 k l s (n : Nat) ((l.take i).any fun x => x == (n : Int)) (i : Nat) = r := by
 intro d
 induction d with
 | zero =>
  intro i k hi hk
  have := hend k (by omega)
  rw [List.take_of_length_le (by omega), show i = l.length by omega]
  exact this
 | succ d ih =>
  intro i k hi hk
  obtain ⟨k, rfl⟩ : ∃ m, k = m + 1 := ⟨k - 1, by omega⟩
  have hlt : i < l.length := by omega
  have hw : wrap64 ((i : Int) + 1) = ((i + 1 : Nat) : Int) := by unfold wrap64; omega
  have hr : rd l (i : Nat) = l[i] := by unfold rd; simp [List.getD, hlt]
  have := ih (i + 1) k (by omega) (by omega)
  rw [List.take_succ_eq_append_getElem hlt, List.any_append] at this
  rw [syntagmref01_Of.l1]
  rw [if_pos (by omega), hw, hr]
  cases ht : (l.take i).any fun x => x == (n : Int)
  ·rw [if_neg (by decide), if_pos (by omega)]
   simpa [ht] using this
  ·rw [if_pos rfl]
   simpa [ht] using this
theorem any_bit (l : List Int) (n : Nat) (hn : n < 64) : (l.any fun x => x == (n : Int)) = (ofZ l).testBit n := by
 rw [ofZ_test]
 induction l with
 | nil => rfl
 | cons x l ih =>
  rw [List.any_cons, List.any_cons, ih]
  congr 1
  by_cases h : x = (n : Int)
  ·subst h
   rw [decide_eq_true (by omega)]
   simp
  ·rw [decide_eq_false (by omega)]
   exact beq_eq_false_iff_ne.2 h
theorem mod_pow_succ (x n : Nat) : x % 2 ^ (n + 1) = x % 2 ^ n + 2 ^ n * (x.testBit n).toNat := by
 rw [Nat.pow_succ, Nat.mod_mul, Nat.testBit_eq_decide_div_mod_eq]
 have := Nat.mod_two_eq_zero_or_one (x / 2 ^ n)
 rcases this with h | h <;> rw [h] <;> rfl
theorem ref_of_loop (l : List Int) (hl : l.length ≤ 2000) : ∀ d n k, n + d = 64 → d * (l.length + 2) + 80 ≤ k → syntagmref01_Of.l0 k l ((ofZ l % 2 ^ n : Nat) : Int) (n : Nat) = some ((ofZ l : Nat) : Int) := by
 intro d
 induction d with
 | zero =>
  intro n k hn hk
  obtain ⟨k, rfl⟩ : ∃ m, k = m + 1 := ⟨k - 1, by omega⟩
  rw [syntagmref01_Of.l0]
  rw [if_neg (by omega), show n = 64 by omega, Nat.mod_eq_of_lt (ofZ_lt l)]
 | succ d ih =>
  intro n k hn hk
  obtain ⟨k, rfl⟩ : ∃ m, k = m + 1 := ⟨k - 1, by omega⟩
  rw [Nat.succ_mul] at hk
  have hw : wrap64 ((n : Int) + 1) = ((n + 1 : Nat) : Int) := by unfold wrap64; omega
  rw [syntagmref01_Of.l0]
  rw [if_pos (by omega)]
  have key : ∀ k, d * (l.length + 2) + 81 ≤ k → syntagmref01_Of.l1 k l ((ofZ l % 2 ^ n : Nat) : Int) (n : Nat) (l.any fun x => x == (n : Int)) (l.length : Int) = some ((ofZ l : Nat) : Int) := by
   intro k hk
   obtain ⟨k, rfl⟩ : ∃ m, k = m + 1 := ⟨k - 1, by omega⟩
   have h2 := ih (n + 1) k (by omega) (by omega)
   have hm := mod_pow_succ (ofZ l) n
   rw [syntagmref01_Of.l1]
   rw [if_neg (by omega), any_bit l n (by omega), hw]
   cases ht : (ofZ l).testBit n
   ·rw [if_neg (by decide)]
    rw [ht] at hm
    rw [hm] at h2
    simpa using h2
   ·rw [if_pos rfl, ref_bit n (by omega) k (by omega), Option.bind_some]
    rw [ht] at hm
    have hlt : ofZ l % 2 ^ (n + 1) < 18446744073709551616 := Nat.lt_of_le_of_lt (Nat.mod_le _ _) (ofZ_lt l)
    simp only [Bool.toNat_true, Nat.mul_one] at hm
    rw [add_plain_u64 _ _ (by rw [← hm]; exact hlt), ← hm]
    exact h2
  have := ref_of_inner l hl (ofZ l % 2 ^ n) n (by omega) (some ((ofZ l : Nat) : Int)) (d * (l.length + 2) + 81) key l.length 0 k (by omega) (by omega)
  simpa using this
theorem ref_of (l : List Int) (hl : l.length ≤ 2000) (k : Nat) (hk : 150000 ≤ k) : syntagmref01_Of.f k l = some ((ofZ l : Nat) : Int) := by
 unfold syntagmref01_Of.f
 have := ref_of_loop l hl 64 0 k (by omega) (by omega)
 rw [Nat.pow_zero, Nat.mod_one] at this
 exact this
theorem ints_len (l : List Nat) : (ints l).length = l.length := by simp [ints]

theorem ref_union (a b : Nat) (ha : a < 18446744073709551616) (hb : b < 18446744073709551616) (k : Nat) (hk : 151000 ≤ k) : syntagmref01_Union.f k a b = some ((a ||| b : Nat) : Int) := by
 have l1 := bitsOf_length a
 have l2 := bitsOf_length b
 have i1 := ints_len (bitsOf a)
 have i2 := ints_len (bitsOf b)
 unfold syntagmref01_Union.f
 rw [ref_list a ha k (by omega), Option.bind_some, if_pos (by simp; omega), Option.bind_some, ref_list b hb k (by omega), Option.bind_some, if_pos (by simp; omega),
  ref_of _ (by simp; omega) k (by omega), Option.bind_some, List.nil_append, ofZ_app, ofN_bits a ha, ofN_bits b hb]

/-! ### what holds from some round on -/
def Ev {α : Type} (f : Nat → Option α) (v : α) : Prop := ∃ K, ∀ k, K ≤ k → f k = some v
theorem Ev.all {α : Type} {f : Nat → Option α} {v : α} (h : ∀ k, f k = some v) : Ev f v := ⟨0, fun k _ => h k⟩
theorem Ev.succ {α : Type} {f g : Nat → Option α} {v : α} (h : Ev f v) (hg : ∀ k, g (k + 1) = f k) : Ev g v := by
 obtain ⟨K, hK⟩ := h
 refine ⟨K + 1, fun k hk => ?_⟩
 obtain ⟨k, rfl⟩ : ∃ m, k = m + 1 := ⟨k - 1, by omega⟩
 rw [hg]
 exact hK k (by omega)
theorem Ev.bind {α β : Type} {f : Nat → Option α} {g : Nat → α → Option β} {a : α} {v : β} (h : Ev f a) (hg : Ev (fun k => g k a) v) : Ev (fun k => (f k).bind (g k)) v := by
 obtain ⟨K, hK⟩ := h
 obtain ⟨L, hL⟩ := hg
 exact ⟨max K L, fun k hk => by show (f k).bind (g k) = some v; rw [hK k (by omega), Option.bind_some]; exact hL k (by omega)⟩
theorem Ev.union {x y : Int} (hx : ok x) (hy : ok y) : Ev (fun k => syntagmref01_Union.f k x y) (Go.bits .or .u64 x y) := by
 refine ⟨151000, fun k hk => ?_⟩
 rw [or_nat hx hy]
 have h1 : x = ((x.toNat : Nat) : Int) := by have := hx.1; omega
 have h2 : y = ((y.toNat : Nat) : Int) := by have := hy.1; omega
 have h3 := hx.2
 have h4 := hy.2
 have := ref_union x.toNat y.toNat (by omega) (by omega) k hk
 rw [← h1, ← h2] at this
 exact this
theorem Ev.one (n : Int) (h0 : 0 ≤ n) (h1 : n < 64) : Ev (fun k => syntagmref01_Of.f k [n]) ((2 ^ n.toNat : Nat) : Int) := by
 refine ⟨150000, fun k hk => ?_⟩
 show syntagmref01_Of.f k [n] = _
 rw [ref_of [n] (by simp) k hk]
 have e : ofZ [n] = 2 ^ n.toNat := by
  unfold ofZ ofZ bitN
  rw [if_pos (by omega)]
  simp
 rw [e]

end Go.Proofs.Ytggfiopajogiiaa.P
end

section
set_option linter.unusedVariables false
set_option linter.unusedSimpArgs false
namespace Go.Proofs.Ytggfiopajogiiaa.P
open Go.RowKit Go.Proofs.YtggfiopajogiiaaW.PrintWords Go.Proofs.YtggfiopajogiiaaW.PrintLast Go.Proofs.YtggfiopajogiiaaW.PrintMore Bitty

theorem any_not {α : Type} (f g : α → Bool) : ∀ (l : List α), (∀ s ∈ l, f s = !g s) → l.any f = !l.all g
 | [], _ => rfl
 | s :: l, h => by
  rw [List.any_cons, List.all_cons, h s (by simp), any_not f g l (fun t ht => h t (by simp [ht]))]
  cases g s <;> cases l.all g <;> rfl
theorem order_small {l0 : List S51} {l1 : List S63} {l2 : List ByteArray} {l3 : List S45} {st : Int} (h : Order l0 l1 l2 l3 st) : l3.length ≤ 120 ∧ ∀ p ∈ l3, p.f2.length ≤ 12 := by
 have hv := h.valid
 simp only [validB, Bool.and_eq_true, Bool.not_eq_true', decide_eq_false_iff_not, List.all_eq_true] at hv
 obtain ⟨⟨⟨⟨⟨⟨⟨⟨-, -⟩, h2⟩, -⟩, -⟩, h5⟩, -⟩, -⟩, -⟩ := hv
 refine ⟨by omega, fun p hp => ?_⟩
 have := h5 p hp
 simp only [prodB, Bool.and_eq_true, Bool.not_eq_true', decide_eq_false_iff_not] at this
 omega
theorem order_range {l0 : List S51} {l1 : List S63} {l2 : List ByteArray} {l3 : List S45} {st : Int} (h : Order l0 l1 l2 l3 st) : ∀ p ∈ l3, ∀ s ∈ p.f2, -9223372036854775808 ≤ s ∧ s ≤ 9223372036854775807 := fun p hp s hs => by
 have h1 := h.gram.sym p hp s hs
 have h2 := h.gram.hS
 have h3 := h.gram.hT
 omega
theorem refv_is {l0 : List S51} {l1 : List S63} {l2 : List ByteArray} {l3 : List S45} {st : Int} (h : ∀ p ∈ l3, ∀ s ∈ p.f2, -9223372036854775808 ≤ s ∧ s ≤ 9223372036854775807) : syntagmref12_Valid.f l0 l1 l2 l3 st = some (validB l0 l1 l2 l3 st) := by
 unfold syntagmref12_Valid.f
 rw [if_pos h]
theorem wrap64_neg {s : Int} (h0 : -60 ≤ s) (h1 : s < 0) : wrap64 ((-1) - s) = -1 - s := by unfold wrap64; omega
theorem wrap64_succ (i : Nat) (h : i < 9223372036854775807) : wrap64 ((i : Int) + 1) = ((i + 1 : Nat) : Int) := by unfold wrap64; omega
theorem rd45_in (l : List S45) (i : Nat) (h : i < l.length) : rd_T45 l (i : Int) = l[i] := rd45_at l i h
theorem rd_in (l : List Int) (i : Nat) (h : i < l.length) : rd l (i : Int) = l[i] := rd_at l i h

/-! ### syntagmref13_Empty -/
def goodE (xs : List Bool) (s : Int) : Bool := decide (s < 0) && rdOf false xs (-1 - s)
theorem moreE {nT nS : Nat} {ps : List S45} (hG : Gram nT nS ps) (xs : List Bool) (p : S45) (hp : p ∈ ps) : moreB false xs p = (rdOf false xs p.f1 || p.f2.all (goodE xs)) := by
 have e : p.f2.any (badB false xs) = !p.f2.all (goodE xs) := any_not _ _ _ fun s hs => by
  unfold badB goodE
  by_cases hn : s < 0
  ·rw [(sym_in hG p hp s hs hn).1, decide_eq_true hn, decide_eq_false (by omega : ¬ 0 ≤ s)]
   simp
  ·rw [decide_eq_false hn, decide_eq_true (by omega : 0 ≤ s)]
   simp
 unfold moreB
 rw [e]
 cases p.f2.all (goodE xs)
 ·simp
 ·simp
section
variable {l0 : List S51} {l1 : List S63} {l2 : List ByteArray} {l3 : List S45} {st : Int} (h : Order l0 l1 l2 l3 st)
include h
theorem refE_l2 (i : Nat) (hi : i < l3.length) (xs : List Bool) (hx : xs.length = l2.length) (r : Int) (R : List Bool) : ∀ (m j : Nat) (a : Bool), j + m = l3[i].f2.length →
  Ev (fun k => syntagmref13_Empty.l1 k (xs.set l3[i].f1.toNat (rdOf false xs l3[i].f1 || (a && (l3[i].f2.drop j).all (goodE xs)))) r ((i + 1 : Nat) : Int) l0 l1 l2 l3 st) R → Ev (fun k => syntagmref13_Empty.l2 k xs r i a j l0 l1 l2 l3 st) R
 | 0, j, a, hj, hE => by
  refine hE.succ fun k => ?_
  have hmem : l3[i] ∈ l3 := List.getElem_mem hi
  have hs := h.gram.srt l3[i] hmem
  have hsm := (order_small h).1
  rw [syntagmref13_Empty.l2, rd45_in l3 i hi, if_pos (by omega), if_pos (by omega), if_neg (by omega), if_pos hs.1, if_pos (by omega), wrap64_succ i (by omega), List.drop_eq_nil_of_le (by omega)]
  by_cases hr : rdOf false xs l3[i].f1 = true
  ·rw [if_pos hr, hr]; simp
  ·rw [if_neg hr]
   have : rdOf false xs l3[i].f1 = false := by simpa using hr
   rw [this]; simp
 | m + 1, j, a, hj, hE => by
  have hmem : l3[i] ∈ l3 := List.getElem_mem hi
  have hjl : j < l3[i].f2.length := by omega
  have hs := h.gram.sym l3[i] hmem l3[i].f2[j] (List.getElem_mem hjl)
  have hS := h.gram.hS
  have hl := (order_small h).2 l3[i] hmem
  have hsm := (order_small h).1
  rw [List.drop_eq_getElem_cons hjl, List.all_cons, ← Bool.and_assoc] at hE
  have ih := refE_l2 i hi xs hx r R m (j + 1) (a && goodE xs l3[i].f2[j]) (by omega) hE
  refine ih.succ fun k => ?_
  rw [syntagmref13_Empty.l2, rd45_in l3 i hi, if_pos (by omega), if_pos (by omega), if_pos (by omega), if_pos (by omega), rd_in _ j hjl, wrap64_succ j (by omega)]
  cases a
  ·rw [if_neg (by decide)]; rfl
  ·rw [if_pos rfl, Bool.true_and]
   unfold goodE
   by_cases hn : l3[i].f2[j] < 0
   ·rw [if_pos hn, wrap64_neg (by omega) hn, if_pos (by omega), if_pos (by omega), decide_eq_true hn, Bool.true_and]
   ·rw [if_neg hn, decide_eq_false hn, Bool.false_and]
theorem refE_l1 (r : Nat) (hr : r ≤ l2.length) (R : List Bool) : ∀ (m i : Nat) (xs : List Bool), i + m = l3.length → xs.length = l2.length →
  Ev (fun k => syntagmref13_Empty.l0 k (run (allS false (l3.drop i)) xs) ((r + 1 : Nat) : Int) l0 l1 l2 l3 st) R → Ev (fun k => syntagmref13_Empty.l1 k xs r i l0 l1 l2 l3 st) R
 | 0, i, xs, hi, hx, hE => by
  have hS := h.gram.hS
  refine hE.succ fun k => ?_
  rw [syntagmref13_Empty.l1, if_neg (by omega), wrap64_succ r (by omega), List.drop_eq_nil_of_le (by omega)]
  rfl
 | m + 1, i, xs, hi, hx, hE => by
  have hlt : i < l3.length := by omega
  have hmem : l3[i] ∈ l3 := List.getElem_mem hlt
  rw [List.drop_eq_getElem_cons hlt] at hE
  have e : run (allS false (l3[i] :: l3.drop (i + 1))) xs = run (allS false (l3.drop (i + 1))) (xs.set l3[i].f1.toNat (rdOf false xs l3[i].f1 || l3[i].f2.all (goodE xs))) := by
   show run (allS false (l3.drop (i + 1))) (xs.set l3[i].f1.toNat (moreB false xs l3[i])) = _
   rw [moreE h.gram xs l3[i] hmem]
  have h1 := refE_l1 r hr R m (i + 1) (xs.set l3[i].f1.toNat (rdOf false xs l3[i].f1 || l3[i].f2.all (goodE xs))) (by omega) (by rw [List.length_set]; exact hx) (by rw [← e]; exact hE)
  have h2 := refE_l2 h i hlt xs hx r R l3[i].f2.length 0 true (by omega) (by rw [List.drop_zero, Bool.true_and]; exact h1)
  refine h2.succ fun k => ?_
  rw [syntagmref13_Empty.l1, if_pos (by omega)]
  rfl
theorem refE_l0 : ∀ (m r : Nat) (xs : List Bool), r + m = l2.length + 1 → xs.length = l2.length → Ev (fun k => syntagmref13_Empty.l0 k xs r l0 l1 l2 l3 st) (iter (run (allS false l3)) m xs)
 | 0, r, xs, hr, hx => by
  refine (Ev.all (f := fun _ => some xs) (fun _ => rfl)).succ fun k => ?_
  rw [syntagmref13_Empty.l0, if_neg (by omega)]
 | m + 1, r, xs, hr, hx => by
  have hl : (run (allS false l3) xs).length = l2.length := (run_ok _ xs (allS_grows false) (okL_bool _ _ hx)).1.1
  have h1 := refE_l1 h r (by omega) _ l3.length 0 xs (by omega) hx (by rw [List.drop_zero]; exact refE_l0 m (r + 1) _ (by omega) hl)
  refine h1.succ fun k => ?_
  rw [syntagmref13_Empty.l0, if_pos (by omega)]
  rfl
theorem refE_is : Ev (fun k => syntagmref13_Empty.f k l0 l1 l2 l3 st) (eR l2 l3) := by
 have hS := h.gram.hS
 have h1 := refE_l0 h (l2.length + 1) 0 (List.replicate l2.length false) (by omega) List.length_replicate
 have e : iter (run (allS false l3)) (l2.length + 1) (List.replicate l2.length false) = eR l2 l3 := by
  rw [iter_succ]
  exact allR_still false
 rw [e] at h1
 obtain ⟨K, hK⟩ := h1
 refine ⟨K, fun k hk => ?_⟩
 show syntagmref13_Empty.f k l0 l1 l2 l3 st = _
 unfold syntagmref13_Empty.f
 rw [refv_is (order_range h), h.valid, Option.bind_some, if_pos rfl, if_pos (by omega), Int.toNat_natCast, if_pos (by omega)]
 exact hK k hk
end
theorem refE_not {l0 : List S51} {l1 : List S63} {l2 : List ByteArray} {l3 : List S45} {st : Int} (h : validB l0 l1 l2 l3 st = false) (hr : ∀ p ∈ l3, ∀ s ∈ p.f2, -9223372036854775808 ≤ s ∧ s ≤ 9223372036854775807) (k : Nat) : syntagmref13_Empty.f k l0 l1 l2 l3 st = some [] := by
 unfold syntagmref13_Empty.f
 rw [refv_is hr, h, Option.bind_some]
 rfl

/-! ### syntagmref13_Lives -/
def goodL (xs : List Bool) (s : Int) : Bool := decide (0 ≤ s) || rdOf false xs (-1 - s)
theorem moreL {nT nS : Nat} {ps : List S45} (hG : Gram nT nS ps) (xs : List Bool) (p : S45) (hp : p ∈ ps) : moreB true xs p = (rdOf false xs p.f1 || p.f2.all (goodL xs)) := by
 have e : p.f2.any (badB true xs) = !p.f2.all (goodL xs) := any_not _ _ _ fun s hs => by
  unfold badB goodL
  by_cases hn : s < 0
  ·rw [(sym_in hG p hp s hs hn).1, decide_eq_true hn, decide_eq_false (by omega : ¬ 0 ≤ s)]
   simp
  ·rw [decide_eq_false hn, decide_eq_true (by omega : 0 ≤ s)]
   simp
 unfold moreB
 rw [e]
 cases p.f2.all (goodL xs)
 ·simp
 ·simp
section
variable {l0 : List S51} {l1 : List S63} {l2 : List ByteArray} {l3 : List S45} {st : Int} (h : Order l0 l1 l2 l3 st)
include h
theorem refL_l2 (i : Nat) (hi : i < l3.length) (xs : List Bool) (hx : xs.length = l2.length) (r : Int) (R : List Bool) : ∀ (m j : Nat) (a : Bool), j + m = l3[i].f2.length →
  Ev (fun k => syntagmref13_Lives.l1 k (xs.set l3[i].f1.toNat (rdOf false xs l3[i].f1 || (a && (l3[i].f2.drop j).all (goodL xs)))) r ((i + 1 : Nat) : Int) l0 l1 l2 l3 st) R → Ev (fun k => syntagmref13_Lives.l2 k xs r i a j l0 l1 l2 l3 st) R
 | 0, j, a, hj, hE => by
  refine hE.succ fun k => ?_
  have hmem : l3[i] ∈ l3 := List.getElem_mem hi
  have hs := h.gram.srt l3[i] hmem
  have hsm := (order_small h).1
  rw [syntagmref13_Lives.l2, rd45_in l3 i hi, if_pos (by omega), if_pos (by omega), if_neg (by omega), if_pos hs.1, if_pos (by omega), wrap64_succ i (by omega), List.drop_eq_nil_of_le (by omega)]
  by_cases hr : rdOf false xs l3[i].f1 = true
  ·rw [if_pos hr, hr]; simp
  ·rw [if_neg hr]
   have : rdOf false xs l3[i].f1 = false := by simpa using hr
   rw [this]; simp
 | m + 1, j, a, hj, hE => by
  have hmem : l3[i] ∈ l3 := List.getElem_mem hi
  have hjl : j < l3[i].f2.length := by omega
  have hs := h.gram.sym l3[i] hmem l3[i].f2[j] (List.getElem_mem hjl)
  have hS := h.gram.hS
  have hl := (order_small h).2 l3[i] hmem
  have hsm := (order_small h).1
  rw [List.drop_eq_getElem_cons hjl, List.all_cons, ← Bool.and_assoc] at hE
  have ih := refL_l2 i hi xs hx r R m (j + 1) (a && goodL xs l3[i].f2[j]) (by omega) hE
  refine ih.succ fun k => ?_
  rw [syntagmref13_Lives.l2, rd45_in l3 i hi, if_pos (by omega), if_pos (by omega), if_pos (by omega), if_pos (by omega), rd_in _ j hjl, wrap64_succ j (by omega)]
  cases a
  ·rw [if_neg (by decide)]; rfl
  ·rw [if_pos rfl, Bool.true_and]
   unfold goodL
   by_cases hn : l3[i].f2[j] ≥ 0
   ·rw [if_pos hn, decide_eq_true (by omega : 0 ≤ l3[i].f2[j]), Bool.true_or]
   ·rw [if_neg hn, wrap64_neg (by omega) (by omega), if_pos (by omega), if_pos (by omega), decide_eq_false (by omega : ¬ 0 ≤ l3[i].f2[j]), Bool.false_or]
theorem refL_l1 (r : Nat) (hr : r ≤ l2.length) (R : List Bool) : ∀ (m i : Nat) (xs : List Bool), i + m = l3.length → xs.length = l2.length →
  Ev (fun k => syntagmref13_Lives.l0 k (run (allS true (l3.drop i)) xs) ((r + 1 : Nat) : Int) l0 l1 l2 l3 st) R → Ev (fun k => syntagmref13_Lives.l1 k xs r i l0 l1 l2 l3 st) R
 | 0, i, xs, hi, hx, hE => by
  have hS := h.gram.hS
  refine hE.succ fun k => ?_
  rw [syntagmref13_Lives.l1, if_neg (by omega), wrap64_succ r (by omega), List.drop_eq_nil_of_le (by omega)]
  rfl
 | m + 1, i, xs, hi, hx, hE => by
  have hlt : i < l3.length := by omega
  have hmem : l3[i] ∈ l3 := List.getElem_mem hlt
  rw [List.drop_eq_getElem_cons hlt] at hE
  have e : run (allS true (l3[i] :: l3.drop (i + 1))) xs = run (allS true (l3.drop (i + 1))) (xs.set l3[i].f1.toNat (rdOf false xs l3[i].f1 || l3[i].f2.all (goodL xs))) := by
   show run (allS true (l3.drop (i + 1))) (xs.set l3[i].f1.toNat (moreB true xs l3[i])) = _
   rw [moreL h.gram xs l3[i] hmem]
  have h1 := refL_l1 r hr R m (i + 1) (xs.set l3[i].f1.toNat (rdOf false xs l3[i].f1 || l3[i].f2.all (goodL xs))) (by omega) (by rw [List.length_set]; exact hx) (by rw [← e]; exact hE)
  have h2 := refL_l2 h i hlt xs hx r R l3[i].f2.length 0 true (by omega) (by rw [List.drop_zero, Bool.true_and]; exact h1)
  refine h2.succ fun k => ?_
  rw [syntagmref13_Lives.l1, if_pos (by omega)]
  rfl
theorem refL_l0 : ∀ (m r : Nat) (xs : List Bool), r + m = l2.length + 1 → xs.length = l2.length → Ev (fun k => syntagmref13_Lives.l0 k xs r l0 l1 l2 l3 st) (iter (run (allS true l3)) m xs)
 | 0, r, xs, hr, hx => by
  refine (Ev.all (f := fun _ => some xs) (fun _ => rfl)).succ fun k => ?_
  rw [syntagmref13_Lives.l0, if_neg (by omega)]
 | m + 1, r, xs, hr, hx => by
  have hl : (run (allS true l3) xs).length = l2.length := (run_ok _ xs (allS_grows true) (okL_bool _ _ hx)).1.1
  have h1 := refL_l1 h r (by omega) _ l3.length 0 xs (by omega) hx (by rw [List.drop_zero]; exact refL_l0 m (r + 1) _ (by omega) hl)
  refine h1.succ fun k => ?_
  rw [syntagmref13_Lives.l0, if_pos (by omega)]
  rfl
theorem refL_is : Ev (fun k => syntagmref13_Lives.f k l0 l1 l2 l3 st) (lR l2 l3) := by
 have hS := h.gram.hS
 have h1 := refL_l0 h (l2.length + 1) 0 (List.replicate l2.length false) (by omega) List.length_replicate
 have e : iter (run (allS true l3)) (l2.length + 1) (List.replicate l2.length false) = lR l2 l3 := by
  rw [iter_succ]
  exact allR_still true
 rw [e] at h1
 obtain ⟨K, hK⟩ := h1
 refine ⟨K, fun k hk => ?_⟩
 show syntagmref13_Lives.f k l0 l1 l2 l3 st = _
 unfold syntagmref13_Lives.f
 rw [refv_is (order_range h), h.valid, Option.bind_some, if_pos rfl, if_pos (by omega), Int.toNat_natCast, if_pos (by omega)]
 exact hK k hk
end
theorem refL_not {l0 : List S51} {l1 : List S63} {l2 : List ByteArray} {l3 : List S45} {st : Int} (h : validB l0 l1 l2 l3 st = false) (hr : ∀ p ∈ l3, ∀ s ∈ p.f2, -9223372036854775808 ≤ s ∧ s ≤ 9223372036854775807) (k : Nat) : syntagmref13_Lives.f k l0 l1 l2 l3 st = some [] := by
 unfold syntagmref13_Lives.f
 rw [refv_is hr, h, Option.bind_some]
 rfl

end Go.Proofs.Ytggfiopajogiiaa.P
end

section
set_option linter.unusedVariables false
set_option linter.unusedSimpArgs false
namespace Go.Proofs.Ytggfiopajogiiaa.P
open Go.RowKit Go.Proofs.YtggfiopajogiiaaW.PrintWords Go.Proofs.YtggfiopajogiiaaW.PrintLast Go.Proofs.YtggfiopajogiiaaW.PrintMore Bitty

theorem Ev.two {α : Type} {f g : Nat → Option α} {v : α} (h : Ev f v) (hg : ∀ k, g (k + 2) = f k) : Ev g v := by
 obtain ⟨K, hK⟩ := h
 refine ⟨K + 2, fun k hk => ?_⟩
 obtain ⟨k, rfl⟩ : ∃ m, k = m + 2 := ⟨k - 2, by omega⟩
 rw [hg]
 exact hK k (by omega)
theorem Ev.same {α : Type} {f g : Nat → Option α} {v : α} (h : Ev f v) (hg : ∀ k, g k = f k) : Ev g v := by
 obtain ⟨K, hK⟩ := h
 exact ⟨K, fun k hk => by rw [hg]; exact hK k hk⟩

/-! ### rows -/
section
variable {l0 : List S51} {l1 : List S63} {l2 : List ByteArray} {l3 : List S45} {st : Int} (es : List Bool) (fs : List Int) (l : List Int) (behind : Int)
  (hT : l0.length ≤ 60) (hS : l2.length ≤ 60) (he : es.length = l2.length) (hf : okL l2.length fs) (hb : ok behind) (hl : l.length ≤ 4611686018427387904) (hr : ∀ s ∈ l, -9223372036854775808 ≤ s ∧ s ≤ 9223372036854775807)
include hT hS he hf hb hl hr
theorem refrow_l0 : ∀ (m i : Nat) (out v : Int), i + m = l.length → ok out → rowF l0.length l2.length es fs behind (l.drop i) out = some v → Ev (fun k => syntagmref13_row.l0 k es fs l behind out i l0 l1 l2 l3 st) v
 | 0, i, out, v, hi, ho, hv => by
  rw [List.drop_eq_nil_of_le (by omega)] at hv
  have e : Go.bits .or .u64 out behind = v := Option.some.inj hv
  rw [← e]
  refine ((Ev.union ho hb).bind (g := fun _ t => some t) (Ev.all fun _ => rfl)).succ fun k => ?_
  rw [syntagmref13_row.l0, if_neg (by omega)]
 | m + 1, i, out, v, hi, ho, hv => by
  have hlt : i < l.length := by omega
  have hs := hr l[i] (List.getElem_mem hlt)
  rw [rowF_drop _ _ _ _ _ l i hlt] at hv
  obtain ⟨s, hse⟩ : ∃ s, l[i] = s := ⟨_, rfl⟩
  rw [hse] at hs hv
  have hw : s < 0 → wrap64 ((-1) - s) = -1 - s := fun hn => by unfold wrap64; omega
  by_cases h1 : (l0.length : Int) ≤ s
  ·rw [if_pos (.inl h1)] at hv
   refine (Ev.all (f := fun _ => some out) (v := v) (fun _ => hv)).two fun k => ?_
   rw [syntagmref13_row.l0, rd_in l i hlt, hse, if_pos (by omega), if_pos (by omega), if_pos h1, syntagmref13_row.j1, if_pos rfl]
  ·by_cases h2 : s < -(l2.length : Int)
   ·rw [if_pos (.inr h2)] at hv
    refine (Ev.all (f := fun _ => some out) (v := v) (fun _ => hv)).two fun k => ?_
    rw [syntagmref13_row.l0, rd_in l i hlt, hse, if_pos (by omega), if_pos (by omega), if_neg h1, if_pos (by omega), hw (by omega), decide_eq_true (by omega : -1 - s ≥ (l2.length : Int)), syntagmref13_row.j1, if_pos rfl]
   ·rw [if_neg (by omega)] at hv
    by_cases h3 : 0 ≤ s
    ·rw [if_pos h3, with_some out s h3 (by omega)] at hv
     have e := Option.some.inj hv
     rw [← e]
     refine ((Ev.one s h3 (by omega)).bind (g := fun k t => (syntagmref01_Union.f k out t).bind fun t => some t) ((Ev.union ho (bit_ok s h3 (by omega))).bind (g := fun _ t => some t) (Ev.all fun _ => rfl))).two fun k => ?_
     rw [syntagmref13_row.l0, rd_in l i hlt, hse, if_pos (by omega), if_pos (by omega), if_neg h1, if_neg (by omega), syntagmref13_row.j1, if_neg (by decide), if_pos (by omega)]
    ·rw [if_neg h3] at hv
     have hu : bits_Union.f out (rd fs (-1 - s)) = some (Go.bits .or .u64 out (rd fs (-1 - s))) := rfl
     rw [hu, Option.bind_some] at hv
     have hok : ok (rd fs (-1 - s)) := ok_rd hf _
     have hfl := hf.1
     have hend : Ev (fun k => if rdOf false es (-1 - s) = true then syntagmref13_row.l0 k es fs l behind (Go.bits .or .u64 out (rd fs (-1 - s))) ((i + 1 : Nat) : Int) l0 l1 l2 l3 st else some (Go.bits .or .u64 out (rd fs (-1 - s)))) v := by
      by_cases hq : rdOf false es (-1 - s) = true
      ·rw [if_pos hq] at hv
       exact (refrow_l0 m (i + 1) _ v (by omega) (or_ok ho hok) hv).same fun k => by rw [if_pos hq]
      ·rw [if_neg hq] at hv
       exact Ev.all fun k => by rw [if_neg hq]; exact hv
     refine ((Ev.union ho hok).bind (g := fun k t => if rdOf false es (-1 - s) = true then syntagmref13_row.l0 k es fs l behind t ((i + 1 : Nat) : Int) l0 l1 l2 l3 st else some t) hend).two fun k => ?_
     rw [syntagmref13_row.l0, rd_in l i hlt, hse, if_pos (by omega), if_pos (by omega), if_neg h1, if_pos (by omega), hw (by omega), decide_eq_false (by omega : ¬ -1 - s ≥ (l2.length : Int)), syntagmref13_row.j1, if_neg (by decide), if_neg (by omega), hw (by omega), if_pos (by omega), if_pos (by omega), wrap64_succ i (by omega)]
     congr 1
     funext t
     rw [if_pos (by omega)]
theorem refrow_is : Ev (fun k => syntagmref13_row.f k l0 l1 l2 l3 st es fs l behind) (rowV l0.length l2.length es fs behind l) := by
 have h1 := (rowV_has l0.length l2.length es (by omega) fs behind (ok_rd hf) hb l).1
 exact (refrow_l0 es fs l behind hT hS he hf hb hl hr (l1 := l1) (l3 := l3) (st := st) l.length 0 0 _ (by omega) ok_zero (by rw [List.drop_zero]; exact h1)).same fun k => rfl
end

/-! ### First -/
section
variable {l0 : List S51} {l1 : List S63} {l2 : List ByteArray} {l3 : List S45} {st : Int} (h : Order l0 l1 l2 l3 st)
include h
theorem refrow_at (fs : List Int) (hf : okL l2.length fs) (l : List Int) (hl : l.length ≤ 4611686018427387904) (hr : ∀ s ∈ l, -9223372036854775808 ≤ s ∧ s ≤ 9223372036854775807) (behind : Int) (hb : ok behind) :
  Ev (fun k => syntagmref13_row.f k l0 l1 l2 l3 st (eR l2 l3) fs l behind) (rowV l0.length l2.length (eR l2 l3) fs behind l) :=
 refrow_is (eR l2 l3) fs l behind h.gram.hT h.gram.hS (eR_len l2 l3) hf hb hl hr
theorem refF_l1 (r : Nat) (hr : r ≤ l2.length) (R : List Int) : ∀ (m i : Nat) (xs : List Int), i + m = l3.length → okL l2.length xs →
  Ev (fun k => syntagmref13_First.l0 k (eR l2 l3) (run (firS l0.length l2.length (eR l2 l3) (l3.drop i)) xs) ((r + 1 : Nat) : Int) l0 l1 l2 l3 st) R → Ev (fun k => syntagmref13_First.l1 k (eR l2 l3) xs r i l0 l1 l2 l3 st) R
 | 0, i, xs, hi, hx, hE => by
  have hS := h.gram.hS
  refine hE.succ fun k => ?_
  rw [syntagmref13_First.l1, if_neg (by omega), wrap64_succ r (by omega), List.drop_eq_nil_of_le (by omega)]
  rfl
 | m + 1, i, xs, hi, hx, hE => by
  have hlt : i < l3.length := by omega
  have hsm := order_small h
  have hmem : l3[i] ∈ l3 := List.getElem_mem hlt
  have hsrt := h.gram.srt l3[i] hmem
  rw [List.drop_eq_getElem_cons hlt] at hE
  have hg : Grows l2.length (firS l0.length l2.length (eR l2 l3) (l3.drop i)) := firS_grows h.gram.hT
  have hms := moreS_has (es := eR l2 l3) h.gram.hT xs hx l3[i]
  have hx2 : okL l2.length (xs.set l3[i].f1.toNat (moreS l0.length l2.length (eR l2 l3) xs l3[i])) := (set_grow hx hms.1 (fun hh b hb => by
   have e : rdOf 0 xs l3[i].f1 = xs[l3[i].f1.toNat] := getD_at 0 xs _ hh
   rw [hms.2, e, hb, Bool.true_or])).1
  have h1 := refF_l1 r hr R m (i + 1) _ (by omega) hx2 hE
  have hrow := refrow_at h xs hx l3[i].f2 (by have := hsm.2 l3[i] hmem; omega) (fun s hs => order_range h l3[i] hmem s hs) 0 ok_zero
  obtain ⟨r1, r2, r3⟩ := rowV_has l0.length l2.length (eR l2 l3) (by have := h.gram.hT; omega) xs 0 (ok_rd hx) ok_zero l3[i].f2
  have h0 : ok (rd xs l3[i].f1) := ok_rd hx _
  have hun := Ev.union h0 r2
  refine (hrow.bind (g := fun k t => (syntagmref01_Union.f k (rd xs l3[i].f1) t).bind fun t' => syntagmref13_First.l1 k (eR l2 l3) (xs.set l3[i].f1.toNat t') r ((i + 1 : Nat) : Int) l0 l1 l2 l3 st) (hun.bind (g := fun k t' => syntagmref13_First.l1 k (eR l2 l3) (xs.set l3[i].f1.toNat t') r ((i + 1 : Nat) : Int) l0 l1 l2 l3 st) h1)).succ fun k => ?_
  rw [syntagmref13_First.l1, rd45_in l3 i hlt, if_pos (by omega), if_pos (by omega), if_pos hsrt.1, if_pos (by rw [hx.1]; omega), wrap64_succ i (by omega)]
theorem refF_l0 : ∀ (m r : Nat) (xs : List Int), r + m = l2.length + 1 → okL l2.length xs → Ev (fun k => syntagmref13_First.l0 k (eR l2 l3) xs r l0 l1 l2 l3 st) (iter (run (firS l0.length l2.length (eR l2 l3) l3)) m xs)
 | 0, r, xs, hr, hx => by
  refine (Ev.all (f := fun _ => some xs) (fun _ => rfl)).succ fun k => ?_
  rw [syntagmref13_First.l0, if_neg (by omega)]
 | m + 1, r, xs, hr, hx => by
  have hl : okL l2.length (run (firS l0.length l2.length (eR l2 l3) l3) xs) := (run_ok _ xs (firS_grows h.gram.hT) hx).1
  have h1 := refF_l1 h r (by omega) _ l3.length 0 xs (by omega) hx (by rw [List.drop_zero]; exact refF_l0 m (r + 1) _ (by omega) hl)
  refine h1.succ fun k => ?_
  rw [syntagmref13_First.l0, if_pos (by omega)]
  rfl
theorem refF_is : Ev (fun k => syntagmref13_First.f k l0 l1 l2 l3 st) (fR l0 l2 l3) := by
 have hS := h.gram.hS
 have h1 := refF_l0 h (l2.length + 1) 0 (List.replicate l2.length 0) (by omega) (okL_zero _)
 have e : iter (run (firS l0.length l2.length (eR l2 l3) l3)) (l2.length + 1) (List.replicate l2.length 0) = fR l0 l2 l3 := by
  rw [iter_succ]
  exact firR_still h.gram
 rw [e] at h1
 have hn : 0 < l2.length := by have := h.lo; have := h.hi; omega
 refine ((refE_is h).bind (g := fun k t => if (t.length : Int) = 0 then some [] else if 0 ≤ (l2.length : Int) then if ((l2.length : Int)).toNat ≤ 35184372088832 then syntagmref13_First.l0 k t (List.replicate ((l2.length : Int)).toNat 0) 0 l0 l1 l2 l3 st else none else none) (h1.same fun k => ?_)).same fun k => rfl
 rw [eR_len, if_neg (by omega), if_pos (by omega), Int.toNat_natCast, if_pos (by omega)]
 rfl
theorem refO_is (l : List Int) (hl : l.length ≤ 4611686018427387904) (hr : ∀ s ∈ l, -9223372036854775808 ≤ s ∧ s ≤ 9223372036854775807) (behind : Int) (hb : ok behind) : Ev (fun k => syntagmref13_Of.f k l0 l1 l2 l3 st l behind) (oR l0 l2 l3 l behind) := by
 have hn : 0 < l2.length := by have := h.lo; have := h.hi; omega
 have hlen := (fR_ok h).1
 have hrow := refrow_at h (fR l0 l2 l3) (fR_ok h) l hl hr behind hb
 have h2 := (refE_is h).bind (g := fun k t => (syntagmref13_row.f k l0 l1 l2 l3 st t (fR l0 l2 l3) l behind).bind fun t => some t) (hrow.bind (g := fun _ t => some t) (Ev.all fun _ => rfl))
 refine ((refF_is h).bind (g := fun k t => if (t.length : Int) = 0 then some 0 else (syntagmref13_Empty.f k l0 l1 l2 l3 st).bind fun t' => (syntagmref13_row.f k l0 l1 l2 l3 st t' t l behind).bind fun t => some t) (h2.same fun k => ?_)).same fun k => rfl
 rw [if_neg (by omega)]
end

/-! ### Follow -/
section
variable {l0 : List S51} {l1 : List S63} {l2 : List ByteArray} {l3 : List S45} {st : Int} (h : Order l0 l1 l2 l3 st)
include h
theorem refW_l2 (r : Int) (i : Nat) (hi : i < l3.length) (R : List Int) : ∀ (m j : Nat) (xs : List Int), j + m = l3[i].f2.length → okL l2.length xs →
  Ev (fun k => syntagmref13_Follow.l1 k (fR l0 l2 l3) (eR l2 l3) (run (symS l0.length l2.length (eR l2 l3) (fR l0 l2 l3) l3[i].f1 (l3[i].f2.drop j)) xs) r ((i + 1 : Nat) : Int) l0 l1 l2 l3 st) R →
  Ev (fun k => syntagmref13_Follow.l2 k (fR l0 l2 l3) (eR l2 l3) xs r i j l0 l1 l2 l3 st l3[i].f0 l3[i].f1 l3[i].f2 l3[i].f3) R
 | 0, j, xs, hj, hx, hE => by
  have hsm := order_small h
  refine hE.succ fun k => ?_
  rw [syntagmref13_Follow.l2, if_neg (by omega), wrap64_succ i (by omega), List.drop_eq_nil_of_le (by omega)]
  rfl
 | m + 1, j, xs, hj, hx, hE => by
  have hmem : l3[i] ∈ l3 := List.getElem_mem hi
  have hjl : j < l3[i].f2.length := by omega
  have hs := h.gram.sym l3[i] hmem l3[i].f2[j] (List.getElem_mem hjl)
  have hS := h.gram.hS
  have hl := (order_small h).2 l3[i] hmem
  have hsrt := h.gram.srt l3[i] hmem
  have hrg := order_range h l3[i] hmem
  rw [List.drop_eq_getElem_cons hjl] at hE
  unfold symS at hE
  by_cases hn : 0 ≤ l3[i].f2[j]
  ·rw [if_pos hn] at hE
   have ih := refW_l2 r i hi R m (j + 1) xs (by omega) hx hE
   refine ih.succ fun k => ?_
   rw [syntagmref13_Follow.l2, if_pos (by omega), if_pos (by omega), rd_in _ j hjl, if_neg (by omega), wrap64_succ j (by omega)]
  ·rw [if_neg hn] at hE
   obtain ⟨e1, e2, e3⟩ := sym_in h.gram l3[i] hmem _ (List.getElem_mem hjl) (by omega)
   have hms := folMore_has (es := eR l2 l3) h.gram.hT (fR_ok h) l3[i].f1 l3[i].f2[j] (l3[i].f2.drop (j + 1)) xs hx
   have hx2 : okL l2.length (xs.set (IntKind.i64.wrap (-1 - l3[i].f2[j])).toNat (folMore l0.length l2.length (eR l2 l3) (fR l0 l2 l3) l3[i].f1 l3[i].f2[j] (l3[i].f2.drop (j + 1)) xs)) := (set_grow hx hms.1 (fun hh b hb => by
    have e : rd xs (IntKind.i64.wrap (-1 - l3[i].f2[j])) = xs[(IntKind.i64.wrap (-1 - l3[i].f2[j])).toNat] := getD_at 0 xs _ hh
    rw [hms.2, e, hb, Bool.true_or])).1
   have ih := refW_l2 r i hi R m (j + 1) _ (by omega) hx2 hE
   have hb : ok (rd xs l3[i].f1) := ok_rd hx _
   have hrow := refrow_at h (fR l0 l2 l3) (fR_ok h) (l3[i].f2.drop (j + 1)) (by rw [List.length_drop]; omega) (fun s hs => hrg s (List.mem_of_mem_drop hs)) (rd xs l3[i].f1) hb
   obtain ⟨r1, r2, r3⟩ := rowV_has l0.length l2.length (eR l2 l3) (by have := h.gram.hT; omega) (fR l0 l2 l3) (rd xs l3[i].f1) (ok_rd (fR_ok h)) hb (l3[i].f2.drop (j + 1))
   have h0 : ok (rd xs (-1 - l3[i].f2[j])) := ok_rd hx _
   have hun := Ev.union h0 r2
   have em : Go.bits .or .u64 (rd xs (-1 - l3[i].f2[j])) (rowV l0.length l2.length (eR l2 l3) (fR l0 l2 l3) (rd xs l3[i].f1) (l3[i].f2.drop (j + 1))) = folMore l0.length l2.length (eR l2 l3) (fR l0 l2 l3) l3[i].f1 l3[i].f2[j] (l3[i].f2.drop (j + 1)) xs := by
    unfold folMore; rw [e1]; rfl
   rw [em] at hun
   rw [e1] at ih
   refine (hrow.bind (g := fun k t => (syntagmref01_Union.f k (rd xs (-1 - l3[i].f2[j])) t).bind fun t' => syntagmref13_Follow.l2 k (fR l0 l2 l3) (eR l2 l3) (xs.set (-1 - l3[i].f2[j]).toNat t') r i ((j + 1 : Nat) : Int) l0 l1 l2 l3 st l3[i].f0 l3[i].f1 l3[i].f2 l3[i].f3) (hun.bind (g := fun k t' => syntagmref13_Follow.l2 k (fR l0 l2 l3) (eR l2 l3) (xs.set (-1 - l3[i].f2[j]).toNat t') r i ((j + 1 : Nat) : Int) l0 l1 l2 l3 st l3[i].f0 l3[i].f1 l3[i].f2 l3[i].f3) ih)).succ fun k => ?_
   have hx1 := hx.1
   rw [syntagmref13_Follow.l2, if_pos (by omega), if_pos (by omega), rd_in _ j hjl, if_pos (by omega), wrap64_neg (by omega) (by omega), if_pos (by omega), if_pos (by omega), wrap64_succ j (by omega), if_pos (by omega), if_pos (by omega), if_pos hsrt.1, if_pos (by omega), Int.toNat_natCast]
theorem refW_l1 (r : Nat) (hr : r ≤ l2.length) (R : List Int) : ∀ (m i : Nat) (xs : List Int), i + m = l3.length → okL l2.length xs →
  Ev (fun k => syntagmref13_Follow.l0 k (fR l0 l2 l3) (eR l2 l3) (run (folS l0.length l2.length (eR l2 l3) (fR l0 l2 l3) (l3.drop i)) xs) ((r + 1 : Nat) : Int) l0 l1 l2 l3 st) R → Ev (fun k => syntagmref13_Follow.l1 k (fR l0 l2 l3) (eR l2 l3) xs r i l0 l1 l2 l3 st) R
 | 0, i, xs, hi, hx, hE => by
  have hS := h.gram.hS
  refine hE.succ fun k => ?_
  rw [syntagmref13_Follow.l1, if_neg (by omega), wrap64_succ r (by omega), List.drop_eq_nil_of_le (by omega)]
  rfl
 | m + 1, i, xs, hi, hx, hE => by
  have hlt : i < l3.length := by omega
  rw [List.drop_eq_getElem_cons hlt] at hE
  have e : folS l0.length l2.length (eR l2 l3) (fR l0 l2 l3) (l3[i] :: l3.drop (i + 1)) = symS l0.length l2.length (eR l2 l3) (fR l0 l2 l3) l3[i].f1 l3[i].f2 ++ folS l0.length l2.length (eR l2 l3) (fR l0 l2 l3) (l3.drop (i + 1)) := by unfold folS; rw [List.flatMap_cons]
  rw [e, run_append] at hE
  have hg : Grows l2.length (folS l0.length l2.length (eR l2 l3) (fR l0 l2 l3) [l3[i]]) := folS_grows h.gram.hT (fR_ok h)
  have e1 : folS l0.length l2.length (eR l2 l3) (fR l0 l2 l3) [l3[i]] = symS l0.length l2.length (eR l2 l3) (fR l0 l2 l3) l3[i].f1 l3[i].f2 := by simp [folS]
  rw [e1] at hg
  have hx2 := (run_ok _ xs hg hx).1
  have h1 := refW_l1 r hr R m (i + 1) _ (by omega) hx2 hE
  have h2 := refW_l2 h r i hlt R l3[i].f2.length 0 xs (by omega) hx (by rw [List.drop_zero]; exact h1)
  refine h2.succ fun k => ?_
  rw [syntagmref13_Follow.l1, if_pos (by omega), if_pos (by omega), rd45_in l3 i hlt]
  rfl
theorem refW_l0 : ∀ (m r : Nat) (xs : List Int), r + m = l2.length + 1 → okL l2.length xs → Ev (fun k => syntagmref13_Follow.l0 k (fR l0 l2 l3) (eR l2 l3) xs r l0 l1 l2 l3 st) (iter (run (folS l0.length l2.length (eR l2 l3) (fR l0 l2 l3) l3)) m xs)
 | 0, r, xs, hr, hx => by
  refine (Ev.all (f := fun _ => some xs) (fun _ => rfl)).succ fun k => ?_
  rw [syntagmref13_Follow.l0, if_neg (by omega)]
 | m + 1, r, xs, hr, hx => by
  have hl : okL l2.length (run (folS l0.length l2.length (eR l2 l3) (fR l0 l2 l3) l3) xs) := (run_ok _ xs (folS_grows h.gram.hT (fR_ok h)) hx).1
  have h1 := refW_l1 h r (by omega) _ l3.length 0 xs (by omega) hx (by rw [List.drop_zero]; exact refW_l0 m (r + 1) _ (by omega) hl)
  refine h1.succ fun k => ?_
  rw [syntagmref13_Follow.l0, if_pos (by omega)]
  rfl
theorem refW_is : Ev (fun k => syntagmref13_Follow.f k l0 l1 l2 l3 st) (wR l0 l2 l3 st) := by
 have hS := h.gram.hS
 have hlo := h.lo
 have hhi := h.hi
 have h1 := refW_l0 h (l2.length + 1) 0 (fol0 l2.length st) (by omega) fol0_ok
 have e : iter (run (folS l0.length l2.length (eR l2 l3) (fR l0 l2 l3) l3)) (l2.length + 1) (fol0 l2.length st) = wR l0 l2 l3 st := by
  rw [iter_succ]
  exact folR_still h.gram (fR_ok h)
 rw [e] at h1
 have hlen := (fR_ok h).1
 have h2 := (Ev.one 63 (by omega) (by omega)).bind (g := fun k t => if 0 ≤ st then if st < ((List.replicate l2.length (0 : Int)).length : Int) then syntagmref13_Follow.l0 k (fR l0 l2 l3) (eR l2 l3) ((List.replicate l2.length 0).set st.toNat t) 0 l0 l1 l2 l3 st else none else none) (h1.same fun k => by
  rw [if_pos hlo, List.length_replicate, if_pos hhi]; rfl)
 have h3 := (refE_is h).bind (g := fun k t => (syntagmref01_Of.f k [63]).bind fun t' => if 0 ≤ st then if st < ((List.replicate l2.length (0 : Int)).length : Int) then syntagmref13_Follow.l0 k (fR l0 l2 l3) t ((List.replicate l2.length 0).set st.toNat t') 0 l0 l1 l2 l3 st else none else none) h2
 have h4 := (refF_is h).bind (g := fun k t => (syntagmref13_Empty.f k l0 l1 l2 l3 st).bind fun t2 => (syntagmref01_Of.f k [63]).bind fun t' => if 0 ≤ st then if st < ((List.replicate l2.length (0 : Int)).length : Int) then syntagmref13_Follow.l0 k t t2 ((List.replicate l2.length 0).set st.toNat t') 0 l0 l1 l2 l3 st else none else none) h3
 obtain ⟨K, hK⟩ := h4
 obtain ⟨L, hL⟩ := refF_is h
 refine ⟨max K L, fun k hk => ?_⟩
 have hk1 := hK k (by omega)
 have hk2 := hL k (by omega)
 dsimp only at hk1 hk2
 show syntagmref13_Follow.f k l0 l1 l2 l3 st = _
 unfold syntagmref13_Follow.f
 rw [hk2, Option.bind_some] at hk1 ⊢
 rw [if_neg (by omega)]
 rw [← hk1]
 congr 1
 funext t2
 rw [if_pos (by omega), Int.toNat_natCast, if_pos (by omega), Option.bind_some]
end

/-! ### of one that is not in order -/
section
variable {l0 : List S51} {l1 : List S63} {l2 : List ByteArray} {l3 : List S45} {st : Int} (h : validB l0 l1 l2 l3 st = false) (hr : ∀ p ∈ l3, ∀ s ∈ p.f2, -9223372036854775808 ≤ s ∧ s ≤ 9223372036854775807)
include h hr
theorem refF_not (k : Nat) : syntagmref13_First.f k l0 l1 l2 l3 st = some [] := by
 unfold syntagmref13_First.f
 rw [refE_not h hr, Option.bind_some]
 rfl
theorem refW_not (k : Nat) : syntagmref13_Follow.f k l0 l1 l2 l3 st = some [] := by
 unfold syntagmref13_Follow.f
 rw [refF_not h hr, Option.bind_some]
 rfl
theorem refO_not (l : List Int) (behind : Int) (k : Nat) : syntagmref13_Of.f k l0 l1 l2 l3 st l behind = some 0 := by
 unfold syntagmref13_Of.f
 rw [refF_not h hr, Option.bind_some]
 rfl
end

/-! ### the same -/
theorem ref_same_l0 (xs : List Int) (hx : xs.length ≤ 9223372036854775806) : ∀ (m i : Nat), i + m = xs.length → Ev (fun k => syntagmref13_Same.l0 k xs xs i) true
 | 0, i, hi => by
  refine (Ev.all (f := fun _ => some true) (fun _ => rfl)).succ fun k => ?_
  rw [syntagmref13_Same.l0, if_neg (by omega)]
 | m + 1, i, hi => by
  refine (ref_same_l0 xs hx m (i + 1) (by omega)).succ fun k => ?_
  rw [syntagmref13_Same.l0, if_pos (by omega), if_pos (by omega), if_pos (by omega), if_pos rfl, wrap64_succ i (by omega)]
theorem ref_same (xs : List Int) (hx : xs.length ≤ 9223372036854775806) : Ev (fun k => syntagmref13_Same.f k xs xs) true :=
 (ref_same_l0 xs hx xs.length 0 (by omega)).same fun k => by unfold syntagmref13_Same.f; rw [if_pos rfl]; rfl

end Go.Proofs.Ytggfiopajogiiaa.P
end

section
set_option linter.unusedVariables false
set_option linter.unusedSimpArgs false
namespace Go.Proofs.Ytggfiopajogiiaa.Pure
open Go.RowKit Go.Proofs.Ytggfiopajogiiaa.P Go.Proofs.YtggfiopajogiiaaW.PrintWords Go.Proofs.YtggfiopajogiiaaW.PrintLast Go.Proofs.YtggfiopajogiiaaW.PrintMore Go.Proofs.Ytggfiopajogiiaa.P.Bitty

section
variable {l0 : List S51} {l1 : List S63} {l2 : List ByteArray} {l3 : List S45} {st : Int} {l : List Int} {behind : Int} {e lv : List Bool} {f w : List Int} {o : Int}
  (hF : P.Ev (fun k => sets_First.f k l0 l1 l2 l3 st) f) (hF' : P.Ev (fun k => syntagmref13_First.f k l0 l1 l2 l3 st) f) (hW : P.Ev (fun k => sets_Follow.f k l0 l1 l2 l3 st) w) (hW' : P.Ev (fun k => syntagmref13_Follow.f k l0 l1 l2 l3 st) w)
  (hO : P.Ev (fun k => sets_Of.f k l0 l1 l2 l3 st l behind) o) (hO' : P.Ev (fun k => syntagmref13_Of.f k l0 l1 l2 l3 st l behind) o) (hlf : f.length ≤ 9223372036854775806) (hlw : w.length ≤ 9223372036854775806) (hle : e.length ≤ 9223372036854775806) (hlv : lv.length = e.length)
include hF hF' hW hW' hO hO' hlf hlw hle hlv
theorem tell_l0 : ∀ (m i : Nat), i + m = e.length → P.Ev (fun k => syntagmlaw13_SetsTell.l0 k l behind true e e lv lv i l0 l1 l2 l3 st) true
 | 0, i, hi => by
  have h1 := hO.bind (g := fun k t => (syntagmref13_Of.f k l0 l1 l2 l3 st l behind).bind fun t' => some (t == t')) (hO'.bind (g := fun _ t' => some (o == t')) (v := true) (P.Ev.all fun _ => by simp))
  have h2 := (ref_same w hlw).bind (g := fun k t => if t = true then (sets_Of.f k l0 l1 l2 l3 st l behind).bind fun t => (syntagmref13_Of.f k l0 l1 l2 l3 st l behind).bind fun t' => some (t == t') else some false) (h1.same fun k => if_pos rfl)
  have h3 := hW.bind (g := fun k t => (syntagmref13_Follow.f k l0 l1 l2 l3 st).bind fun t' => (syntagmref13_Same.f k t t').bind fun t => if t = true then (sets_Of.f k l0 l1 l2 l3 st l behind).bind fun t => (syntagmref13_Of.f k l0 l1 l2 l3 st l behind).bind fun t' => some (t == t') else some false)
   (hW'.bind (g := fun k t' => (syntagmref13_Same.f k w t').bind fun t => if t = true then (sets_Of.f k l0 l1 l2 l3 st l behind).bind fun t => (syntagmref13_Of.f k l0 l1 l2 l3 st l behind).bind fun t' => some (t == t') else some false) h2)
  have h4 := (ref_same f hlf).bind (g := fun k t => if t = true then (sets_Follow.f k l0 l1 l2 l3 st).bind fun t => (syntagmref13_Follow.f k l0 l1 l2 l3 st).bind fun t' => (syntagmref13_Same.f k t t').bind fun t => if t = true then (sets_Of.f k l0 l1 l2 l3 st l behind).bind fun t => (syntagmref13_Of.f k l0 l1 l2 l3 st l behind).bind fun t' => some (t == t') else some false else some false) (h3.same fun k => if_pos rfl)
  have h5 := hF.bind (g := fun k t => (syntagmref13_First.f k l0 l1 l2 l3 st).bind fun t' => (syntagmref13_Same.f k t t').bind fun t => if t = true then (sets_Follow.f k l0 l1 l2 l3 st).bind fun t => (syntagmref13_Follow.f k l0 l1 l2 l3 st).bind fun t' => (syntagmref13_Same.f k t t').bind fun t => if t = true then (sets_Of.f k l0 l1 l2 l3 st l behind).bind fun t => (syntagmref13_Of.f k l0 l1 l2 l3 st l behind).bind fun t' => some (t == t') else some false else some false)
   (hF'.bind (g := fun k t' => (syntagmref13_Same.f k f t').bind fun t => if t = true then (sets_Follow.f k l0 l1 l2 l3 st).bind fun t => (syntagmref13_Follow.f k l0 l1 l2 l3 st).bind fun t' => (syntagmref13_Same.f k t t').bind fun t => if t = true then (sets_Of.f k l0 l1 l2 l3 st l behind).bind fun t => (syntagmref13_Of.f k l0 l1 l2 l3 st l behind).bind fun t' => some (t == t') else some false else some false) h4)
  refine h5.succ fun k => ?_
  rw [syntagmlaw13_SetsTell.l0, if_neg (by omega), if_pos rfl]
 | m + 1, i, hi => by
  refine (tell_l0 m (i + 1) (by omega)).succ fun k => ?_
  rw [syntagmlaw13_SetsTell.l0, if_pos (by omega), if_pos (by omega), if_pos (by omega), if_neg (by simp), if_pos (by omega), if_pos (by omega), if_neg (by simp), wrap64_succ i (by omega)]
theorem tell_j0 (hE : P.Ev (fun k => sets_Empty.f k l0 l1 l2 l3 st) e) (hE' : P.Ev (fun k => syntagmref13_Empty.f k l0 l1 l2 l3 st) e) (hL : P.Ev (fun k => sets_Lives.f k l0 l1 l2 l3 st) lv) (hL' : P.Ev (fun k => syntagmref13_Lives.f k l0 l1 l2 l3 st) lv) :
  P.Ev (fun k => syntagmlaw13_SetsTell.j0 k l behind true false l0 l1 l2 l3 st) true := by
 have h0 := tell_l0 hF hF' hW hW' hO hO' hlf hlw hle hlv e.length 0 (by omega)
 have h1 : P.Ev (fun k => syntagmlaw13_SetsTell.j1 k l behind true e e lv lv false l0 l1 l2 l3 st) true := h0.succ fun k => by
  rw [syntagmlaw13_SetsTell.j1, if_neg (by decide)]; rfl
 have h2 := hL.bind (g := fun k t => (syntagmref13_Lives.f k l0 l1 l2 l3 st).bind fun t' => if (e.length : Int) = (e.length : Int) then syntagmlaw13_SetsTell.j1 k l behind true e e t t' ((t.length : Int) != (t'.length : Int)) l0 l1 l2 l3 st else syntagmlaw13_SetsTell.j1 k l behind true e e t t' true l0 l1 l2 l3 st)
  (hL'.bind (g := fun k t' => if (e.length : Int) = (e.length : Int) then syntagmlaw13_SetsTell.j1 k l behind true e e lv t' ((lv.length : Int) != (t'.length : Int)) l0 l1 l2 l3 st else syntagmlaw13_SetsTell.j1 k l behind true e e lv t' true l0 l1 l2 l3 st) (h1.same fun k => by rw [if_pos rfl]; simp))
 have h3 := hE.bind (g := fun k a => (syntagmref13_Empty.f k l0 l1 l2 l3 st).bind fun b => (sets_Lives.f k l0 l1 l2 l3 st).bind fun t => (syntagmref13_Lives.f k l0 l1 l2 l3 st).bind fun t' => if (a.length : Int) = (b.length : Int) then syntagmlaw13_SetsTell.j1 k l behind true a b t t' ((t.length : Int) != (t'.length : Int)) l0 l1 l2 l3 st else syntagmlaw13_SetsTell.j1 k l behind true a b t t' true l0 l1 l2 l3 st)
  (hE'.bind (g := fun k b => (sets_Lives.f k l0 l1 l2 l3 st).bind fun t => (syntagmref13_Lives.f k l0 l1 l2 l3 st).bind fun t' => if (e.length : Int) = (b.length : Int) then syntagmlaw13_SetsTell.j1 k l behind true e b t t' ((t.length : Int) != (t'.length : Int)) l0 l1 l2 l3 st else syntagmlaw13_SetsTell.j1 k l behind true e b t t' true l0 l1 l2 l3 st) h2)
 refine h3.succ fun k => ?_
 rw [syntagmlaw13_SetsTell.j0, if_neg (by decide)]
end

theorem ev_from {α : Type} {f : Nat → Option α} {v : α} (K : Nat) (h : ∀ k, K ≤ k → f k = some v) : P.Ev f v := ⟨K, h⟩

theorem SetsTell (x0 : S27) (l1 : List Int) (a2 : Int) (w0 : wf27 x0) (w1 : l1.length ≤ 9223372036854775807 ∧ ∀ x ∈ l1, (Lit.int .i64 x).wf = true) (w2 : (Lit.int .u64 a2).wf = true) : ∃ k, syntagmlaw13_SetsTell.f k x0.f0 x0.f1 x0.f2 x0.f3 x0.f4 l1 a2 = some true := by
 have hb := u64_ok w2
 have hrl : ∀ s ∈ l1, -9223372036854775808 ≤ s ∧ s ≤ 9223372036854775807 := fun s hs => i64_range (w1.2 s hs)
 have main : l1.length ≤ 30 → P.Ev (fun k => syntagmlaw13_SetsTell.j0 k l1 a2 true false x0.f0 x0.f1 x0.f2 x0.f3 x0.f4) true := fun hl => by
  cases hv : validB x0.f0 x0.f1 x0.f2 x0.f3 x0.f4
  ·have hr := prods_range w0
   exact tell_j0 (e := []) (lv := []) (f := []) (w := []) (o := 0) (P.Ev.all (First_not hv)) (P.Ev.all (refF_not hv hr)) (P.Ev.all (Follow_not hv)) (P.Ev.all (refW_not hv hr)) (P.Ev.all (Of_not hv _ _)) (P.Ev.all (refO_not hv hr _ _)) (by simp) (by simp) (by simp) rfl
    (P.Ev.all (Empty_not hv)) (P.Ev.all (refE_not hv hr)) (P.Ev.all (Lives_not hv)) (P.Ev.all (refL_not hv hr))
  ·have h := order_of hv (prods_range w0)
   have hS := h.gram.hS
   have e1 := eR_len x0.f2 x0.f3
   have e2 := lR_len x0.f2 x0.f3
   have e3 := (fR_ok h).1
   have e4 := (wR_ok h).1
   exact tell_j0 (ev_from 61 (First_is h)) (refF_is h) (ev_from 61 (Follow_is h)) (refW_is h) (ev_from 61 (Of_is h l1 a2 hb)) (refO_is h l1 (by omega) hrl a2 hb) (by omega) (by omega) (by omega) (by omega)
    (ev_from 61 (Empty_is h)) (refE_is h) (ev_from 61 (Lives_is h)) (refL_is h)
 obtain ⟨b, hf, -⟩ := few_is x0.f0 x0.f1 x0.f2 x0.f3 x0.f4 32 (Nat.le_refl _)
 have hout : P.Ev (fun k => syntagmlaw13_SetsTell.j0 k l1 a2 true true x0.f0 x0.f1 x0.f2 x0.f3 x0.f4) true := (P.Ev.all (f := fun _ => some true) (fun _ => rfl)).succ fun k => by rw [syntagmlaw13_SetsTell.j0, if_pos rfl]
 have hj : P.Ev (fun k => if b = true then syntagmlaw13_SetsTell.j0 k l1 a2 true (decide ((l1.length : Int) > 30)) x0.f0 x0.f1 x0.f2 x0.f3 x0.f4 else syntagmlaw13_SetsTell.j0 k l1 a2 true true x0.f0 x0.f1 x0.f2 x0.f3 x0.f4) true := by
  cases b
  ·exact hout
  ·by_cases hl : (l1.length : Int) > 30
   ·exact hout.same fun k => by rw [if_pos rfl, decide_eq_true hl]
   ·exact (main (by omega)).same fun k => by rw [if_pos rfl, decide_eq_false hl]
 obtain ⟨K, hK⟩ := hj
 refine ⟨max K 61, ?_⟩
 have hk := hK (max K 61) (by omega)
 unfold syntagmlaw13_SetsTell.f
 rw [works_is _ (by omega), Option.bind_some, if_pos rfl, at_rounds (fun k => syntagmlaw13_Few.mono _ _ _ _ _ k) (by omega : 32 ≤ max K 61) hf, Option.bind_some]
 exact hk
end Go.Proofs.Ytggfiopajogiiaa.Pure
end
