/- Texts of this claim put together: Px17, Px18, Px19, Open, Types. -/
import Derived.Test.YtclollnicbcooaaDoorVd0
import Derived.Test.YtclollnicbcooaaDoorVd2
import Derived.Test.YtclollnicbcooaaDoorVd3
import Derived.Test.YtclollnicbcooaaDoorVd1
import Derived.Deep.Slices
import Derived.OpenShut
import Derived.ShutString
import Derived.ProofKit
set_option linter.unusedVariables false
set_option linter.unusedSimpArgs false
set_option linter.unusedSectionVars false
section
namespace Go.Proofs.YtclollnicbcooaaDoor.P
open Go.RowKit Go.Proofs.YtclollnicbcooaaDoorW.PrintWords Go.Proofs.YtclollnicbcooaaDoorW.PrintLast Go.Proofs.YtclollnicbcooaaDoorW.PrintMore
attribute [local go_sem] max2_int min2_int max_two min_two max_three min_three max_four min_four

/-! ### sr14_Build: function 24 -/
mutual
def sr14_Build.l0 : Nat → Int → List (S82) → List (S101) → List ByteArray → List (S64) → Int → List (List (S39)) → List (List Int) → Option ((List (List (S39))) × (List (List Int)) × Int)
 | 0, _, _, _, _, _, _, _, _ => none
 | k + 1, x6, xA, xB, xC, xD, xE, xF, xG => if x6 < (xF.length : Int) then (sr14_Build.l1 k x6 ([] : List Int) 0 xA xB xC xD xE xF xG) else (some (xF, xG, 0))
def sr14_Build.l1 : Nat → Int → List Int → Int → List (S82) → List (S101) → List ByteArray → List (S64) → Int → List (List (S39)) → List (List Int) → Option ((List (List (S39))) × (List (List Int)) × Int)
 | 0, _, _, _, _, _, _, _, _, _, _ => none
 | k + 1, x6, x7, x8, xA, xB, xC, xD, xE, xF, xG => if x8 < (wrap64 ((xA.length : Int) + (xC.length : Int))) then (if x8 ≥ (xA.length : Int) then (sr14_Build.j2 k x6 x7 x8 (wrap64 ((-1) - (wrap64 (x8 - (xA.length : Int))))) xA xB xC xD xE xF xG) else (sr14_Build.j2 k x6 x7 x8 x8 xA xB xC xD xE xF xG)) else (if xG.length < 5864062014805 then (if (xF.length : Int) > 2000 then (some (([] : List (List (S39))), ([] : List (List Int)), 4)) else (sr14_Build.l0 k (wrap64 (x6 + 1)) xA xB xC xD xE xF (xG ++ [x7]))) else (none))
def sr14_Build.j2 : Nat → Int → List Int → Int → Int → List (S82) → List (S101) → List ByteArray → List (S64) → Int → List (List (S39)) → List (List Int) → Option ((List (List (S39))) × (List (List Int)) × Int)
 | 0, _, _, _, _, _, _, _, _, _, _, _ => none
 | k + 1, x6, x7, x8, x9, xA, xB, xC, xD, xE, xF, xG => if 0 ≤ x6 then (if x6 < (xF.length : Int) then ((sr14_Step.f k xA xB xC xD xE (rd_L21 xF x6) x9).bind fun t334 => (sr14_Build.l2 k x6 x7 x8 t334 (-1) 0 xA xB xC xD xE xF xG)) else (none)) else (none)
def sr14_Build.l2 : Nat → Int → List Int → Int → List (S39) → Int → Int → List (S82) → List (S101) → List ByteArray → List (S64) → Int → List (List (S39)) → List (List Int) → Option ((List (List (S39))) × (List (List Int)) × Int)
 | 0, _, _, _, _, _, _, _, _, _, _, _, _, _ => none
 | k + 1, x6, x7, x8, x10, x11, x12, xA, xB, xC, xD, xE, xF, xG => if x12 < (xF.length : Int) then (sr14_Build.j4 k x6 x7 x8 x10 x11 x12 (decide (x11 < 0)) xA xB xC xD xE xF xG) else (sr14_Build.j4 k x6 x7 x8 x10 x11 x12 false xA xB xC xD xE xF xG)
def sr14_Build.j4 : Nat → Int → List Int → Int → List (S39) → Int → Int → Bool → List (S82) → List (S101) → List ByteArray → List (S64) → Int → List (List (S39)) → List (List Int) → Option ((List (List (S39))) × (List (List Int)) × Int)
 | 0, _, _, _, _, _, _, _, _, _, _, _, _, _, _ => none
 | k + 1, x6, x7, x8, x10, x11, x12, x68, xA, xB, xC, xD, xE, xF, xG => if x68 = true then (if 0 ≤ x12 then (if x12 < (xF.length : Int) then ((sr14_Row.f k (rd_L21 xF x12) x10).bind fun t338 => (if t338 = true then (sr14_Build.l2 k x6 x7 x8 x10 x12 (wrap64 (x12 + 1)) xA xB xC xD xE xF xG) else (sr14_Build.l2 k x6 x7 x8 x10 x11 (wrap64 (x12 + 1)) xA xB xC xD xE xF xG))) else (none)) else (none)) else (if (x10.length : Int) > 0 then (if x11 < 0 then (if xF.length < 5864062014805 then (if x7.length < 17592186044416 then (sr14_Build.l1 k x6 (x7 ++ [(xF.length : Int)]) (wrap64 (x8 + 1)) xA xB xC xD xE (xF ++ [x10]) xG) else (none)) else (none)) else (if x7.length < 17592186044416 then (sr14_Build.l1 k x6 (x7 ++ [x11]) (wrap64 (x8 + 1)) xA xB xC xD xE xF xG) else (none))) else (if x7.length < 17592186044416 then (sr14_Build.l1 k x6 (x7 ++ [x11]) (wrap64 (x8 + 1)) xA xB xC xD xE xF xG) else (none)))
end
def sr14_Build.f (k : Nat) (l0_0 : List (S82)) (l0_1 : List (S101)) (l0_2 : List ByteArray) (l0_3 : List (S64)) (a0_4 : Int) : Option ((List (List (S39))) × (List (List Int)) × Int) := (sr12_Valid.f l0_0 l0_1 l0_2 l0_3 a0_4).bind fun t322 => (if t322 = true then (sr14_Build.l0 k 0 l0_0 l0_1 l0_2 l0_3 a0_4 (([(([(⟨(-1), 0⟩ : S39)] : List (S39)))] : List (List (S39)))) ([] : List (List Int))) else (some (([] : List (List (S39))), ([] : List (List Int)), 1)))
def sr14_Build.T15 : Bool × List (List Nat × List Nat) := (true, [([], []), ([], []), ([1], [1]), ([], []), ([2, 3], [2, 3]), ([4], [4]), ([], []), ([0, 5, 6], [0, 5, 6]), ([7, 7, 0, 1, 2, 3, 4, 5, 6, 7], [7])])
def sr14_Build.B15 : List Nat := [0, 0, 2, 0, 14, 30, 0, 127, 255]
theorem sr14_Build.tab15 : rtab .any (opsOf Tryd.f24 15) = sr14_Build.T15 := by kernel_rfl
theorem sr14_Build.bits15 : waitsOk sr14_Build.T15.2 sr14_Build.B15 = true := by kernel_rfl
set_option maxHeartbeats 8000000 in
set_option maxRecDepth 100000 in
theorem sr14_Build.calls (k : Nat) (A0_0 : Option Addr) (c0_0 : Nat) (l0_0 : List (S82)) (A0_1 : Option Addr) (c0_1 : Nat) (l0_1 : List (S101)) (A0_2 : Option Addr) (c0_2 : Nat) (l0_2 : List ByteArray) (A0_3 : Option Addr) (c0_3 : Nat) (l0_3 : List (S64)) (a0_4 : Int) (r1 : List (List (S39))) (r2 : List (List Int)) (r3 : Int) (w : World) (hr0_0 : Kd.C k82 w A0_0 l0_0.length l0_0) (hc0_0 : l0_0.length ≤ c0_0) (hr0_1 : Kd.C k101 w A0_1 l0_1.length l0_1) (hc0_1 : l0_1.length ≤ c0_1) (hr0_2 : Kd.C Kd.string w A0_2 l0_2.length l0_2) (hc0_2 : l0_2.length ≤ c0_2) (hr0_3 : Kd.C k64 w A0_3 l0_3.length l0_3) (hc0_3 : l0_3.length ≤ c0_3) (h : sr14_Build.f k l0_0 l0_1 l0_2 l0_3 a0_4 = some (r1, r2, r3)) :
  Calls Tryd.prog 24 #[.agg #[.slice A0_0 l0_0.length c0_0, .slice A0_1 l0_1.length c0_1, .slice A0_2 l0_2.length c0_2, .slice A0_3 l0_3.length c0_3, .int .i64 a0_4]] w fun e w' => ∃ v0_ v1_ : Value, e = .returned (.tuple #[.agg #[v0_, v1_], .int .i64 r3]) ∧ Kd.N (Kd.slice 39 k39) 32 w' w.heap.size (fun k_ => (w.heap.size ≤ k_) ∧ some k_ ≠ (v1_ : Value).ownBlock) v0_ r1 ∧ Kd.N (Kd.slice 3 (Kd.int .i64)) 58 w' w.heap.size (fun k_ => (w.heap.size ≤ k_) ∧ some k_ ≠ (v0_ : Value).ownBlock) v1_ r2 ∧ Below w.heap.size w w' := by
 have hu27 := Tryd.underlying27
 have hu55 := Tryd.underlying55
 have hu39 := Tryd.underlying39
 have HR0_0 := jM hr0_0
 have HC0_0 := jM hc0_0
 clear hr0_0 hc0_0
 have HR0_1 := jM hr0_1
 have HC0_1 := jM hc0_1
 clear hr0_1 hc0_1
 have HR0_2 := jM hr0_2
 have HC0_2 := jM hc0_2
 clear hr0_2 hc0_2
 have HR0_3 := jM hr0_3
 have HC0_3 := jM hc0_3
 clear hr0_3 hc0_3
 have HB := jM (Below.refl w.heap.size w)
 have H : ((sr12_Valid.f l0_0 l0_1 l0_2 l0_3 a0_4).bind fun t322 => (if t322 = true then (sr14_Build.l0 k 0 l0_0 l0_1 l0_2 l0_3 a0_4 (([(([(⟨(-1), 0⟩ : S39)] : List (S39)))] : List (List (S39)))) ([] : List (List Int))) else (some (([] : List (List (S39))), ([] : List (List Int)), 1)))) = some (r1, r2, r3) := h
 clear h
 replace H := Option.bind_eq_some_iff.mp H
 obtain ⟨t322, A20, H⟩ := H
 replace H : (if t322 = true then (sr14_Build.l0 k 0 l0_0 l0_1 l0_2 l0_3 a0_4 (([(([(⟨(-1), 0⟩ : S39)] : List (S39)))] : List (List (S39)))) ([] : List (List Int))) else (some (([] : List (List (S39))), ([] : List (List Int)), 1))) = some (r1, r2, r3) := H
 have A2 := jM A20
 clear A20
 by_cases c3 : t322 = true
 ·subst c3
  have H1 : (sr14_Build.l0 k 0 l0_0 l0_1 l0_2 l0_3 a0_4 (([(([(⟨(-1), 0⟩ : S39)] : List (S39)))] : List (List (S39)))) ([] : List (List Int))) = some (r1, r2, r3) := by rw [if_pos rfl] at H; exact H
  clear H
  have H := H1
  clear H1
  obtain ⟨y323, hy323⟩ : ∃ y_ : List (S39), y_ = (([(⟨(-1), 0⟩ : S39)] : List (S39))) := ⟨_, rfl⟩
  replace H : (sr14_Build.l0 k 0 l0_0 l0_1 l0_2 l0_3 a0_4 (([y323] : List (List (S39)))) ([] : List (List Int))) = some (r1, r2, r3) := by first | (rw [hy323]; with_reducible exact H) | (have H2_ := (Option.bind_some _ _).symm.trans H; rw [hy323]; with_reducible exact H2_) | (have H2_ := (Option.bind_some _ _).symm.trans H; with_reducible exact H2_) | with_reducible exact H | (rw [hy323]; exact H) | exact H
  have Ny323 := jM hy323
  clear hy323
  obtain ⟨y326, hy326⟩ : ∃ y_ : List (List (S39)), y_ = (([y323] : List (List (S39)))) := ⟨_, rfl⟩
  replace H : (sr14_Build.l0 k 0 l0_0 l0_1 l0_2 l0_3 a0_4 y326 ([] : List (List Int))) = some (r1, r2, r3) := by first | (rw [hy326]; with_reducible exact H) | (have H2_ := (Option.bind_some _ _).symm.trans H; rw [hy326]; with_reducible exact H2_) | (have H2_ := (Option.bind_some _ _).symm.trans H; with_reducible exact H2_) | with_reducible exact H | (rw [hy326]; exact H) | exact H
  have Ny326 := jM hy326
  clear hy326
  have H' := jM H
  clear H
  go_enter Tryd.func24, Tryd.ntmps24
  go_wp2_with (first | ((with_reducible refine gate_dst (N := 1) rfl ?_); refine box_event ?hg (N := 1) ?hd (cs := #[.slice A0_0 l0_0.length c0_0, .slice A0_1 l0_1.length c0_1, .slice A0_2 l0_2.length c0_2, .slice A0_3 l0_3.length c0_3, .int .i64 a0_4]) (t := 27) ?hr ?_; (case hd => rfl); (case hg => rfl); (case hr => first | (go_simp; done) | (go_simp; rfl)); intro gb320 hg w4 hbox hb; have n0_ := jM (jT (tB HB.out) hb); have n1_ := jM (hbox); have n2_ := jM ((by rw [hg]; exact (below_size (tB HB.out)) : w.heap.size ≤ gb320)); have n3_ := jM ((by rw [hg]; exact (below_size (tB HB.out)) : w.heap.size ≤ gb320)); clear HB; have HB := n0_; have BK320 := n1_; have GW320 := n2_; have GE320 := n3_; clear n0_ n1_ n2_ n3_; clear hb hbox hg) | ((with_reducible refine gate_dst (N := 2) rfl ?_); refine box_event ?hg (N := 2) ?hd (cs := #[.slice none 0 0, .slice none 0 0]) (t := 55) ?hr ?_; (case hd => rfl); (case hg => rfl); (case hr => first | (go_simp; done) | (go_simp; rfl)); intro gb321 hg w5 hbox hb; have n0_ := jM (jW (g := gb320) (o := .cells #[.slice A0_0 l0_0.length c0_0, .slice A0_1 l0_1.length c0_1, .slice A0_2 l0_2.length c0_2, .slice A0_3 l0_3.length c0_3, .int .i64 a0_4] 27 (0, 0)) (tK BK320.out) hb); have n1_ := jM (jT (by repeat (first | (with_reducible first | exact HB.out | apply jA | apply jN | apply jD | refine jS ?_ GE320.out) | exact HB.out)) hb); have n2_ := jM (hbox); have n3_ := jM ((by rw [hg]; exact (below_size (by repeat (first | (with_reducible first | exact HB.out | apply jA | apply jN | apply jD | refine jS ?_ GE320.out) | exact HB.out))) : w.heap.size ≤ gb321)); have n4_ := jM ((by rw [hg]; exact (below_size (by repeat (first | (with_reducible first | exact HB.out | apply jA | apply jN | apply jD | refine jS ?_ GE320.out) | exact HB.out))) : w.heap.size ≤ gb321)); have n5_ := jM ((by rw [hg]; exact Nat.ne_of_lt (blk_lt (g := gb320) (o := .cells #[.slice A0_0 l0_0.length c0_0, .slice A0_1 l0_1.length c0_1, .slice A0_2 l0_2.length c0_2, .slice A0_3 l0_3.length c0_3, .int .i64 a0_4] 27 (0, 0)) (tK BK320.out)) : gb320 ≠ gb321)); have n6_ := jM ((by rw [hg]; exact Nat.ne_of_gt (blk_lt (g := gb320) (o := .cells #[.slice A0_0 l0_0.length c0_0, .slice A0_1 l0_1.length c0_1, .slice A0_2 l0_2.length c0_2, .slice A0_3 l0_3.length c0_3, .int .i64 a0_4] 27 (0, 0)) (tK BK320.out)) : gb321 ≠ gb320)); clear BK320; clear HB; have BK320 := n0_; have HB := n1_; have BK321 := n2_; have GW321 := n3_; have GE321 := n4_; have NB320_321 := n5_; have NB321_320 := n6_; clear n0_ n1_ n2_ n3_ n4_ n5_ n6_; clear hb hbox hg; have hnb6 := NB320_321.out; have hnc6 := NB321_320.out; have hcz7_0 : w5.cell? ⟨gb320, 0, none⟩ = some (.slice A0_0 l0_0.length c0_0) := (jC BK320.out 0).trans rfl; have hcz7_1 : w5.cell? ⟨gb320, 1, none⟩ = some (.slice A0_1 l0_1.length c0_1) := (jC BK320.out 1).trans rfl; have hcz7_2 : w5.cell? ⟨gb320, 2, none⟩ = some (.slice A0_2 l0_2.length c0_2) := (jC BK320.out 2).trans rfl; have hcz7_3 : w5.cell? ⟨gb320, 3, none⟩ = some (.slice A0_3 l0_3.length c0_3) := (jC BK320.out 3).trans rfl; have hcz7_4 : w5.cell? ⟨gb320, 4, none⟩ = some (.int .i64 a0_4) := (jC BK320.out 4).trans rfl; have hfz7_0 := jF BK320.out 0; have hfz7_1 := jF BK320.out 1; have hfz7_2 := jF BK320.out 2; have hfz7_3 := jF BK320.out 3; have hfz7_4 := jF BK320.out 4) | ((with_reducible refine gate_callee (f := 45) rfl ?_); refine goesL_ (some 14) rfl rfl Tryd.func45 (by kernel_rfl) rfl #[.agg #[.slice A0_0 l0_0.length c0_0, .slice A0_1 l0_1.length c0_1, .slice A0_2 l0_2.length c0_2, .slice A0_3 l0_3.length c0_3, .int .i64 a0_4]] rfl tM ?_; (with_reducible refine (sr12_Valid.calls _ _ l0_0 _ _ l0_1 _ _ l0_2 _ _ l0_3 a0_4 true _ ?side1 ?side2 ?side3 ?side4 ?side5 ?side6 ?side7 ?side8 A2.out).mono ?_); (case side1 => exact tC (jB HR0_0.out HB.out)); (case side2 => exact HC0_0.out); (case side3 => exact tC (jB HR0_1.out HB.out)); (case side4 => exact HC0_1.out); (case side5 => exact tC (jB HR0_2.out HB.out)); (case side6 => exact HC0_2.out); (case side7 => exact tC (jB HR0_3.out HB.out)); (case side8 => exact HC0_3.out); rintro e w8 ⟨rfl, hb⟩; refine ⟨_, rfl, ?_⟩; have n0_ := jM (jW (g := gb320) (o := .cells #[.slice A0_0 l0_0.length c0_0, .slice A0_1 l0_1.length c0_1, .slice A0_2 l0_2.length c0_2, .slice A0_3 l0_3.length c0_3, .int .i64 a0_4] 27 (0, 0)) (tK BK320.out) hb); have n1_ := jM (jW (g := gb321) (o := .cells #[.slice none 0 0, .slice none 0 0] 55 (0, 0)) (tK BK321.out) hb); have n2_ := jM (jT (by repeat (first | (with_reducible first | exact HB.out | apply jA | apply jN | apply jD | refine jS ?_ GE320.out | refine jS ?_ GE321.out) | exact HB.out)) hb); clear BK320; clear BK321; clear HB; have BK320 := n0_; have BK321 := n1_; have HB := n2_; clear n0_ n1_ n2_; (try clear hb); (try clear hb2); (try clear hk); (try clear hi)) | ((with_reducible refine gate_dst (N := 19) rfl ?_); refine Kd.R_lit k39 _ 39 ?hg (N := 19) ?hd (xs := ([(⟨(-1), 0⟩ : S39)] : List (S39))) (inner := [.int .i64 (-1), .int .i64 0]) (ok := fun _ => True) (okp := fun _ => True) ?hr ?hp (fun _ hk => hk) trivial (Below.refl _ _) (Nat.le_refl _) (by simp) ?_; (case hd => rfl); (case hg => rfl); (case hr => first | (go_simp; done) | (go_simp; rfl)); (case hp => exact (Reps.c2 (show Kd.M k39 _ _ _ (⟨(-1), 0⟩ : S39) [.int .i64 (-1), .int .i64 0] from (k39_mkM _ _ _ (⟨(-1), 0⟩ : S39) )) (Reps.none _ _))); intro v324 w9 ho10 hb hg_ hnew_; clear hg_ hnew_; (first | rw [← Ny323.out] at ho10 | (simp only [Int.reduceToNat] at ho10; rw [← Ny323.out] at ho10)); have n0_ := jM (Kd.R_lower (Kd.R_newM (M := fun k_ => (w.heap.size ≤ k_)) ho10 (below_size (by repeat (first | (with_reducible first | exact HB.out | apply jA | apply jN | apply jD | refine jS ?_ GE320.out | refine jS ?_ GE321.out) | exact HB.out))) (fun k_ h_ => h_)) (below_size (by repeat (first | (with_reducible first | exact HB.out | apply jA | apply jN | apply jD | refine jS ?_ GE320.out | refine jS ?_ GE321.out) | exact HB.out)))); have n1_ := jM (jW (g := gb320) (o := .cells #[.slice A0_0 l0_0.length c0_0, .slice A0_1 l0_1.length c0_1, .slice A0_2 l0_2.length c0_2, .slice A0_3 l0_3.length c0_3, .int .i64 a0_4] 27 (0, 0)) (tK BK320.out) hb); have n2_ := jM (jW (g := gb321) (o := .cells #[.slice none 0 0, .slice none 0 0] 55 (0, 0)) (tK BK321.out) hb); have n3_ := jM (jT (by repeat (first | (with_reducible first | exact HB.out | apply jA | apply jN | apply jD | refine jS ?_ GE320.out | refine jS ?_ GE321.out) | exact HB.out)) hb); clear BK320; clear BK321; clear HB; have HO325 := n0_; have BK320 := n1_; have BK321 := n2_; have HB := n3_; clear n0_ n1_ n2_ n3_; clear hb ho10; obtain ⟨Ao11, co11, eo11⟩ := Kd.R_slice HO325.out; subst eo11) | ((with_reducible refine gate_dst (N := 20) rfl ?_); refine Kd.N_lit (Kd.slice 39 k39) _ 32 ?hg (N' := 20) ?hd (xs := ([y323] : List (List (S39)))) (inner := [.slice Ao11 y323.length co11]) (ok := (fun k_ => (w.heap.size ≤ k_) ∧ k_ ≠ gb320 ∧ k_ ≠ gb321)) (okp := (fun k_ => (w.heap.size ≤ k_) ∧ k_ ≠ gb320 ∧ k_ ≠ gb321)) ?hr ?hp (fun _ hk => hk) ((show ∀ k_, w9.heap.size ≤ k_ → (fun k_ => (w.heap.size ≤ k_) ∧ k_ ≠ gb320 ∧ k_ ≠ gb321) k_ from fun k_ hk => ⟨(Nat.le_trans (below_size (by repeat (first | (with_reducible first | exact HB.out | apply jA | apply jN | apply jD | refine jS ?_ GE320.out | refine jS ?_ GE321.out) | exact HB.out))) hk), Kd.freshB (g := gb320) (o := .cells #[.slice A0_0 l0_0.length c0_0, .slice A0_1 l0_1.length c0_1, .slice A0_2 l0_2.length c0_2, .slice A0_3 l0_3.length c0_3, .int .i64 a0_4] 27 (0, 0)) (tK BK320.out) k_ hk, Kd.freshB (g := gb321) (o := .cells #[.slice none 0 0, .slice none 0 0] 55 (0, 0)) (tK BK321.out) k_ hk⟩) _ (Nat.le_refl _)) (Below.refl _ _) (Nat.le_refl _) (by simp) ?_; (case hd => rfl); (case hg => rfl); (case hr => first | (go_simp; done) | (go_simp; rfl)); (case hp => exact (Reps.one (show Kd.FK (Kd.slice 39 k39) _ _ y323 [.slice Ao11 y323.length co11] from (Kd.FK_slice_mk (Kd.R_reads' (Kd.R_mono (ok' := (fun k_ => (w.heap.size ≤ k_) ∧ k_ ≠ gb320 ∧ k_ ≠ gb321)) (Kd.R_types (Kd.R_types (HO325.out) BK320.out (by decide)) BK321.out (by decide)) (fun k_ hk => ⟨hk.1.1.1, ⟨hk.1.2, hk.2⟩⟩))).2.1 (Kd.R_F (Kd.R_mono (ok' := (fun k_ => (w.heap.size ≤ k_) ∧ k_ ≠ gb320 ∧ k_ ≠ gb321)) (Kd.R_types (Kd.R_types (HO325.out) BK320.out (by decide)) BK321.out (by decide)) (fun k_ hk => ⟨hk.1.1.1, ⟨hk.1.2, hk.2⟩⟩))))) (Reps.none _ _))); intro v327 w12 ho13 hb hg_ hnew_; clear hg_ hnew_; (first | rw [← Ny326.out] at ho13 | (simp only [Int.reduceToNat] at ho13; rw [← Ny326.out] at ho13)); have n0_ := jM (Kd.N_lower ho13 (below_size (by repeat (first | (with_reducible first | exact HB.out | apply jA | apply jN | apply jD | refine jS ?_ GE320.out | refine jS ?_ GE321.out) | exact HB.out)))); have n1_ := jM (jW (g := gb320) (o := .cells #[.slice A0_0 l0_0.length c0_0, .slice A0_1 l0_1.length c0_1, .slice A0_2 l0_2.length c0_2, .slice A0_3 l0_3.length c0_3, .int .i64 a0_4] 27 (0, 0)) (tK BK320.out) hb); have n2_ := jM (jW (g := gb321) (o := .cells #[.slice none 0 0, .slice none 0 0] 55 (0, 0)) (tK BK321.out) hb); have n3_ := jM (jT (by repeat (first | (with_reducible first | exact HB.out | apply jA | apply jN | apply jD | refine jS ?_ GE320.out | refine jS ?_ GE321.out) | exact HB.out)) hb); clear BK320; clear BK321; clear HB; clear HO325; have HO328 := n0_; have BK320 := n1_; have BK321 := n2_; have HB := n3_; clear n0_ n1_ n2_ n3_; clear hb ho13; obtain ⟨Ao14, co14, eo14⟩ := Kd.N_slice HO328.out; subst eo14) | ((with_reducible refine gate_dst (N := 5) rfl ?_); refine box_event ?hg (N := 5) ?hd (cs := #[.slice none 0 0, .slice none 0 0]) (t := 55) ?hr ?_; (case hd => rfl); (case hg => rfl); (case hr => first | (go_simp; done) | (go_simp; rfl)); intro gb329 hg w15 hbox hb; have n0_ := jM (Kd.N_below (Kd.N_elderB (tN HO328.out) gb329 (Nat.le_of_eq hg.symm)) hb); have n1_ := jM (jW (g := gb320) (o := .cells #[.slice A0_0 l0_0.length c0_0, .slice A0_1 l0_1.length c0_1, .slice A0_2 l0_2.length c0_2, .slice A0_3 l0_3.length c0_3, .int .i64 a0_4] 27 (0, 0)) (tK BK320.out) hb); have n2_ := jM (jW (g := gb321) (o := .cells #[.slice none 0 0, .slice none 0 0] 55 (0, 0)) (tK BK321.out) hb); have n3_ := jM (jT (by repeat (first | (with_reducible first | exact HB.out | apply jA | apply jN | apply jD | refine jS ?_ GE320.out | refine jS ?_ GE321.out) | exact HB.out)) hb); have n4_ := jM (hbox); have n5_ := jM ((by rw [hg]; exact (below_size (by repeat (first | (with_reducible first | exact HB.out | apply jA | apply jN | apply jD | refine jS ?_ GE320.out | refine jS ?_ GE321.out) | exact HB.out))) : w.heap.size ≤ gb329)); have n6_ := jM ((by rw [hg]; exact (below_size (by repeat (first | (with_reducible first | exact HB.out | apply jA | apply jN | apply jD | refine jS ?_ GE320.out | refine jS ?_ GE321.out) | exact HB.out))) : w.heap.size ≤ gb329)); have n7_ := jM ((by rw [hg]; exact Nat.ne_of_lt (blk_lt (g := gb320) (o := .cells #[.slice A0_0 l0_0.length c0_0, .slice A0_1 l0_1.length c0_1, .slice A0_2 l0_2.length c0_2, .slice A0_3 l0_3.length c0_3, .int .i64 a0_4] 27 (0, 0)) (tK BK320.out)) : gb320 ≠ gb329)); have n8_ := jM ((by rw [hg]; exact Nat.ne_of_gt (blk_lt (g := gb320) (o := .cells #[.slice A0_0 l0_0.length c0_0, .slice A0_1 l0_1.length c0_1, .slice A0_2 l0_2.length c0_2, .slice A0_3 l0_3.length c0_3, .int .i64 a0_4] 27 (0, 0)) (tK BK320.out)) : gb329 ≠ gb320)); have n9_ := jM ((by rw [hg]; exact Nat.ne_of_lt (blk_lt (g := gb321) (o := .cells #[.slice none 0 0, .slice none 0 0] 55 (0, 0)) (tK BK321.out)) : gb321 ≠ gb329)); have n10_ := jM ((by rw [hg]; exact Nat.ne_of_gt (blk_lt (g := gb321) (o := .cells #[.slice none 0 0, .slice none 0 0] 55 (0, 0)) (tK BK321.out)) : gb329 ≠ gb321)); clear HO328; clear BK320; clear BK321; clear HB; have HO328 := n0_; have BK320 := n1_; have BK321 := n2_; have HB := n3_; have BK329 := n4_; have GW329 := n5_; have GE329 := n6_; have NB320_329 := n7_; have NB329_320 := n8_; have NB321_329 := n9_; have NB329_321 := n10_; clear n0_ n1_ n2_ n3_ n4_ n5_ n6_ n7_ n8_ n9_ n10_; clear hb hbox hg; have hnb16 := NB329_320.out; have hnc16 := NB320_329.out; have hnb17 := NB329_321.out; have hnc17 := NB321_329.out; have hcz18_0 : w15.cell? ⟨gb329, 0, none⟩ = some (.slice none 0 0) := (jC BK329.out 0).trans rfl; have hcz18_1 : w15.cell? ⟨gb329, 1, none⟩ = some (.slice none 0 0) := (jC BK329.out 1).trans rfl; have hfz18_0 := jF BK329.out 0; have hfz18_1 := jF BK329.out 1))
  go_loopg [6] k (fun kq v6 w' => ∃ (x6_1 : Int) (x330000_1 : List (List (S39))) (x330001_1 : List (List Int)) (u330000 : Value) (u330001 : Value), v6 = .int .i64 x6_1 ∧ Aside0 (sr14_Build.l0 kq x6_1 l0_0 l0_1 l0_2 l0_3 a0_4 x330000_1 x330001_1 = some (r1, r2, r3)) ∧ Aside0 (kq ≤ k) ∧ Aside0 (Kd.N (Kd.slice 39 k39) 32 w' w.heap.size (fun k_ => (w.heap.size ≤ k_) ∧ some k_ ≠ (u330001 : Value).ownBlock ∧ k_ ≠ gb320 ∧ k_ ≠ gb321 ∧ k_ ≠ gb329) u330000 x330000_1) ∧ Aside0 (Kd.N (Kd.slice 3 (Kd.int .i64)) 58 w' w.heap.size (fun k_ => (w.heap.size ≤ k_) ∧ some k_ ≠ (u330000 : Value).ownBlock ∧ k_ ≠ gb320 ∧ k_ ≠ gb321 ∧ k_ ≠ gb329) u330001 x330001_1) ∧ Aside0 (w'.heap[gb320]? = some (.cells #[(.slice A0_0 l0_0.length c0_0), (.slice A0_1 l0_1.length c0_1), (.slice A0_2 l0_2.length c0_2), (.slice A0_3 l0_3.length c0_3), .int .i64 a0_4] 27 (0, 0))) ∧ Aside0 (w'.heap[gb321]? = some (.cells #[(.slice none 0 0), (.slice none 0 0)] 55 (0, 0))) ∧ Aside0 (w'.heap[gb329]? = some (.cells #[u330000, u330001] 55 (0, 0))) ∧ Aside0 (Below w.heap.size w w'))
  case atStart => exact ⟨(0), (y326), (([] : List (List Int))), (.slice Ao14 y326.length co14), (.slice none 0 0), tZ, H', ⟨Nat.le_refl _⟩, ⟨by (with_reducible repeat (first | apply jn | apply jo | apply jp)); exact Kd.N_mono (Kd.N_far (p := ⟨gb329, 1, none⟩) (Kd.N_far (p := ⟨gb329, 0, none⟩) (Kd.N_mono HO328.out (fun k_ hk => (⟨hk, hk.2⟩ : _ ∧ k_ ≠ gb329))) (fun _ hk => hk.2) (.slice Ao14 y326.length co14)) (fun _ hk => hk.2) (.slice none 0 0)) (fun _ hk => ⟨hk.1.1.1, ⟨(by simp [Value.ownBlock]), ⟨hk.1.1.2.1, ⟨hk.1.1.2.2, hk.1.2⟩⟩⟩⟩)⟩, ⟨by first | exact Kd.S_nil _ _ _ _ _ | exact Kd.N_nil _ _ _ _ _ | exact Kd.V_nil _ _ _ _ _ | exact Kd.Q_nil _ _ _ _ _ | exact Kd.R_nil _ _ _ _ _⟩, ⟨by (with_reducible repeat (first | refine jY ?_ _ | refine jZ ?_ | refine jX ?_ _)); refine blk_far ?_ NB320_329.out _; (with_reducible repeat (first | refine jY ?_ _ | refine jZ ?_ | refine jX ?_ _)); refine blk_far ?_ NB320_329.out _; (with_reducible repeat (first | refine jY ?_ _ | refine jZ ?_ | refine jX ?_ _)); exact BK320.out⟩, ⟨by (with_reducible repeat (first | refine jY ?_ _ | refine jZ ?_ | refine jX ?_ _)); refine blk_far ?_ NB321_329.out _; (with_reducible repeat (first | refine jY ?_ _ | refine jZ ?_ | refine jX ?_ _)); refine blk_far ?_ NB321_329.out _; (with_reducible repeat (first | refine jY ?_ _ | refine jZ ?_ | refine jX ?_ _)); exact BK321.out⟩, ⟨by (with_reducible repeat (first | refine jY ?_ _ | refine jZ ?_ | refine jX ?_ _)); refine blk_put (cs := #[.slice Ao14 y326.length co14, .slice none 0 0]) ?_ 1 _ rfl; (with_reducible repeat (first | refine jY ?_ _ | refine jZ ?_ | refine jX ?_ _)); refine blk_put (cs := #[.slice none 0 0, .slice none 0 0]) ?_ 0 _ rfl; (with_reducible repeat (first | refine jY ?_ _ | refine jZ ?_ | refine jX ?_ _)); exact BK329.out⟩, ⟨by repeat (first | (with_reducible first | exact HB.out | apply jA | apply jN | apply jD | refine jS ?_ GE320.out | refine jS ?_ GE321.out | refine jS ?_ GE329.out) | exact HB.out)⟩⟩
  case round =>
   clear H'
   try clear c1
   try clear c2
   try clear p2
   try clear c3
   try clear c4
   try clear c6
   try clear c16
   try clear c17
   try clear hcz18_0
   try clear hcz18_1
   try clear hcz7_0
   try clear hcz7_1
   try clear hcz7_2
   try clear hcz7_3
   try clear hcz7_4
   try clear hfz18_0
   try clear hfz18_1
   try clear hfz7_0
   try clear hfz7_1
   try clear hfz7_2
   try clear hfz7_3
   try clear hfz7_4
   obtain ⟨x6_1, x330000_1, x330001_1, u330000, u330001, rfl, HA, HK1, HO_330000, HO_330001, BK320, BK321, BK329, HB⟩ := hrel
   cases gk with
   | zero => exact absurd HA.out (by simp [sr14_Build.l0])
   | succ k1 =>
    have H := HA.out
    clear HA
    simp only [sr14_Build.l0] at H
    by_cases c19 : x6_1 < (x330000_1.length : Int)
    ·rw [if_pos c19] at H
     have c19b0 : decide (x6_1 < (x330000_1.length : Int)) = true := decide_eq_true c19
     clear c19
     have H' := jM H
     clear H
     have hnb20 := NB329_320.out
     have hnc20 := NB320_329.out
     have hnb21 := NB329_321.out
     have hnc21 := NB321_329.out
     have hcz22_0 : wr.cell? ⟨gb329, 0, none⟩ = some (u330000) := (jC BK329.out 0).trans rfl
     have hcz22_1 : wr.cell? ⟨gb329, 1, none⟩ = some (u330001) := (jC BK329.out 1).trans rfl
     have hfz22_0 := jF BK329.out 0
     have hfz22_1 := jF BK329.out 1
     obtain ⟨Ao23, co23, eo23⟩ := Kd.N_slice HO_330000.out
     subst eo23
     go_wp2
     go_loopg [7, 8] k1 (fun kq v7 v8 w' => ∃ (x7_2 : List Int) (x8_2 : Int) (x330000_2 : List (List (S39))) (u330000 : Value), v8 = .int .i64 x8_2 ∧ Aside0 (sr14_Build.l1 kq x6_1 x7_2 x8_2 l0_0 l0_1 l0_2 l0_3 a0_4 x330000_2 x330001_1 = some (r1, r2, r3)) ∧ Aside0 (kq ≤ k1) ∧ Aside0 (Kd.R (Kd.int .i64) 3 w' w.heap.size (fun k_ => (w.heap.size ≤ k_)) v7 x7_2) ∧ Aside0 (Kd.N (Kd.slice 39 k39) 32 w' w.heap.size (fun k_ => (w.heap.size ≤ k_) ∧ some k_ ≠ (v7 : Value).ownBlock ∧ some k_ ≠ (u330001 : Value).ownBlock ∧ k_ ≠ gb320 ∧ k_ ≠ gb321 ∧ k_ ≠ gb329) u330000 x330000_2) ∧ Aside0 (Kd.N (Kd.slice 3 (Kd.int .i64)) 58 w' w.heap.size (fun k_ => (w.heap.size ≤ k_) ∧ some k_ ≠ (v7 : Value).ownBlock ∧ some k_ ≠ (u330000 : Value).ownBlock ∧ k_ ≠ gb320 ∧ k_ ≠ gb321 ∧ k_ ≠ gb329) u330001 x330001_1) ∧ Aside0 (w'.heap[gb320]? = some (.cells #[(.slice A0_0 l0_0.length c0_0), (.slice A0_1 l0_1.length c0_1), (.slice A0_2 l0_2.length c0_2), (.slice A0_3 l0_3.length c0_3), .int .i64 a0_4] 27 (0, 0))) ∧ Aside0 (w'.heap[gb321]? = some (.cells #[(.slice none 0 0), (.slice none 0 0)] 55 (0, 0))) ∧ Aside0 (w'.heap[gb329]? = some (.cells #[u330000, u330001] 55 (0, 0))) ∧ Aside0 (Below w.heap.size w w'))
     case atStart => exact ⟨(([] : List Int)), (0), (x330000_1), (.slice Ao23 x330000_1.length co23), tZ, H', ⟨Nat.le_refl _⟩, ⟨by first | exact Kd.R_nil _ _ _ _ _ | exact Kd.N_nil _ _ _ _ _ | exact Kd.V_nil _ _ _ _ _ | exact Kd.Q_nil _ _ _ _ _ | exact Kd.S_nil _ _ _ _ _⟩, ⟨by (with_reducible repeat (first | apply jn | apply jo | apply jp)); exact Kd.N_mono HO_330000.out (fun _ hk => ⟨hk.1, ⟨(by simp [Value.ownBlock]), ⟨hk.2.1, ⟨hk.2.2.1, ⟨hk.2.2.2.1, hk.2.2.2.2⟩⟩⟩⟩⟩)⟩, ⟨by (with_reducible repeat (first | apply jn | apply jo | apply jp)); exact Kd.N_mono HO_330001.out (fun _ hk => ⟨hk.1, ⟨(by simp [Value.ownBlock]), ⟨hk.2.1, ⟨hk.2.2.1, ⟨hk.2.2.2.1, hk.2.2.2.2⟩⟩⟩⟩⟩)⟩, ⟨tK BK320.out⟩, ⟨tK BK321.out⟩, ⟨tK BK329.out⟩, ⟨by repeat (first | (with_reducible first | exact HB.out | apply jA | apply jN | apply jD | refine jS ?_ GE320.out | refine jS ?_ GE321.out | refine jS ?_ GE329.out) | exact HB.out)⟩⟩
     case round =>
      clear H'
      try clear c1
      try clear c2
      try clear p2
      try clear c3
      try clear c4
      try clear c6
      try clear c16
      try clear c17
      try clear c19
      try clear c19b0
      try clear c20
      try clear c21
      try clear hcz18_0
      try clear hcz18_1
      try clear hcz22_0
      try clear hcz22_1
      try clear hcz7_0
      try clear hcz7_1
      try clear hcz7_2
      try clear hcz7_3
      try clear hcz7_4
      try clear hfz18_0
      try clear hfz18_1
      try clear hfz22_0
      try clear hfz22_1
      try clear hfz7_0
      try clear hfz7_1
      try clear hfz7_2
      try clear hfz7_3
      try clear hfz7_4
      try clear p2
      obtain ⟨x7_2, x8_2, x330000_2, u330000, rfl, HA, HK2, HO_7, HO_330000, HO_330001, BK320, BK321, BK329, HB⟩ := hrel
      cases gk with
      | zero => exact absurd HA.out (by simp [sr14_Build.l1])
      | succ k2 =>
       have H := HA.out
       clear HA
       simp only [sr14_Build.l1] at H
       by_cases c24 : x8_2 < (wrap64 ((l0_0.length : Int) + (l0_2.length : Int)))
       ·rw [if_pos c24] at H
        have c24b0 : decide (x8_2 < (wrap64 ((l0_0.length : Int) + (l0_2.length : Int)))) = true := decide_eq_true c24
        clear c24
        have HC25 := jM H
        clear H
        have hnb26 := NB320_321.out
        have hnc26 := NB321_320.out
        have hnb27 := NB320_329.out
        have hnc27 := NB329_320.out
        have hcz28_0 : wr.cell? ⟨gb320, 0, none⟩ = some (.slice A0_0 l0_0.length c0_0) := (jC BK320.out 0).trans rfl
        have hcz28_1 : wr.cell? ⟨gb320, 1, none⟩ = some (.slice A0_1 l0_1.length c0_1) := (jC BK320.out 1).trans rfl
        have hcz28_2 : wr.cell? ⟨gb320, 2, none⟩ = some (.slice A0_2 l0_2.length c0_2) := (jC BK320.out 2).trans rfl
        have hcz28_3 : wr.cell? ⟨gb320, 3, none⟩ = some (.slice A0_3 l0_3.length c0_3) := (jC BK320.out 3).trans rfl
        have hcz28_4 : wr.cell? ⟨gb320, 4, none⟩ = some (.int .i64 a0_4) := (jC BK320.out 4).trans rfl
        have hfz28_0 := jF BK320.out 0
        have hfz28_1 := jF BK320.out 1
        have hfz28_2 := jF BK320.out 2
        have hfz28_3 := jF BK320.out 3
        have hfz28_4 := jF BK320.out 4
        go_upto_if 45 with (fail)
        go_cut [9] (fun v9 wc => ∃ (kq : Nat) (x9_24 : Int), v9 = .int .i64 x9_24 ∧ Aside0 (sr14_Build.j2 kq x6_1 x7_2 x8_2 x9_24 l0_0 l0_1 l0_2 l0_3 a0_4 x330000_2 x330001_1 = some (r1, r2, r3)) ∧ Aside0 (kq ≤ k2) ∧ Aside0 (Kd.R (Kd.int .i64) 3 wc w.heap.size (fun k_ => (w.heap.size ≤ k_)) u7 x7_2) ∧ Aside0 (Kd.N (Kd.slice 39 k39) 32 wc w.heap.size (fun k_ => (w.heap.size ≤ k_) ∧ some k_ ≠ (u7 : Value).ownBlock ∧ some k_ ≠ (u330001 : Value).ownBlock ∧ k_ ≠ gb320 ∧ k_ ≠ gb321 ∧ k_ ≠ gb329) u330000 x330000_2) ∧ Aside0 (Kd.N (Kd.slice 3 (Kd.int .i64)) 58 wc w.heap.size (fun k_ => (w.heap.size ≤ k_) ∧ some k_ ≠ (u7 : Value).ownBlock ∧ some k_ ≠ (u330000 : Value).ownBlock ∧ k_ ≠ gb320 ∧ k_ ≠ gb321 ∧ k_ ≠ gb329) u330001 x330001_1) ∧ Aside0 (wc.heap[gb320]? = some (.cells #[(.slice A0_0 l0_0.length c0_0), (.slice A0_1 l0_1.length c0_1), (.slice A0_2 l0_2.length c0_2), (.slice A0_3 l0_3.length c0_3), .int .i64 a0_4] 27 (0, 0))) ∧ Aside0 (wc.heap[gb321]? = some (.cells #[(.slice none 0 0), (.slice none 0 0)] 55 (0, 0))) ∧ Aside0 (wc.heap[gb329]? = some (.cells #[u330000, u330001] 55 (0, 0))) ∧ Aside0 (Below w.heap.size w wc))
        case first =>
         have H := HC25.out
         clear HC25
         by_cases c29 : x8_2 ≥ (l0_0.length : Int)
         ·rw [if_pos c29] at H
          have c29b0 : decide ((l0_0.length : Int) ≤ x8_2) = true := decide_eq_true c29
          clear c29
          (first | rw [c29b0] | (simp only [i64_w, i32_w]; rw [c29b0]) | skip)
          have H' := jM H
          clear H
          have hnb30 := NB320_321.out
          have hnc30 := NB321_320.out
          have hnb31 := NB320_329.out
          have hnc31 := NB329_320.out
          have hcz32_0 : wr.cell? ⟨gb320, 0, none⟩ = some (.slice A0_0 l0_0.length c0_0) := (jC BK320.out 0).trans rfl
          have hcz32_1 : wr.cell? ⟨gb320, 1, none⟩ = some (.slice A0_1 l0_1.length c0_1) := (jC BK320.out 1).trans rfl
          have hcz32_2 : wr.cell? ⟨gb320, 2, none⟩ = some (.slice A0_2 l0_2.length c0_2) := (jC BK320.out 2).trans rfl
          have hcz32_3 : wr.cell? ⟨gb320, 3, none⟩ = some (.slice A0_3 l0_3.length c0_3) := (jC BK320.out 3).trans rfl
          have hcz32_4 : wr.cell? ⟨gb320, 4, none⟩ = some (.int .i64 a0_4) := (jC BK320.out 4).trans rfl
          have hfz32_0 := jF BK320.out 0
          have hfz32_1 := jF BK320.out 1
          have hfz32_2 := jF BK320.out 2
          have hfz32_3 := jF BK320.out 3
          have hfz32_4 := jF BK320.out 4
          go_wp2
          go_meet
          case rel => exact ⟨_, (wrap64 ((-1) - (wrap64 (x8_2 - (l0_0.length : Int))))), tZ, H', ⟨by have := HK1.out; have := HK2.out; first | omega | exact Nat.le_refl _⟩, ⟨tR HO_7.out⟩, ⟨tN HO_330000.out⟩, ⟨tN HO_330001.out⟩, ⟨tK BK320.out⟩, ⟨tK BK321.out⟩, ⟨tK BK329.out⟩, ⟨by repeat (first | (with_reducible first | exact HB.out | apply jA | apply jN | apply jD | refine jS ?_ GE320.out | refine jS ?_ GE321.out | refine jS ?_ GE329.out) | exact HB.out)⟩⟩
         ·rw [if_neg c29] at H
          have c29b0 : decide ((l0_0.length : Int) ≤ x8_2) = false := decide_eq_false c29
          clear c29
          (first | rw [c29b0] | (simp only [i64_w, i32_w]; rw [c29b0]) | skip)
          have H' := jM H
          clear H
          go_wp2
          go_meet
          case rel => exact ⟨_, (x8_2), tZ, H', ⟨by have := HK1.out; have := HK2.out; first | omega | exact Nat.le_refl _⟩, ⟨tR HO_7.out⟩, ⟨tN HO_330000.out⟩, ⟨tN HO_330001.out⟩, ⟨tK BK320.out⟩, ⟨tK BK321.out⟩, ⟨tK BK329.out⟩, ⟨by repeat (first | (with_reducible first | exact HB.out | apply jA | apply jN | apply jD | refine jS ?_ GE320.out | refine jS ?_ GE321.out | refine jS ?_ GE329.out) | exact HB.out)⟩⟩
        case rest =>
         clear HC25
         try clear c1
         try clear c2
         try clear p2
         try clear c3
         try clear c4
         try clear c6
         try clear p6
         try clear c16
         try clear c17
         try clear c19
         try clear c19b0
         try clear c20
         try clear c21
         try clear c24
         try clear c24b0
         try clear c26
         try clear c27
         try clear c29
         try clear c29b0
         try clear c30
         try clear c31
         try clear hcz18_0
         try clear hcz18_1
         try clear hcz22_0
         try clear hcz22_1
         try clear hcz28_0
         try clear hcz28_1
         try clear hcz28_2
         try clear hcz28_3
         try clear hcz28_4
         try clear hcz32_0
         try clear hcz32_1
         try clear hcz32_2
         try clear hcz32_3
         try clear hcz32_4
         try clear hcz7_0
         try clear hcz7_1
         try clear hcz7_2
         try clear hcz7_3
         try clear hcz7_4
         try clear hfz18_0
         try clear hfz18_1
         try clear hfz22_0
         try clear hfz22_1
         try clear hfz28_0
         try clear hfz28_1
         try clear hfz28_2
         try clear hfz28_3
         try clear hfz28_4
         try clear hfz32_0
         try clear hfz32_1
         try clear hfz32_2
         try clear hfz32_3
         try clear hfz32_4
         try clear hfz7_0
         try clear hfz7_1
         try clear hfz7_2
         try clear hfz7_3
         try clear hfz7_4
         try clear p2
         obtain ⟨kq, x9_24, rfl, HA, HJ24, HO_7, HO_330000, HO_330001, BK320, BK321, BK329, HB⟩ := hcut
         cases kq with
         | zero => exact absurd HA.out (by simp [sr14_Build.j2])
         | succ kj24 =>
          have H := HA.out
          clear HA
          simp only [sr14_Build.j2] at H
          by_cases c33 : 0 ≤ x6_1
          ·rw [if_pos c33] at H
           have c33b0 : decide (0 ≤ x6_1) = true := decide_eq_true c33
           clear c33
           by_cases c34 : x6_1 < (x330000_2.length : Int)
           ·rw [if_pos c34] at H
            have c34b0 : decide (x6_1 < (x330000_2.length : Int)) = true := decide_eq_true c34
            clear c34
            replace H := Option.bind_eq_some_iff.mp H
            obtain ⟨t334, A350, H⟩ := H
            replace H : (sr14_Build.l2 kj24 x6_1 x7_2 x8_2 t334 (-1) 0 l0_0 l0_1 l0_2 l0_3 a0_4 x330000_2 x330001_1) = some (r1, r2, r3) := H
            have A35 := jM A350
            clear A350
            have H' := jM H
            clear H
            try go_wp2
            have n0_ := jM (Kd.R_drew HO_7.out)
            have n1_ := jM (jp HO_330000.out)
            have n2_ := jM (jp HO_330001.out)
            have n3_ := jM (jZ BK320.out)
            have n4_ := jM (jZ BK321.out)
            have n5_ := jM (jZ BK329.out)
            have n6_ := jM (jD HB.out)
            clear HO_7 HO_330000 HO_330001 BK320 BK321 BK329 HB
            have HO_7 := n0_
            have HO_330000 := n1_
            have HO_330001 := n2_
            have BK320 := n3_
            have BK321 := n4_
            have BK329 := n5_
            have HB := n6_
            clear n0_ n1_ n2_ n3_ n4_ n5_ n6_
            obtain ⟨Ao37, co37, eo37⟩ := Kd.N_slice HO_330000.out
            (first | subst eo37 | (injection eo37 with f1_ f2_ f3_; have f4_ := f1_.symm; have f5_ := f3_.symm; clear f1_ f2_ f3_; subst f4_; subst f5_))
            have p333 : 0 ≤ (x6_1 : Int) := of_decide_eq_true tD
            have q333 : x6_1 < (x330000_2.length : Int) := of_decide_eq_true tD
            obtain ⟨ad333, A333_0, c333_0, e333, hx333_0, hl333_0, hi333_0⟩ := at_L21 (Kd.N_reads' HO_330000.out).2.2 x6_1 p333 q333
            cases e333
            obtain ⟨ce333, hce333, hMe333, hcc333⟩ := Kd.N_get HO_330000.out [] x6_1 p333 (by first | exact q333 | exact of_decide_eq_true tD | (have e_ := (Kd.N_reads' HO_330000.out).1; omega))
            obtain ⟨ua333_0, uc333_0, rfl, ul333_0, ge333_0⟩ := Kd.FK_slice_open hMe333
            have hv333_0 := hcc333 0 _ rfl
            rw [Nat.add_zero, show ((Kd.slice 39 k39)).sz = 1 from rfl, Nat.mul_one] at hv333_0
            replace hv333_0 := Option.some.inj (hv333_0.symm.trans hx333_0)
            injection hv333_0 with hva_ hvn_ hvc_
            rw [hva_] at ge333_0
            rw [hvc_] at ul333_0
            have HL333_0 := jM (show Kd.V k39 39 _ w.heap.size _ _ (rd_L21 x330000_2 x6_1) from Kd.V_mk ul333_0 ge333_0)
            clear hva_ hvn_ hvc_ ge333_0 ul333_0 hcc333 hce333
            have HR333_0 := jM hi333_0
            have HC333_0 := jM hl333_0
            clear hi333_0 hl333_0
            replace p333 := eq_true p333
            replace q333 := eq_true q333
            refine start_ (n := 9) (S := fun w' => w'.cell? ⟨gb320, 0, none⟩ = some (.slice A0_0 l0_0.length c0_0) ∧ w'.cell? ⟨gb320, 1, none⟩ = some (.slice A0_1 l0_1.length c0_1) ∧ w'.cell? ⟨gb320, 2, none⟩ = some (.slice A0_2 l0_2.length c0_2) ∧ w'.cell? ⟨gb320, 3, none⟩ = some (.slice A0_3 l0_3.length c0_3) ∧ w'.cell? ⟨gb320, 4, none⟩ = some (.int .i64 a0_4) ∧ w'.cell? ⟨gb329, 0, none⟩ = some (.slice (some ad333) x330000_2.length co37) ∧ w'.cell? ⟨gb329, 1, none⟩ = some (u330001) ∧ w'.cell? (ad333.add (x6_1).toNat) = some (.slice A333_0 (rd_L21 x330000_2 x6_1).length c333_0)) (ds := []) (tf 0 9) (by kernel_rfl) rfl rfl ⟨(jC BK320.out 0).trans rfl, (jC BK320.out 1).trans rfl, (jC BK320.out 2).trans rfl, (jC BK320.out 3).trans rfl, (jC BK320.out 4).trans rfl, (jC BK329.out 0).trans rfl, (jC BK329.out 1).trans rfl, hx333_0⟩ (fun hHeld => ?_); refine with_tabW sr14_Build.tab15 sr14_Build.bits15 (fun HT_ HW_ => ?_)
            generalize wc.drew = w36 at HO_7 HO_330000 HO_330001 BK320 BK321 BK329 HB HL333_0 HR333_0 hx333_0 hHeld ⊢
            refine pU (i:=1) (N:=some 53) #[false, true, false, false, false, false, false, false, false] HT_ ?_
            refine pU (i:=3) (N:=some 55) #[false, true, false, true, false, false, false, false, false] HT_ ?_
            refine pU (i:=6) (N:=some 58) #[false, true, false, true, false, false, true, false, false] HT_ ?_
            refine tU (i:=0) (N:=some 52) #[true, true, false, true, false, false, true, false, false] HT_ HW_ hHeld ?_
            refine tU (i:=2) (N:=some 54) #[true, true, true, true, false, false, true, false, false] HT_ HW_ hHeld ?_
            refine pU (i:=4) (N:=some 56) #[true, true, true, true, true, false, true, false, false] HT_ ?_
            refine tU (i:=5) (N:=some 57) (tf 7 2) HT_ HW_ hHeld ?_
            refine one_ (i := 7) (N := some 59) (tf 8 1) rfl rfl (one_of HT_.out (by kernel_rfl)) (by decide) (fun K hK => ?_)
            refine goes_ Tryd.func21 (by kernel_rfl) rfl #[.agg #[.slice A0_0 l0_0.length c0_0, .slice A0_1 l0_1.length c0_1, .slice A0_2 l0_2.length c0_2, .slice A0_3 l0_3.length c0_3, .int .i64 a0_4], .slice A333_0 (rd_L21 x330000_2 x6_1).length c333_0, .int .i64 x9_24] (by rfl) rfl rfl tM ?_
            with_reducible refine (sr14_Step.calls kj24 _ _ l0_0 _ _ l0_1 _ _ l0_2 _ _ l0_3 a0_4 _ _ (rd_L21 x330000_2 x6_1) x9_24 t334 _ ?side1 ?side2 ?side3 ?side4 ?side5 ?side6 ?side7 ?side8 ?side9 ?side10 A35.out).mono ?_
            (case side1 => exact tC (jB HR0_0.out HB.out))
            (case side2 => exact HC0_0.out)
            (case side3 => exact tC (jB HR0_1.out HB.out))
            (case side4 => exact HC0_1.out)
            (case side5 => exact tC (jB HR0_2.out HB.out))
            (case side6 => exact HC0_2.out)
            (case side7 => exact tC (jB HR0_3.out HB.out))
            (case side8 => exact HC0_3.out)
            (case side9 => exact tC (by repeat (first | (with_reducible exact HR333_0.out) | (with_reducible refine Kd.C_alloc ?_ _) | (with_reducible refine Kd.C_drewN ?_ _) | (with_reducible refine Kd.C_drew ?_) | exact HR333_0.out)))
            (case side10 => exact HC333_0.out)
            rintro e w38 ⟨v335, rfl, ho0, hb⟩
            have HS7_ := (hb.cell (jL _ _ (hHeld.2.2.2.2.2.2.2))).trans (hHeld.2.2.2.2.2.2.2)
            refine ⟨_, rfl, ?_⟩
            have n0_ := jM (Kd.R_below (tR HO_7.out) hb)
            have n1_ := jM (Kd.N_elder' (tN HO_330000.out) (Kd.R_base ho0) hb)
            have n2_ := jM (Kd.N_elder' (tN HO_330001.out) (Kd.R_base ho0) hb)
            have n3_ := jM (Kd.V_elder' (by (with_reducible repeat (first | apply jt | apply ju | apply jv)); exact HL333_0.out) (Kd.R_base ho0) hb)
            have n4_ := jM (Kd.R_lower (Kd.R_newM (M := fun k_ => (w.heap.size ≤ k_)) ho0 (below_size (by repeat (first | (with_reducible first | exact HB.out | apply jA | apply jN | apply jD | refine jS ?_ GE320.out | refine jS ?_ GE321.out | refine jS ?_ GE329.out) | exact HB.out))) (fun k_ h_ => h_)) (below_size (by repeat (first | (with_reducible first | exact HB.out | apply jA | apply jN | apply jD | refine jS ?_ GE320.out | refine jS ?_ GE321.out | refine jS ?_ GE329.out) | exact HB.out))))
            have n5_ := jM (jW (g := gb320) (o := .cells #[.slice A0_0 l0_0.length c0_0, .slice A0_1 l0_1.length c0_1, .slice A0_2 l0_2.length c0_2, .slice A0_3 l0_3.length c0_3, .int .i64 a0_4] 27 (0, 0)) (tK BK320.out) hb)
            have n6_ := jM (jW (g := gb321) (o := .cells #[.slice none 0 0, .slice none 0 0] 55 (0, 0)) (tK BK321.out) hb)
            have n7_ := jM (jW (g := gb329) (o := .cells #[.slice (some ad333) x330000_2.length co37, u330001] 55 (0, 0)) (tK BK329.out) hb)
            have n8_ := jM (jB (by repeat (first | (with_reducible exact HR333_0.out) | (with_reducible refine Kd.C_alloc ?_ _) | (with_reducible refine Kd.C_drewN ?_ _) | (with_reducible refine Kd.C_drew ?_) | exact HR333_0.out)) hb)
            have n9_ := jM (jT (by repeat (first | (with_reducible first | exact HB.out | apply jA | apply jN | apply jD | refine jS ?_ GE320.out | refine jS ?_ GE321.out | refine jS ?_ GE329.out) | exact HB.out)) hb)
            clear HO_7 HO_330000 HO_330001 HL333_0 BK320 BK321 BK329 HR333_0 HB
            have HO_7 := n0_
            have HO_330000 := n1_
            have HO_330001 := n2_
            have HL333_0 := n3_
            have HO336 := n4_
            have BK320 := n5_
            have BK321 := n6_
            have BK329 := n7_
            have HR333_0 := n8_
            have HB := n9_
            clear n0_ n1_ n2_ n3_ n4_ n5_ n6_ n7_ n8_ n9_
            (try clear hb)
            (try clear hb2)
            (try clear hk)
            (try clear hi)
            (try clear ho0)
            refine hK.out _ _ ⟨(jC BK320.out 0).trans rfl, (jC BK320.out 1).trans rfl, (jC BK320.out 2).trans rfl, (jC BK320.out 3).trans rfl, (jC BK320.out 4).trans rfl, (jC BK329.out 0).trans rfl, (jC BK329.out 1).trans rfl, HS7_⟩ (fun hHeld => ?_)
            clear hK K
            refine nU (N:=some 59) ?_
            refine pU (i:=8) (N:=some 10) (tf 9 0) HT_ ?_
            refine done_ (done_of HT_.out (by kernel_rfl)) ?_
            try go_wp2
            go_loopg [11, 12] kj24 (fun kq v11 v12 w' => ∃ (x11_4 : Int) (x12_4 : Int), v11 = .int .i64 x11_4 ∧ v12 = .int .i64 x12_4 ∧ Aside0 (sr14_Build.l2 kq x6_1 x7_2 x8_2 t334 x11_4 x12_4 l0_0 l0_1 l0_2 l0_3 a0_4 x330000_2 x330001_1 = some (r1, r2, r3)) ∧ Aside0 (kq ≤ kj24) ∧ Aside0 (Kd.R (Kd.int .i64) 3 w' w.heap.size (fun k_ => (w.heap.size ≤ k_)) u7 x7_2) ∧ Aside0 (Kd.R k39 39 w' w.heap.size (fun k_ => (w.heap.size ≤ k_)) v335 t334) ∧ Aside0 (Kd.N (Kd.slice 39 k39) 32 w' w.heap.size (fun k_ => (w.heap.size ≤ k_) ∧ some k_ ≠ (u7 : Value).ownBlock ∧ some k_ ≠ (v335 : Value).ownBlock ∧ some k_ ≠ (u330001 : Value).ownBlock ∧ k_ ≠ gb320 ∧ k_ ≠ gb321 ∧ k_ ≠ gb329) (.slice (some ad333) x330000_2.length co37) x330000_2) ∧ Aside0 (Kd.N (Kd.slice 3 (Kd.int .i64)) 58 w' w.heap.size (fun k_ => (w.heap.size ≤ k_) ∧ some k_ ≠ (u7 : Value).ownBlock ∧ some k_ ≠ (v335 : Value).ownBlock ∧ some k_ ≠ ((.slice (some ad333) x330000_2.length co37) : Value).ownBlock ∧ k_ ≠ gb320 ∧ k_ ≠ gb321 ∧ k_ ≠ gb329) u330001 x330001_1) ∧ Aside0 (w'.heap[gb320]? = some (.cells #[(.slice A0_0 l0_0.length c0_0), (.slice A0_1 l0_1.length c0_1), (.slice A0_2 l0_2.length c0_2), (.slice A0_3 l0_3.length c0_3), .int .i64 a0_4] 27 (0, 0))) ∧ Aside0 (w'.heap[gb321]? = some (.cells #[(.slice none 0 0), (.slice none 0 0)] 55 (0, 0))) ∧ Aside0 (w'.heap[gb329]? = some (.cells #[(.slice (some ad333) x330000_2.length co37), u330001] 55 (0, 0))) ∧ Aside0 (Kd.C k39 w' A333_0 (rd_L21 x330000_2 x6_1).length (rd_L21 x330000_2 x6_1)) ∧ Aside0 (Below w.heap.size w w'))
            case atStart => exact ⟨((-1)), (0), tZ, tZ, H', ⟨Nat.le_refl _⟩, ⟨tR HO_7.out⟩, ⟨by (with_reducible repeat (first | apply Kd.R_alloc | apply Kd.R_drewN | apply Kd.R_drew)); exact Kd.R_mono HO336.out (fun _ hk => hk.1)⟩, ⟨by (with_reducible repeat (first | apply jn | apply jo | apply jp)); exact Kd.N_mono HO_330000.out (fun _ hk => ⟨hk.1.1, ⟨hk.1.2.1, ⟨hk.2, ⟨hk.1.2.2.1, ⟨hk.1.2.2.2.1, ⟨hk.1.2.2.2.2.1, hk.1.2.2.2.2.2⟩⟩⟩⟩⟩⟩)⟩, ⟨by (with_reducible repeat (first | apply jn | apply jo | apply jp)); exact Kd.N_mono HO_330001.out (fun _ hk => ⟨hk.1.1, ⟨hk.1.2.1, ⟨hk.2, ⟨hk.1.2.2.1, ⟨hk.1.2.2.2.1, ⟨hk.1.2.2.2.2.1, hk.1.2.2.2.2.2⟩⟩⟩⟩⟩⟩)⟩, ⟨tK BK320.out⟩, ⟨tK BK321.out⟩, ⟨tK BK329.out⟩, ⟨by repeat (first | (with_reducible exact HR333_0.out) | (with_reducible refine Kd.C_alloc ?_ _) | (with_reducible refine Kd.C_drewN ?_ _) | (with_reducible refine Kd.C_drew ?_) | exact HR333_0.out)⟩, ⟨by repeat (first | (with_reducible first | exact HB.out | apply jA | apply jN | apply jD | refine jS ?_ GE320.out | refine jS ?_ GE321.out | refine jS ?_ GE329.out) | exact HB.out)⟩⟩
            case round =>
             clear H'
             try clear c1
             try clear c2
             try clear p2
             try clear c3
             try clear p3
             try clear q3
             try clear hx3
             try clear c4
             try clear c6
             try clear p6
             try clear c16
             try clear c17
             try clear c19
             try clear c19b0
             try clear c20
             try clear c21
             try clear c24
             try clear c24b0
             try clear c26
             try clear c27
             try clear c29
             try clear c29b0
             try clear c30
             try clear c31
             try clear c33
             try clear c33b0
             try clear p33
             try clear q33
             try clear hx33
             try clear c34
             try clear c34b0
             try clear hcz18_0
             try clear hcz18_1
             try clear hcz22_0
             try clear hcz22_1
             try clear hcz28_0
             try clear hcz28_1
             try clear hcz28_2
             try clear hcz28_3
             try clear hcz28_4
             try clear hcz32_0
             try clear hcz32_1
             try clear hcz32_2
             try clear hcz32_3
             try clear hcz32_4
             try clear hcz7_0
             try clear hcz7_1
             try clear hcz7_2
             try clear hcz7_3
             try clear hcz7_4
             try clear hfz18_0
             try clear hfz18_1
             try clear hfz22_0
             try clear hfz22_1
             try clear hfz28_0
             try clear hfz28_1
             try clear hfz28_2
             try clear hfz28_3
             try clear hfz28_4
             try clear hfz32_0
             try clear hfz32_1
             try clear hfz32_2
             try clear hfz32_3
             try clear hfz32_4
             try clear hfz7_0
             try clear hfz7_1
             try clear hfz7_2
             try clear hfz7_3
             try clear hfz7_4
             try clear hx333_0
             try clear p2
             try clear p333
             try clear p6
             try clear q333
             obtain ⟨x11_4, x12_4, rfl, rfl, HA, HK4, HO_7, HO_10, HO_330000, HO_330001, BK320, BK321, BK329, HR333_0, HB⟩ := hrel
             cases gk with
             | zero => exact absurd HA.out (by simp [sr14_Build.l2])
             | succ k4 =>
              have H := HA.out
              clear HA
              simp only [sr14_Build.l2] at H
              have HC39 := jM H
              clear H
              go_upto_region 18 with (fail)
              go_cut [68] (fun v68 wc => ∃ (kq : Nat) (x68_38 : Bool), v68 = .bool x68_38 ∧ Aside0 (sr14_Build.j4 kq x6_1 x7_2 x8_2 t334 x11_4 x12_4 x68_38 l0_0 l0_1 l0_2 l0_3 a0_4 x330000_2 x330001_1 = some (r1, r2, r3)) ∧ Aside0 (kq ≤ k4) ∧ Aside0 (Kd.R (Kd.int .i64) 3 wc w.heap.size (fun k_ => (w.heap.size ≤ k_)) u7 x7_2) ∧ Aside0 (Kd.R k39 39 wc w.heap.size (fun k_ => (w.heap.size ≤ k_)) v335 t334) ∧ Aside0 (Kd.N (Kd.slice 39 k39) 32 wc w.heap.size (fun k_ => (w.heap.size ≤ k_) ∧ some k_ ≠ (u7 : Value).ownBlock ∧ some k_ ≠ (v335 : Value).ownBlock ∧ some k_ ≠ (u330001 : Value).ownBlock ∧ k_ ≠ gb320 ∧ k_ ≠ gb321 ∧ k_ ≠ gb329) (.slice (some ad333) x330000_2.length co37) x330000_2) ∧ Aside0 (Kd.N (Kd.slice 3 (Kd.int .i64)) 58 wc w.heap.size (fun k_ => (w.heap.size ≤ k_) ∧ some k_ ≠ (u7 : Value).ownBlock ∧ some k_ ≠ (v335 : Value).ownBlock ∧ some k_ ≠ ((.slice (some ad333) x330000_2.length co37) : Value).ownBlock ∧ k_ ≠ gb320 ∧ k_ ≠ gb321 ∧ k_ ≠ gb329) u330001 x330001_1) ∧ Aside0 (wc.heap[gb320]? = some (.cells #[(.slice A0_0 l0_0.length c0_0), (.slice A0_1 l0_1.length c0_1), (.slice A0_2 l0_2.length c0_2), (.slice A0_3 l0_3.length c0_3), .int .i64 a0_4] 27 (0, 0))) ∧ Aside0 (wc.heap[gb321]? = some (.cells #[(.slice none 0 0), (.slice none 0 0)] 55 (0, 0))) ∧ Aside0 (wc.heap[gb329]? = some (.cells #[(.slice (some ad333) x330000_2.length co37), u330001] 55 (0, 0))) ∧ Aside0 (Kd.C k39 wc A333_0 (rd_L21 x330000_2 x6_1).length (rd_L21 x330000_2 x6_1)) ∧ Aside0 (Below w.heap.size w wc))
              case first =>
               have H := HC39.out
               clear HC39
               by_cases c40 : x12_4 < (x330000_2.length : Int)
               ·rw [if_pos c40] at H
                have c40b0 : decide (x12_4 < (x330000_2.length : Int)) = true := decide_eq_true c40
                clear c40
                (first | rw [c40b0] | (simp only [i64_w, i32_w]; rw [c40b0]) | skip)
                have H' := jM H
                clear H
                have hnb41 := NB329_320.out
                have hnc41 := NB320_329.out
                have hnb42 := NB329_321.out
                have hnc42 := NB321_329.out
                have hcz43_0 : wr.cell? ⟨gb329, 0, none⟩ = some (.slice (some ad333) x330000_2.length co37) := (jC BK329.out 0).trans rfl
                have hcz43_1 : wr.cell? ⟨gb329, 1, none⟩ = some (u330001) := (jC BK329.out 1).trans rfl
                have hfz43_0 := jF BK329.out 0
                have hfz43_1 := jF BK329.out 1
                go_wp2
                go_meet
                case rel => exact ⟨_, (decide (x11_4 < 0)), tZ, H', ⟨by have := HK1.out; have := HK2.out; have := HJ24.out; have := HK4.out; first | omega | exact Nat.le_refl _⟩, ⟨tR HO_7.out⟩, ⟨tR HO_10.out⟩, ⟨tN HO_330000.out⟩, ⟨tN HO_330001.out⟩, ⟨tK BK320.out⟩, ⟨tK BK321.out⟩, ⟨tK BK329.out⟩, ⟨by repeat (first | (with_reducible exact HR333_0.out) | (with_reducible refine Kd.C_alloc ?_ _) | (with_reducible refine Kd.C_drewN ?_ _) | (with_reducible refine Kd.C_drew ?_) | exact HR333_0.out)⟩, ⟨by repeat (first | (with_reducible first | exact HB.out | apply jA | apply jN | apply jD | refine jS ?_ GE320.out | refine jS ?_ GE321.out | refine jS ?_ GE329.out) | exact HB.out)⟩⟩
               ·rw [if_neg c40] at H
                have c40b0 : decide (x12_4 < (x330000_2.length : Int)) = false := decide_eq_false c40
                clear c40
                (first | rw [c40b0] | (simp only [i64_w, i32_w]; rw [c40b0]) | skip)
                have H' := jM H
                clear H
                have hnb44 := NB329_320.out
                have hnc44 := NB320_329.out
                have hnb45 := NB329_321.out
                have hnc45 := NB321_329.out
                have hcz46_0 : wr.cell? ⟨gb329, 0, none⟩ = some (.slice (some ad333) x330000_2.length co37) := (jC BK329.out 0).trans rfl
                have hcz46_1 : wr.cell? ⟨gb329, 1, none⟩ = some (u330001) := (jC BK329.out 1).trans rfl
                have hfz46_0 := jF BK329.out 0
                have hfz46_1 := jF BK329.out 1
                go_wp2
                go_meet
                case rel => exact ⟨_, (false), tZ, H', ⟨by have := HK1.out; have := HK2.out; have := HJ24.out; have := HK4.out; first | omega | exact Nat.le_refl _⟩, ⟨tR HO_7.out⟩, ⟨tR HO_10.out⟩, ⟨tN HO_330000.out⟩, ⟨tN HO_330001.out⟩, ⟨tK BK320.out⟩, ⟨tK BK321.out⟩, ⟨tK BK329.out⟩, ⟨by repeat (first | (with_reducible exact HR333_0.out) | (with_reducible refine Kd.C_alloc ?_ _) | (with_reducible refine Kd.C_drewN ?_ _) | (with_reducible refine Kd.C_drew ?_) | exact HR333_0.out)⟩, ⟨by repeat (first | (with_reducible first | exact HB.out | apply jA | apply jN | apply jD | refine jS ?_ GE320.out | refine jS ?_ GE321.out | refine jS ?_ GE329.out) | exact HB.out)⟩⟩
              case rest =>
               clear HC39
               try clear c1
               try clear c2
               try clear p2
               try clear c3
               try clear p3
               try clear q3
               try clear hx3
               try clear c4
               try clear c6
               try clear p6
               try clear c16
               try clear c17
               try clear c19
               try clear c19b0
               try clear c20
               try clear c21
               try clear c24
               try clear c24b0
               try clear c26
               try clear c27
               try clear c29
               try clear c29b0
               try clear c30
               try clear c31
               try clear c33
               try clear c33b0
               try clear p33
               try clear q33
               try clear hx33
               try clear c34
               try clear c34b0
               try clear c40
               try clear c40b0
               try clear c41
               try clear c42
               try clear c44
               try clear c45
               try clear hcz18_0
               try clear hcz18_1
               try clear hcz22_0
               try clear hcz22_1
               try clear hcz28_0
               try clear hcz28_1
               try clear hcz28_2
               try clear hcz28_3
               try clear hcz28_4
               try clear hcz32_0
               try clear hcz32_1
               try clear hcz32_2
               try clear hcz32_3
               try clear hcz32_4
               try clear hcz43_0
               try clear hcz43_1
               try clear hcz46_0
               try clear hcz46_1
               try clear hcz7_0
               try clear hcz7_1
               try clear hcz7_2
               try clear hcz7_3
               try clear hcz7_4
               try clear hfz18_0
               try clear hfz18_1
               try clear hfz22_0
               try clear hfz22_1
               try clear hfz28_0
               try clear hfz28_1
               try clear hfz28_2
               try clear hfz28_3
               try clear hfz28_4
               try clear hfz32_0
               try clear hfz32_1
               try clear hfz32_2
               try clear hfz32_3
               try clear hfz32_4
               try clear hfz43_0
               try clear hfz43_1
               try clear hfz46_0
               try clear hfz46_1
               try clear hfz7_0
               try clear hfz7_1
               try clear hfz7_2
               try clear hfz7_3
               try clear hfz7_4
               try clear hx333_0
               try clear p2
               try clear p3
               try clear p33
               try clear p333
               try clear p6
               try clear q3
               try clear q33
               try clear q333
               obtain ⟨kq, x68_38, rfl, HA, HJ38, HO_7, HO_10, HO_330000, HO_330001, BK320, BK321, BK329, HR333_0, HB⟩ := hcut
               cases kq with
               | zero => exact absurd HA.out (by simp [sr14_Build.j4])
               | succ kj38 =>
                have H := HA.out
                clear HA
                simp only [sr14_Build.j4] at H
                by_cases c47 : x68_38 = true
                ·subst c47
                 have H1 : (if 0 ≤ x12_4 then (if x12_4 < (x330000_2.length : Int) then ((sr14_Row.f kj38 (rd_L21 x330000_2 x12_4) t334).bind fun t338 => (if t338 = true then (sr14_Build.l2 kj38 x6_1 x7_2 x8_2 t334 x12_4 (wrap64 (x12_4 + 1)) l0_0 l0_1 l0_2 l0_3 a0_4 x330000_2 x330001_1) else (sr14_Build.l2 kj38 x6_1 x7_2 x8_2 t334 x11_4 (wrap64 (x12_4 + 1)) l0_0 l0_1 l0_2 l0_3 a0_4 x330000_2 x330001_1))) else (none)) else (none)) = some (r1, r2, r3) := by rw [if_pos rfl] at H; exact H
                 clear H
                 have H := H1
                 clear H1
                 by_cases c48 : 0 ≤ x12_4
                 ·rw [if_pos c48] at H
                  have c48b0 : decide (0 ≤ x12_4) = true := decide_eq_true c48
                  clear c48
                  by_cases c49 : x12_4 < (x330000_2.length : Int)
                  ·rw [if_pos c49] at H
                   have c49b0 : decide (x12_4 < (x330000_2.length : Int)) = true := decide_eq_true c49
                   clear c49
                   replace H := Option.bind_eq_some_iff.mp H
                   obtain ⟨t338, A500, H⟩ := H
                   replace H : (if t338 = true then (sr14_Build.l2 kj38 x6_1 x7_2 x8_2 t334 x12_4 (wrap64 (x12_4 + 1)) l0_0 l0_1 l0_2 l0_3 a0_4 x330000_2 x330001_1) else (sr14_Build.l2 kj38 x6_1 x7_2 x8_2 t334 x11_4 (wrap64 (x12_4 + 1)) l0_0 l0_1 l0_2 l0_3 a0_4 x330000_2 x330001_1)) = some (r1, r2, r3) := H
                   have A50 := jM A500
                   clear A500
                   by_cases c51 : t338 = true
                   ·subst c51
                    have H1 : (sr14_Build.l2 kj38 x6_1 x7_2 x8_2 t334 x12_4 (wrap64 (x12_4 + 1)) l0_0 l0_1 l0_2 l0_3 a0_4 x330000_2 x330001_1) = some (r1, r2, r3) := by rw [if_pos rfl] at H; exact H
                    clear H
                    have H := H1
                    clear H1
                    have H' := jM H
                    clear H
                    have hnb52 := NB329_320.out
                    have hnc52 := NB320_329.out
                    have hnb53 := NB329_321.out
                    have hnc53 := NB321_329.out
                    have hcz54_0 : wc.cell? ⟨gb329, 0, none⟩ = some (.slice (some ad333) x330000_2.length co37) := (jC BK329.out 0).trans rfl
                    have hcz54_1 : wc.cell? ⟨gb329, 1, none⟩ = some (u330001) := (jC BK329.out 1).trans rfl
                    have hfz54_0 := jF BK329.out 0
                    have hfz54_1 := jF BK329.out 1
                    have p337 : 0 ≤ (x12_4 : Int) := of_decide_eq_true tD
                    have q337 : x12_4 < (x330000_2.length : Int) := of_decide_eq_true tD
                    obtain ⟨ad337, A337_0, c337_0, e337, hx337_0, hl337_0, hi337_0⟩ := at_L21 (Kd.N_reads' HO_330000.out).2.2 x12_4 p337 q337
                    obtain rfl : ad333 = ad337 := (by injection e337)
                    obtain ⟨ce337, hce337, hMe337, hcc337⟩ := Kd.N_get HO_330000.out [] x12_4 p337 (by first | exact q337 | exact of_decide_eq_true tD | (have e_ := (Kd.N_reads' HO_330000.out).1; omega))
                    obtain ⟨ua337_0, uc337_0, rfl, ul337_0, ge337_0⟩ := Kd.FK_slice_open hMe337
                    have hv337_0 := hcc337 0 _ rfl
                    rw [Nat.add_zero, show ((Kd.slice 39 k39)).sz = 1 from rfl, Nat.mul_one] at hv337_0
                    replace hv337_0 := Option.some.inj (hv337_0.symm.trans hx337_0)
                    injection hv337_0 with hva_ hvn_ hvc_
                    rw [hva_] at ge337_0
                    rw [hvc_] at ul337_0
                    have HL337_0 := jM (show Kd.V k39 39 _ w.heap.size _ _ (rd_L21 x330000_2 x12_4) from Kd.V_mk ul337_0 ge337_0)
                    clear hva_ hvn_ hvc_ ge337_0 ul337_0 hcc337 hce337
                    have HR337_0 := jM hi337_0
                    have HC337_0 := jM hl337_0
                    clear hi337_0 hl337_0
                    replace p337 := eq_true p337
                    replace q337 := eq_true q337
                    obtain ⟨Ao55, co55, eo55⟩ := Kd.R_slice HO_10.out
                    subst eo55
                    go_wp2_with (first | ((with_reducible refine gate_callee (f := 17) rfl ?_); refine goesL_ (some 77) rfl rfl Tryd.func17 (by kernel_rfl) rfl #[.slice A337_0 (rd_L21 x330000_2 x12_4).length c337_0, .slice Ao55 t334.length co55] rfl tM ?_; (with_reducible refine (sr14_Row.calls kj38 _ _ (rd_L21 x330000_2 x12_4) _ _ t334 true _ ?side1 ?side2 ?side3 ?side4 A50.out).mono ?_); (case side1 => exact tC (by repeat (first | (with_reducible exact HR337_0.out) | (with_reducible refine Kd.C_alloc ?_ _) | (with_reducible refine Kd.C_drewN ?_ _) | (with_reducible refine Kd.C_drew ?_) | exact HR337_0.out))); (case side2 => exact HC337_0.out); (case side3 => exact tC (Kd.R_reads' HO_10.out).2.2); (case side4 => exact (Kd.R_reads' HO_10.out).2.1); rintro e w' ⟨rfl, ⟨nd, rfl⟩⟩; refine ⟨_, rfl, ?_⟩))
                    go_roundg kj38
                    case measure => have := HK1.out; have := HK2.out; have := HJ24.out; have := HK4.out; have := HJ38.out; omega
                    case rel => exact ⟨(x12_4), (wrap64 (x12_4 + 1)), tZ, tZ, H', ⟨by have := HK1.out; have := HK2.out; have := HJ24.out; have := HK4.out; have := HJ38.out; omega⟩, ⟨tR HO_7.out⟩, ⟨tR HO_10.out⟩, ⟨tN HO_330000.out⟩, ⟨tN HO_330001.out⟩, ⟨tK BK320.out⟩, ⟨tK BK321.out⟩, ⟨tK BK329.out⟩, ⟨by repeat (first | (with_reducible exact HR333_0.out) | (with_reducible refine Kd.C_alloc ?_ _) | (with_reducible refine Kd.C_drewN ?_ _) | (with_reducible refine Kd.C_drew ?_) | exact HR333_0.out)⟩, ⟨by repeat (first | (with_reducible first | exact HB.out | apply jA | apply jN | apply jD | refine jS ?_ GE320.out | refine jS ?_ GE321.out | refine jS ?_ GE329.out) | exact HB.out)⟩⟩
                   ·replace c51 := Bool.eq_false_iff.mpr c51
                    subst c51
                    have H1 : (sr14_Build.l2 kj38 x6_1 x7_2 x8_2 t334 x11_4 (wrap64 (x12_4 + 1)) l0_0 l0_1 l0_2 l0_3 a0_4 x330000_2 x330001_1) = some (r1, r2, r3) := by rw [if_neg (show ¬ (false = true) by decide)] at H; exact H
                    clear H
                    have H := H1
                    clear H1
                    have H' := jM H
                    clear H
                    have hnb56 := NB329_320.out
                    have hnc56 := NB320_329.out
                    have hnb57 := NB329_321.out
                    have hnc57 := NB321_329.out
                    have hcz58_0 : wc.cell? ⟨gb329, 0, none⟩ = some (.slice (some ad333) x330000_2.length co37) := (jC BK329.out 0).trans rfl
                    have hcz58_1 : wc.cell? ⟨gb329, 1, none⟩ = some (u330001) := (jC BK329.out 1).trans rfl
                    have hfz58_0 := jF BK329.out 0
                    have hfz58_1 := jF BK329.out 1
                    have p337 : 0 ≤ (x12_4 : Int) := of_decide_eq_true tD
                    have q337 : x12_4 < (x330000_2.length : Int) := of_decide_eq_true tD
                    obtain ⟨ad337, A337_0, c337_0, e337, hx337_0, hl337_0, hi337_0⟩ := at_L21 (Kd.N_reads' HO_330000.out).2.2 x12_4 p337 q337
                    obtain rfl : ad333 = ad337 := (by injection e337)
                    obtain ⟨ce337, hce337, hMe337, hcc337⟩ := Kd.N_get HO_330000.out [] x12_4 p337 (by first | exact q337 | exact of_decide_eq_true tD | (have e_ := (Kd.N_reads' HO_330000.out).1; omega))
                    obtain ⟨ua337_0, uc337_0, rfl, ul337_0, ge337_0⟩ := Kd.FK_slice_open hMe337
                    have hv337_0 := hcc337 0 _ rfl
                    rw [Nat.add_zero, show ((Kd.slice 39 k39)).sz = 1 from rfl, Nat.mul_one] at hv337_0
                    replace hv337_0 := Option.some.inj (hv337_0.symm.trans hx337_0)
                    injection hv337_0 with hva_ hvn_ hvc_
                    rw [hva_] at ge337_0
                    rw [hvc_] at ul337_0
                    have HL337_0 := jM (show Kd.V k39 39 _ w.heap.size _ _ (rd_L21 x330000_2 x12_4) from Kd.V_mk ul337_0 ge337_0)
                    clear hva_ hvn_ hvc_ ge337_0 ul337_0 hcc337 hce337
                    have HR337_0 := jM hi337_0
                    have HC337_0 := jM hl337_0
                    clear hi337_0 hl337_0
                    replace p337 := eq_true p337
                    replace q337 := eq_true q337
                    obtain ⟨Ao59, co59, eo59⟩ := Kd.R_slice HO_10.out
                    subst eo59
                    go_wp2_with (first | ((with_reducible refine gate_callee (f := 17) rfl ?_); refine goesL_ (some 77) rfl rfl Tryd.func17 (by kernel_rfl) rfl #[.slice A337_0 (rd_L21 x330000_2 x12_4).length c337_0, .slice Ao59 t334.length co59] rfl tM ?_; (with_reducible refine (sr14_Row.calls kj38 _ _ (rd_L21 x330000_2 x12_4) _ _ t334 false _ ?side1 ?side2 ?side3 ?side4 A50.out).mono ?_); (case side1 => exact tC (by repeat (first | (with_reducible exact HR337_0.out) | (with_reducible refine Kd.C_alloc ?_ _) | (with_reducible refine Kd.C_drewN ?_ _) | (with_reducible refine Kd.C_drew ?_) | exact HR337_0.out))); (case side2 => exact HC337_0.out); (case side3 => exact tC (Kd.R_reads' HO_10.out).2.2); (case side4 => exact (Kd.R_reads' HO_10.out).2.1); rintro e w' ⟨rfl, ⟨nd, rfl⟩⟩; refine ⟨_, rfl, ?_⟩))
                    go_roundg kj38
                    case measure => have := HK1.out; have := HK2.out; have := HJ24.out; have := HK4.out; have := HJ38.out; omega
                    case rel => exact ⟨(x11_4), (wrap64 (x12_4 + 1)), tZ, tZ, H', ⟨by have := HK1.out; have := HK2.out; have := HJ24.out; have := HK4.out; have := HJ38.out; omega⟩, ⟨tR HO_7.out⟩, ⟨tR HO_10.out⟩, ⟨tN HO_330000.out⟩, ⟨tN HO_330001.out⟩, ⟨tK BK320.out⟩, ⟨tK BK321.out⟩, ⟨tK BK329.out⟩, ⟨by repeat (first | (with_reducible exact HR333_0.out) | (with_reducible refine Kd.C_alloc ?_ _) | (with_reducible refine Kd.C_drewN ?_ _) | (with_reducible refine Kd.C_drew ?_) | exact HR333_0.out)⟩, ⟨by repeat (first | (with_reducible first | exact HB.out | apply jA | apply jN | apply jD | refine jS ?_ GE320.out | refine jS ?_ GE321.out | refine jS ?_ GE329.out) | exact HB.out)⟩⟩
                  ·rw [if_neg c49] at H
                   exact absurd H (by simp)
                 ·rw [if_neg c48] at H
                  exact absurd H (by simp)
                ·replace c47 := Bool.eq_false_iff.mpr c47
                 subst c47
                 have H1 : (if (t334.length : Int) > 0 then (if x11_4 < 0 then (if x330000_2.length < 5864062014805 then (if x7_2.length < 17592186044416 then (sr14_Build.l1 kj38 x6_1 (x7_2 ++ [(x330000_2.length : Int)]) (wrap64 (x8_2 + 1)) l0_0 l0_1 l0_2 l0_3 a0_4 (x330000_2 ++ [t334]) x330001_1) else (none)) else (none)) else (if x7_2.length < 17592186044416 then (sr14_Build.l1 kj38 x6_1 (x7_2 ++ [x11_4]) (wrap64 (x8_2 + 1)) l0_0 l0_1 l0_2 l0_3 a0_4 x330000_2 x330001_1) else (none))) else (if x7_2.length < 17592186044416 then (sr14_Build.l1 kj38 x6_1 (x7_2 ++ [x11_4]) (wrap64 (x8_2 + 1)) l0_0 l0_1 l0_2 l0_3 a0_4 x330000_2 x330001_1) else (none))) = some (r1, r2, r3) := by rw [if_neg (show ¬ (false = true) by decide)] at H; exact H
                 clear H
                 have H := H1
                 clear H1
                 by_cases c60 : (t334.length : Int) > 0
                 ·rw [if_pos c60] at H
                  have c60b0 : decide (0 < (t334.length : Int)) = true := decide_eq_true c60
                  have c60b1 : decide (0 < t334.length) = true := decide_eq_true (by omega)
                  clear c60
                  by_cases c61 : x11_4 < 0
                  ·rw [if_pos c61] at H
                   have c61b0 : decide (x11_4 < 0) = true := decide_eq_true c61
                   clear c61
                   by_cases c62 : x330000_2.length < 5864062014805
                   ·rw [if_pos c62] at H
                    have LMc62 := jM c62
                    clear c62
                    obtain ⟨y339, hy339⟩ : ∃ y_ : List (List (S39)), y_ = (x330000_2 ++ [t334]) := ⟨_, rfl⟩
                    replace H : (if x7_2.length < 17592186044416 then (sr14_Build.l1 kj38 x6_1 (x7_2 ++ [(x330000_2.length : Int)]) (wrap64 (x8_2 + 1)) l0_0 l0_1 l0_2 l0_3 a0_4 y339 x330001_1) else (none)) = some (r1, r2, r3) := by first | (rw [hy339]; with_reducible exact H) | (have H2_ := (Option.bind_some _ _).symm.trans H; rw [hy339]; with_reducible exact H2_) | (have H2_ := (Option.bind_some _ _).symm.trans H; with_reducible exact H2_) | with_reducible exact H | (rw [hy339]; exact H) | exact H
                    have Ny339 := jM hy339
                    clear hy339
                    by_cases c63 : x7_2.length < 17592186044416
                    ·rw [if_pos c63] at H
                     have LMc63 := jM c63
                     clear c63
                     obtain ⟨y342, hy342⟩ : ∃ y_ : List Int, y_ = (x7_2 ++ [(x330000_2.length : Int)]) := ⟨_, rfl⟩
                     replace H : (sr14_Build.l1 kj38 x6_1 y342 (wrap64 (x8_2 + 1)) l0_0 l0_1 l0_2 l0_3 a0_4 y339 x330001_1) = some (r1, r2, r3) := by first | (rw [hy342]; with_reducible exact H) | (have H2_ := (Option.bind_some _ _).symm.trans H; rw [hy342]; with_reducible exact H2_) | (have H2_ := (Option.bind_some _ _).symm.trans H; with_reducible exact H2_) | with_reducible exact H | (rw [hy342]; exact H) | exact H
                     have Ny342 := jM hy342
                     clear hy342
                     have H' := jM H
                     clear H
                     obtain ⟨Ao64, co64, eo64⟩ := Kd.R_slice HO_10.out
                     subst eo64
                     have hnb65 := NB329_320.out
                     have hnc65 := NB320_329.out
                     have hnb66 := NB329_321.out
                     have hnc66 := NB321_329.out
                     have hcz67_0 : wc.cell? ⟨gb329, 0, none⟩ = some (.slice (some ad333) x330000_2.length co37) := (jC BK329.out 0).trans rfl
                     have hcz67_1 : wc.cell? ⟨gb329, 1, none⟩ = some (u330001) := (jC BK329.out 1).trans rfl
                     have hfz67_0 := jF BK329.out 0
                     have hfz67_1 := jF BK329.out 1
                     go_wp2_with (first | ((with_reducible refine gate_builtin (b := .append) (xs := #[.tmp 90, .tmp 92]) rfl ?_); at_builtin; refine Kd.N_append (Kd.slice 39 k39) (w0 := w) w.heap.size rfl (.tmp 90) (.tmp 92) 53 32 (.slice none 0 0) 24 rfl Tryd.underlying53 info32 rfl (by decide) (by omega) (.slice (some ad333) x330000_2.length co37) x330000_2 t334 [.slice Ao64 t334.length co64] (fun k_ => (w.heap.size ≤ k_) ∧ some k_ ≠ (u7 : Value).ownBlock ∧ some k_ ≠ (u330001 : Value).ownBlock ∧ k_ ≠ gb320 ∧ k_ ≠ gb321 ∧ k_ ≠ gb329) (fun k_ => ((fun k_ => (w.heap.size ≤ k_) ∧ some k_ ≠ (u7 : Value).ownBlock ∧ some k_ ≠ (u330001 : Value).ownBlock ∧ k_ ≠ gb320 ∧ k_ ≠ gb321 ∧ k_ ≠ gb329)) k_ ∧ some k_ ≠ (.slice (some ad333) x330000_2.length co37 : Value).ownBlock) rfl rfl ?aP (fun _ hk => hk) ?aF ?aO ?aB ?aS ?aL ?_; (case aP => exact (Kd.FK_slice_mk (Kd.R_reads' (Kd.R_mono (ok' := (fun k_ => ((fun k_ => (w.heap.size ≤ k_) ∧ some k_ ≠ (u7 : Value).ownBlock ∧ some k_ ≠ (u330001 : Value).ownBlock ∧ k_ ≠ gb320 ∧ k_ ≠ gb321 ∧ k_ ≠ gb329)) k_ ∧ some k_ ≠ (.slice (some ad333) x330000_2.length co37 : Value).ownBlock)) (Kd.R_types (Kd.R_types (Kd.R_types (Kd.R_apart' (Kd.R_apart' (Kd.R_apart' (HO_10.out) (Kd.R_typed HO_7.out) (by decide)) (Kd.N_typed HO_330001.out) (by decide)) (Kd.N_typed HO_330000.out) (by decide)) BK320.out (by decide)) BK321.out (by decide)) BK329.out (by decide)) (fun k_ hk => ⟨⟨hk.1.1.1.1.1.1, ⟨hk.1.1.1.1.1.2, ⟨hk.1.1.1.1.2, ⟨hk.1.1.2, ⟨hk.1.2, hk.2⟩⟩⟩⟩⟩, hk.1.1.1.2⟩))).2.1 (Kd.R_F (Kd.R_mono (ok' := (fun k_ => ((fun k_ => (w.heap.size ≤ k_) ∧ some k_ ≠ (u7 : Value).ownBlock ∧ some k_ ≠ (u330001 : Value).ownBlock ∧ k_ ≠ gb320 ∧ k_ ≠ gb321 ∧ k_ ≠ gb329)) k_ ∧ some k_ ≠ (.slice (some ad333) x330000_2.length co37 : Value).ownBlock)) (Kd.R_types (Kd.R_types (Kd.R_types (Kd.R_apart' (Kd.R_apart' (Kd.R_apart' (HO_10.out) (Kd.R_typed HO_7.out) (by decide)) (Kd.N_typed HO_330001.out) (by decide)) (Kd.N_typed HO_330000.out) (by decide)) BK320.out (by decide)) BK321.out (by decide)) BK329.out (by decide)) (fun k_ hk => ⟨⟨hk.1.1.1.1.1.1, ⟨hk.1.1.1.1.1.2, ⟨hk.1.1.1.1.2, ⟨hk.1.1.2, ⟨hk.1.2, hk.2⟩⟩⟩⟩⟩, hk.1.1.1.2⟩))))); (case aB => exact (by repeat (first | (with_reducible first | exact HB.out | apply jA | apply jN | apply jD | refine jS ?_ GE320.out | refine jS ?_ GE321.out | refine jS ?_ GE329.out) | exact HB.out))); (case aF => exact (fun k_ hk => ⟨(Nat.le_trans (below_size (by repeat (first | (with_reducible first | exact HB.out | apply jA | apply jN | apply jD | refine jS ?_ GE320.out | refine jS ?_ GE321.out | refine jS ?_ GE329.out) | exact HB.out))) hk), Kd.fresh' (Kd.R_lt (tR HO_7.out)) k_ hk, Kd.fresh' (Kd.N_lt (tN HO_330001.out)) k_ hk, Kd.freshB (g := gb320) (o := .cells #[.slice A0_0 l0_0.length c0_0, .slice A0_1 l0_1.length c0_1, .slice A0_2 l0_2.length c0_2, .slice A0_3 l0_3.length c0_3, .int .i64 a0_4] 27 (0, 0)) (tK BK320.out) k_ hk, Kd.freshB (g := gb321) (o := .cells #[.slice none 0 0, .slice none 0 0] 55 (0, 0)) (tK BK321.out) k_ hk, Kd.freshB (g := gb329) (o := .cells #[.slice (some ad333) x330000_2.length co37, u330001] 55 (0, 0)) (tK BK329.out) k_ hk⟩)); (case aO => exact (by (with_reducible repeat (first | apply jn | apply jo | apply jp)); exact Kd.N_mono HO_330000.out (fun _ hk => ⟨hk.1, ⟨hk.2.1, ⟨hk.2.2.2.1, ⟨hk.2.2.2.2.1, ⟨hk.2.2.2.2.2.1, hk.2.2.2.2.2.2⟩⟩⟩⟩⟩))); (case aS => exact (below_size (by repeat (first | (with_reducible first | exact HB.out | apply jA | apply jN | apply jD | refine jS ?_ GE320.out | refine jS ?_ GE321.out | refine jS ?_ GE329.out) | exact HB.out)))); (case aL => have := LMc62.out; omega); intro v340 w68 ho hb hg hat; rw [← Ny339.out] at ho; have n0_ := jM (Kd.R_over' (tR HO_7.out) (Kd.N_typed (tN HO_330000.out)) (by decide) hg); have n1_ := jM (Kd.N_afterv (ok := (fun k_ => (w.heap.size ≤ k_) ∧ some k_ ≠ (u7 : Value).ownBlock ∧ some k_ ≠ (.slice Ao64 t334.length co64 : Value).ownBlock ∧ k_ ≠ gb320 ∧ k_ ≠ gb321 ∧ k_ ≠ gb329)) (by (with_reducible repeat (first | apply jn | apply jo | apply jp)); exact Kd.N_mono HO_330001.out (fun _ hk => ⟨⟨hk.1, ⟨hk.2.1, ⟨hk.2.2.1, ⟨hk.2.2.2.2.1, ⟨hk.2.2.2.2.2.1, hk.2.2.2.2.2.2⟩⟩⟩⟩⟩, hk.2.2.2.1⟩)) hg hat); have n2_ := jM (blk_grown (g := gb320) (o := .cells #[.slice A0_0 l0_0.length c0_0, .slice A0_1 l0_1.length c0_1, .slice A0_2 l0_2.length c0_2, .slice A0_3 l0_3.length c0_3, .int .i64 a0_4] 27 (0, 0)) (tK BK320.out) hg (Kd.N_ne HO_330000.out BK320.out (by decide))); have n3_ := jM (blk_grown (g := gb321) (o := .cells #[.slice none 0 0, .slice none 0 0] 55 (0, 0)) (tK BK321.out) hg (Kd.N_ne HO_330000.out BK321.out (by decide))); have n4_ := jM (blk_grown (g := gb329) (o := .cells #[.slice (some ad333) x330000_2.length co37, u330001] 55 (0, 0)) (tK BK329.out) hg (Kd.N_ne HO_330000.out BK329.out (by decide))); have n5_ := jM (hb); have n6_ := jM (ho); clear HO_7; clear HO_330001; clear BK320; clear BK321; clear BK329; clear HB; clear HO_330000; clear HO_10; have HO_7 := n0_; have HO_330001 := n1_; have BK320 := n2_; have BK321 := n3_; have BK329 := n4_; have HB := n5_; have HO341 := n6_; clear n0_ n1_ n2_ n3_ n4_ n5_ n6_; clear ho hb hg hat; obtain ⟨Ao69, co69, eo69⟩ := Kd.N_slice HO341.out; subst eo69; have hcz70_0 : w68.cell? ⟨gb329, 0, none⟩ = some (.slice (some ad333) x330000_2.length co37) := (jC BK329.out 0).trans rfl; have hcz70_1 : w68.cell? ⟨gb329, 1, none⟩ = some (u330001) := (jC BK329.out 1).trans rfl; have hfz70_0 := jF BK329.out 0; have hfz70_1 := jF BK329.out 1) | ((with_reducible refine gate_builtin (b := .append) (xs := #[.tmp 95, .tmp 97]) rfl ?_); at_builtin; refine Kd.R_append (Kd.int .i64) (w0 := w) w.heap.size rfl (.tmp 95) (.tmp 97) 58 3 (.int .i64 0) 8 rfl Tryd.underlying58 info3 rfl (by decide) (by omega) u7 x7_2 (x330000_2.length : Int) [.int .i64 (x330000_2.length : Int)] (fun k_ => (w.heap.size ≤ k_)) (fun _ => False) rfl (by first | (go_simp; done) | (go_simp; rfl)) ?aP (fun _ hk => hk.elim) ?aF ?aO ?aB ?aS ?aL ?_; (case aP => exact rfl); (case aB => exact (by repeat (first | (with_reducible first | exact HB.out | apply jA | apply jN | apply jD | refine jS ?_ GE320.out | refine jS ?_ GE321.out | refine jS ?_ GE329.out) | exact HB.out))); (case aF => exact (fun k_ hk => (Nat.le_trans (below_size (by repeat (first | (with_reducible first | exact HB.out | apply jA | apply jN | apply jD | refine jS ?_ GE320.out | refine jS ?_ GE321.out | refine jS ?_ GE329.out) | exact HB.out))) hk))); (case aO => exact (by (with_reducible repeat (first | apply Kd.R_alloc | apply Kd.R_drewN | apply Kd.R_drew)); exact Kd.R_mono (Kd.R_far (p := ⟨gb329, 0, none⟩) (Kd.R_types HO_7.out BK329.out (by decide)) (fun _ hk => hk.2) (.slice Ao69 y339.length co69)) (fun _ hk => hk.1))); (case aS => exact (below_size (by repeat (first | (with_reducible first | exact HB.out | apply jA | apply jN | apply jD | refine jS ?_ GE320.out | refine jS ?_ GE321.out | refine jS ?_ GE329.out) | exact HB.out)))); (case aL => have := LMc63.out; omega); intro v343 w71 ho hb hg hat; rw [← Ny342.out] at ho; have n0_ := jM (Kd.N_afterv (ok := (fun k_ => (w.heap.size ≤ k_) ∧ some k_ ≠ (.slice Ao69 y339.length co69 : Value).ownBlock ∧ k_ ≠ gb320 ∧ k_ ≠ gb321 ∧ k_ ≠ gb329)) (by (with_reducible repeat (first | apply jn | apply jo | apply jp)); exact Kd.N_mono (Kd.N_far (p := ⟨gb329, 0, none⟩) (Kd.N_mono HO_330001.out (fun k_ hk => (⟨hk, hk.1.2.2.2.2.2⟩ : _ ∧ k_ ≠ gb329))) (fun _ hk => hk.2) (.slice Ao69 y339.length co69)) (fun _ hk => ⟨⟨hk.1.1.1, ⟨hk.1.2, ⟨hk.1.1.2.2.2.1, ⟨hk.1.1.2.2.2.2.1, hk.1.1.2.2.2.2.2⟩⟩⟩⟩, hk.1.1.2.1⟩)) hg hat); have n1_ := jM (blk_grown (g := gb320) (o := .cells #[.slice A0_0 l0_0.length c0_0, .slice A0_1 l0_1.length c0_1, .slice A0_2 l0_2.length c0_2, .slice A0_3 l0_3.length c0_3, .int .i64 a0_4] 27 (0, 0)) (by (with_reducible repeat (first | refine jY ?_ _ | refine jZ ?_ | refine jX ?_ _)); refine blk_far ?_ NB320_329.out _; (with_reducible repeat (first | refine jY ?_ _ | refine jZ ?_ | refine jX ?_ _)); exact BK320.out) hg (Kd.R_ne HO_7.out BK320.out (by decide))); have n2_ := jM (blk_grown (g := gb321) (o := .cells #[.slice none 0 0, .slice none 0 0] 55 (0, 0)) (by (with_reducible repeat (first | refine jY ?_ _ | refine jZ ?_ | refine jX ?_ _)); refine blk_far ?_ NB321_329.out _; (with_reducible repeat (first | refine jY ?_ _ | refine jZ ?_ | refine jX ?_ _)); exact BK321.out) hg (Kd.R_ne HO_7.out BK321.out (by decide))); have n3_ := jM (blk_grown (g := gb329) (o := .cells #[.slice Ao69 y339.length co69, u330001] 55 (0, 0)) (by (with_reducible repeat (first | refine jY ?_ _ | refine jZ ?_ | refine jX ?_ _)); refine blk_put (cs := #[.slice (some ad333) x330000_2.length co37, u330001]) ?_ 0 _ rfl; (with_reducible repeat (first | refine jY ?_ _ | refine jZ ?_ | refine jX ?_ _)); exact BK329.out) hg (Kd.R_ne HO_7.out BK329.out (by decide))); have n4_ := jM (Kd.N_afterv (ok := (fun k_ => (w.heap.size ≤ k_) ∧ some k_ ≠ (u330001 : Value).ownBlock ∧ k_ ≠ gb320 ∧ k_ ≠ gb321 ∧ k_ ≠ gb329)) (by (with_reducible repeat (first | apply jn | apply jo | apply jp)); exact Kd.N_mono (Kd.N_far (p := ⟨gb329, 0, none⟩) (Kd.N_mono HO341.out (fun k_ hk => (⟨hk, hk.2.2.2.2.2⟩ : _ ∧ k_ ≠ gb329))) (fun _ hk => hk.2) (.slice Ao69 y339.length co69)) (fun _ hk => ⟨⟨hk.1.1, ⟨hk.1.2.2.1, ⟨hk.1.2.2.2.1, ⟨hk.1.2.2.2.2.1, hk.1.2.2.2.2.2⟩⟩⟩⟩, hk.1.2.1⟩)) hg hat); have n5_ := jM (hb); have n6_ := jM (ho); clear HO_330001; clear BK320; clear BK321; clear BK329; clear HO341; clear HB; clear HO_7; have HO_330001 := n0_; have BK320 := n1_; have BK321 := n2_; have BK329 := n3_; have HO341 := n4_; have HB := n5_; have HO344 := n6_; clear n0_ n1_ n2_ n3_ n4_ n5_ n6_; clear ho hb hg hat))
                     go_roundg kj38
                     case measure => have := HK1.out; have := HK2.out; have := HJ24.out; have := HK4.out; have := HJ38.out; omega
                     case rel => exact ⟨(y342), (wrap64 (x8_2 + 1)), (y339), (.slice Ao69 y339.length co69), tZ, H', ⟨by have := HK1.out; have := HK2.out; have := HJ24.out; have := HK4.out; have := HJ38.out; omega⟩, ⟨tR HO344.out⟩, ⟨by (with_reducible repeat (first | apply jn | apply jo | apply jp)); exact Kd.N_mono HO341.out (fun _ hk => ⟨hk.1.1, ⟨hk.2, ⟨hk.1.2.1, ⟨hk.1.2.2.1, ⟨hk.1.2.2.2.1, hk.1.2.2.2.2⟩⟩⟩⟩⟩)⟩, ⟨by (with_reducible repeat (first | apply jn | apply jo | apply jp)); exact Kd.N_mono HO_330001.out (fun _ hk => ⟨hk.1.1, ⟨hk.2, ⟨hk.1.2.1, ⟨hk.1.2.2.1, ⟨hk.1.2.2.2.1, hk.1.2.2.2.2⟩⟩⟩⟩⟩)⟩, ⟨tK BK320.out⟩, ⟨tK BK321.out⟩, ⟨tK BK329.out⟩, ⟨by repeat (first | (with_reducible first | exact HB.out | apply jA | apply jN | apply jD | refine jS ?_ GE320.out | refine jS ?_ GE321.out | refine jS ?_ GE329.out) | exact HB.out)⟩⟩
                    ·rw [if_neg c63] at H
                     exact absurd H (by simp)
                   ·rw [if_neg c62] at H
                    exact absurd H (by simp)
                  ·rw [if_neg c61] at H
                   have c61b0 : decide (x11_4 < 0) = false := decide_eq_false c61
                   clear c61
                   by_cases c72 : x7_2.length < 17592186044416
                   ·rw [if_pos c72] at H
                    have LMc72 := jM c72
                    clear c72
                    obtain ⟨y345, hy345⟩ : ∃ y_ : List Int, y_ = (x7_2 ++ [x11_4]) := ⟨_, rfl⟩
                    replace H : (sr14_Build.l1 kj38 x6_1 y345 (wrap64 (x8_2 + 1)) l0_0 l0_1 l0_2 l0_3 a0_4 x330000_2 x330001_1) = some (r1, r2, r3) := by first | (rw [hy345]; with_reducible exact H) | (have H2_ := (Option.bind_some _ _).symm.trans H; rw [hy345]; with_reducible exact H2_) | (have H2_ := (Option.bind_some _ _).symm.trans H; with_reducible exact H2_) | with_reducible exact H | (rw [hy345]; exact H) | exact H
                    have Ny345 := jM hy345
                    clear hy345
                    have H' := jM H
                    clear H
                    obtain ⟨Ao73, co73, eo73⟩ := Kd.R_slice HO_10.out
                    subst eo73
                    go_wp2_with (first | ((with_reducible refine gate_builtin (b := .append) (xs := #[.tmp 95, .tmp 97]) rfl ?_); at_builtin; refine Kd.R_append (Kd.int .i64) (w0 := w) w.heap.size rfl (.tmp 95) (.tmp 97) 58 3 (.int .i64 0) 8 rfl Tryd.underlying58 info3 rfl (by decide) (by omega) u7 x7_2 x11_4 [.int .i64 x11_4] (fun k_ => (w.heap.size ≤ k_)) (fun _ => False) rfl rfl ?aP (fun _ hk => hk.elim) ?aF ?aO ?aB ?aS ?aL ?_; (case aP => exact rfl); (case aB => exact (by repeat (first | (with_reducible first | exact HB.out | apply jA | apply jN | apply jD | refine jS ?_ GE320.out | refine jS ?_ GE321.out | refine jS ?_ GE329.out) | exact HB.out))); (case aF => exact (fun k_ hk => (Nat.le_trans (below_size (by repeat (first | (with_reducible first | exact HB.out | apply jA | apply jN | apply jD | refine jS ?_ GE320.out | refine jS ?_ GE321.out | refine jS ?_ GE329.out) | exact HB.out))) hk))); (case aO => exact (tR HO_7.out)); (case aS => exact (below_size (by repeat (first | (with_reducible first | exact HB.out | apply jA | apply jN | apply jD | refine jS ?_ GE320.out | refine jS ?_ GE321.out | refine jS ?_ GE329.out) | exact HB.out)))); (case aL => have := LMc72.out; omega); intro v346 w74 ho hb hg hat; rw [← Ny345.out] at ho; have n0_ := jM (Kd.R_over' (tR HO_10.out) (Kd.R_typed (tR HO_7.out)) (by decide) hg); have n1_ := jM (Kd.N_afterv (ok := (fun k_ => (w.heap.size ≤ k_) ∧ some k_ ≠ (.slice Ao73 t334.length co73 : Value).ownBlock ∧ some k_ ≠ (u330001 : Value).ownBlock ∧ k_ ≠ gb320 ∧ k_ ≠ gb321 ∧ k_ ≠ gb329)) (by (with_reducible repeat (first | apply jn | apply jo | apply jp)); exact Kd.N_mono HO_330000.out (fun _ hk => ⟨⟨hk.1, ⟨hk.2.2.1, ⟨hk.2.2.2.1, ⟨hk.2.2.2.2.1, ⟨hk.2.2.2.2.2.1, hk.2.2.2.2.2.2⟩⟩⟩⟩⟩, hk.2.1⟩)) hg hat); have n2_ := jM (Kd.N_afterv (ok := (fun k_ => (w.heap.size ≤ k_) ∧ some k_ ≠ (.slice Ao73 t334.length co73 : Value).ownBlock ∧ some k_ ≠ (.slice (some ad333) x330000_2.length co37 : Value).ownBlock ∧ k_ ≠ gb320 ∧ k_ ≠ gb321 ∧ k_ ≠ gb329)) (by (with_reducible repeat (first | apply jn | apply jo | apply jp)); exact Kd.N_mono HO_330001.out (fun _ hk => ⟨⟨hk.1, ⟨hk.2.2.1, ⟨hk.2.2.2.1, ⟨hk.2.2.2.2.1, ⟨hk.2.2.2.2.2.1, hk.2.2.2.2.2.2⟩⟩⟩⟩⟩, hk.2.1⟩)) hg hat); have n3_ := jM (blk_grown (g := gb320) (o := .cells #[.slice A0_0 l0_0.length c0_0, .slice A0_1 l0_1.length c0_1, .slice A0_2 l0_2.length c0_2, .slice A0_3 l0_3.length c0_3, .int .i64 a0_4] 27 (0, 0)) (tK BK320.out) hg (Kd.R_ne HO_7.out BK320.out (by decide))); have n4_ := jM (blk_grown (g := gb321) (o := .cells #[.slice none 0 0, .slice none 0 0] 55 (0, 0)) (tK BK321.out) hg (Kd.R_ne HO_7.out BK321.out (by decide))); have n5_ := jM (blk_grown (g := gb329) (o := .cells #[.slice (some ad333) x330000_2.length co37, u330001] 55 (0, 0)) (tK BK329.out) hg (Kd.R_ne HO_7.out BK329.out (by decide))); have n6_ := jM (hb); have n7_ := jM (ho); clear HO_10; clear HO_330000; clear HO_330001; clear BK320; clear BK321; clear BK329; clear HB; clear HO_7; have HO_10 := n0_; have HO_330000 := n1_; have HO_330001 := n2_; have BK320 := n3_; have BK321 := n4_; have BK329 := n5_; have HB := n6_; have HO347 := n7_; clear n0_ n1_ n2_ n3_ n4_ n5_ n6_ n7_; clear ho hb hg hat))
                    go_roundg kj38
                    case measure => have := HK1.out; have := HK2.out; have := HJ24.out; have := HK4.out; have := HJ38.out; omega
                    case rel => exact ⟨(y345), (wrap64 (x8_2 + 1)), (x330000_2), (.slice (some ad333) x330000_2.length co37), tZ, H', ⟨by have := HK1.out; have := HK2.out; have := HJ24.out; have := HK4.out; have := HJ38.out; omega⟩, ⟨tR HO347.out⟩, ⟨by (with_reducible repeat (first | apply jn | apply jo | apply jp)); exact Kd.N_mono HO_330000.out (fun _ hk => ⟨hk.1.1, ⟨hk.2, ⟨hk.1.2.2.1, ⟨hk.1.2.2.2.1, ⟨hk.1.2.2.2.2.1, hk.1.2.2.2.2.2⟩⟩⟩⟩⟩)⟩, ⟨by (with_reducible repeat (first | apply jn | apply jo | apply jp)); exact Kd.N_mono HO_330001.out (fun _ hk => ⟨hk.1.1, ⟨hk.2, ⟨hk.1.2.2.1, ⟨hk.1.2.2.2.1, ⟨hk.1.2.2.2.2.1, hk.1.2.2.2.2.2⟩⟩⟩⟩⟩)⟩, ⟨tK BK320.out⟩, ⟨tK BK321.out⟩, ⟨tK BK329.out⟩, ⟨by repeat (first | (with_reducible first | exact HB.out | apply jA | apply jN | apply jD | refine jS ?_ GE320.out | refine jS ?_ GE321.out | refine jS ?_ GE329.out) | exact HB.out)⟩⟩
                   ·rw [if_neg c72] at H
                    exact absurd H (by simp)
                 ·rw [if_neg c60] at H
                  have c60b0 : decide (0 < (t334.length : Int)) = false := decide_eq_false c60
                  have c60b1 : decide (0 < t334.length) = false := decide_eq_false (by omega)
                  clear c60
                  by_cases c75 : x7_2.length < 17592186044416
                  ·rw [if_pos c75] at H
                   have LMc75 := jM c75
                   clear c75
                   obtain ⟨y348, hy348⟩ : ∃ y_ : List Int, y_ = (x7_2 ++ [x11_4]) := ⟨_, rfl⟩
                   replace H : (sr14_Build.l1 kj38 x6_1 y348 (wrap64 (x8_2 + 1)) l0_0 l0_1 l0_2 l0_3 a0_4 x330000_2 x330001_1) = some (r1, r2, r3) := by first | (rw [hy348]; with_reducible exact H) | (have H2_ := (Option.bind_some _ _).symm.trans H; rw [hy348]; with_reducible exact H2_) | (have H2_ := (Option.bind_some _ _).symm.trans H; with_reducible exact H2_) | with_reducible exact H | (rw [hy348]; exact H) | exact H
                   have Ny348 := jM hy348
                   clear hy348
                   have H' := jM H
                   clear H
                   obtain ⟨Ao76, co76, eo76⟩ := Kd.R_slice HO_10.out
                   subst eo76
                   go_wp2_with (first | ((with_reducible refine gate_builtin (b := .append) (xs := #[.tmp 95, .tmp 97]) rfl ?_); at_builtin; refine Kd.R_append (Kd.int .i64) (w0 := w) w.heap.size rfl (.tmp 95) (.tmp 97) 58 3 (.int .i64 0) 8 rfl Tryd.underlying58 info3 rfl (by decide) (by omega) u7 x7_2 x11_4 [.int .i64 x11_4] (fun k_ => (w.heap.size ≤ k_)) (fun _ => False) rfl rfl ?aP (fun _ hk => hk.elim) ?aF ?aO ?aB ?aS ?aL ?_; (case aP => exact rfl); (case aB => exact (by repeat (first | (with_reducible first | exact HB.out | apply jA | apply jN | apply jD | refine jS ?_ GE320.out | refine jS ?_ GE321.out | refine jS ?_ GE329.out) | exact HB.out))); (case aF => exact (fun k_ hk => (Nat.le_trans (below_size (by repeat (first | (with_reducible first | exact HB.out | apply jA | apply jN | apply jD | refine jS ?_ GE320.out | refine jS ?_ GE321.out | refine jS ?_ GE329.out) | exact HB.out))) hk))); (case aO => exact (tR HO_7.out)); (case aS => exact (below_size (by repeat (first | (with_reducible first | exact HB.out | apply jA | apply jN | apply jD | refine jS ?_ GE320.out | refine jS ?_ GE321.out | refine jS ?_ GE329.out) | exact HB.out)))); (case aL => have := LMc75.out; omega); intro v349 w77 ho hb hg hat; rw [← Ny348.out] at ho; have n0_ := jM (Kd.R_over' (tR HO_10.out) (Kd.R_typed (tR HO_7.out)) (by decide) hg); have n1_ := jM (Kd.N_afterv (ok := (fun k_ => (w.heap.size ≤ k_) ∧ some k_ ≠ (.slice Ao76 t334.length co76 : Value).ownBlock ∧ some k_ ≠ (u330001 : Value).ownBlock ∧ k_ ≠ gb320 ∧ k_ ≠ gb321 ∧ k_ ≠ gb329)) (by (with_reducible repeat (first | apply jn | apply jo | apply jp)); exact Kd.N_mono HO_330000.out (fun _ hk => ⟨⟨hk.1, ⟨hk.2.2.1, ⟨hk.2.2.2.1, ⟨hk.2.2.2.2.1, ⟨hk.2.2.2.2.2.1, hk.2.2.2.2.2.2⟩⟩⟩⟩⟩, hk.2.1⟩)) hg hat); have n2_ := jM (Kd.N_afterv (ok := (fun k_ => (w.heap.size ≤ k_) ∧ some k_ ≠ (.slice Ao76 t334.length co76 : Value).ownBlock ∧ some k_ ≠ (.slice (some ad333) x330000_2.length co37 : Value).ownBlock ∧ k_ ≠ gb320 ∧ k_ ≠ gb321 ∧ k_ ≠ gb329)) (by (with_reducible repeat (first | apply jn | apply jo | apply jp)); exact Kd.N_mono HO_330001.out (fun _ hk => ⟨⟨hk.1, ⟨hk.2.2.1, ⟨hk.2.2.2.1, ⟨hk.2.2.2.2.1, ⟨hk.2.2.2.2.2.1, hk.2.2.2.2.2.2⟩⟩⟩⟩⟩, hk.2.1⟩)) hg hat); have n3_ := jM (blk_grown (g := gb320) (o := .cells #[.slice A0_0 l0_0.length c0_0, .slice A0_1 l0_1.length c0_1, .slice A0_2 l0_2.length c0_2, .slice A0_3 l0_3.length c0_3, .int .i64 a0_4] 27 (0, 0)) (tK BK320.out) hg (Kd.R_ne HO_7.out BK320.out (by decide))); have n4_ := jM (blk_grown (g := gb321) (o := .cells #[.slice none 0 0, .slice none 0 0] 55 (0, 0)) (tK BK321.out) hg (Kd.R_ne HO_7.out BK321.out (by decide))); have n5_ := jM (blk_grown (g := gb329) (o := .cells #[.slice (some ad333) x330000_2.length co37, u330001] 55 (0, 0)) (tK BK329.out) hg (Kd.R_ne HO_7.out BK329.out (by decide))); have n6_ := jM (hb); have n7_ := jM (ho); clear HO_10; clear HO_330000; clear HO_330001; clear BK320; clear BK321; clear BK329; clear HB; clear HO_7; have HO_10 := n0_; have HO_330000 := n1_; have HO_330001 := n2_; have BK320 := n3_; have BK321 := n4_; have BK329 := n5_; have HB := n6_; have HO350 := n7_; clear n0_ n1_ n2_ n3_ n4_ n5_ n6_ n7_; clear ho hb hg hat))
                   go_roundg kj38
                   case measure => have := HK1.out; have := HK2.out; have := HJ24.out; have := HK4.out; have := HJ38.out; omega
                   case rel => exact ⟨(y348), (wrap64 (x8_2 + 1)), (x330000_2), (.slice (some ad333) x330000_2.length co37), tZ, H', ⟨by have := HK1.out; have := HK2.out; have := HJ24.out; have := HK4.out; have := HJ38.out; omega⟩, ⟨tR HO350.out⟩, ⟨by (with_reducible repeat (first | apply jn | apply jo | apply jp)); exact Kd.N_mono HO_330000.out (fun _ hk => ⟨hk.1.1, ⟨hk.2, ⟨hk.1.2.2.1, ⟨hk.1.2.2.2.1, ⟨hk.1.2.2.2.2.1, hk.1.2.2.2.2.2⟩⟩⟩⟩⟩)⟩, ⟨by (with_reducible repeat (first | apply jn | apply jo | apply jp)); exact Kd.N_mono HO_330001.out (fun _ hk => ⟨hk.1.1, ⟨hk.2, ⟨hk.1.2.2.1, ⟨hk.1.2.2.2.1, ⟨hk.1.2.2.2.2.1, hk.1.2.2.2.2.2⟩⟩⟩⟩⟩)⟩, ⟨tK BK320.out⟩, ⟨tK BK321.out⟩, ⟨tK BK329.out⟩, ⟨by repeat (first | (with_reducible first | exact HB.out | apply jA | apply jN | apply jD | refine jS ?_ GE320.out | refine jS ?_ GE321.out | refine jS ?_ GE329.out) | exact HB.out)⟩⟩
                  ·rw [if_neg c75] at H
                   exact absurd H (by simp)
           ·rw [if_neg c34] at H
            exact absurd H (by simp)
          ·rw [if_neg c33] at H
           exact absurd H (by simp)
       ·rw [if_neg c24] at H
        have c24b0 : decide (x8_2 < (wrap64 ((l0_0.length : Int) + (l0_2.length : Int)))) = false := decide_eq_false c24
        clear c24
        by_cases c78 : x330001_1.length < 5864062014805
        ·rw [if_pos c78] at H
         have LMc78 := jM c78
         clear c78
         obtain ⟨y330, hy330⟩ : ∃ y_ : List (List Int), y_ = (x330001_1 ++ [x7_2]) := ⟨_, rfl⟩
         replace H : (if (x330000_2.length : Int) > 2000 then (some (([] : List (List (S39))), ([] : List (List Int)), 4)) else (sr14_Build.l0 k2 (wrap64 (x6_1 + 1)) l0_0 l0_1 l0_2 l0_3 a0_4 x330000_2 y330)) = some (r1, r2, r3) := by first | (rw [hy330]; with_reducible exact H) | (have H2_ := (Option.bind_some _ _).symm.trans H; rw [hy330]; with_reducible exact H2_) | (have H2_ := (Option.bind_some _ _).symm.trans H; with_reducible exact H2_) | with_reducible exact H | (rw [hy330]; exact H) | exact H
         have Ny330 := jM hy330
         clear hy330
         by_cases c79 : (x330000_2.length : Int) > 2000
         ·rw [if_pos c79] at H
          have c79b0 : decide (2000 < (x330000_2.length : Int)) = true := decide_eq_true c79
          have c79b1 : decide (2000 < x330000_2.length) = true := decide_eq_true (by omega)
          clear c79
          simp only [Option.some.injEq, Prod.mk.injEq] at H
          obtain ⟨rfl, rfl, rfl⟩ := H
          have hnb80 := NB320_321.out
          have hnc80 := NB321_320.out
          have hnb81 := NB320_329.out
          have hnc81 := NB329_320.out
          have hcz82_0 : wr.cell? ⟨gb320, 0, none⟩ = some (.slice A0_0 l0_0.length c0_0) := (jC BK320.out 0).trans rfl
          have hcz82_1 : wr.cell? ⟨gb320, 1, none⟩ = some (.slice A0_1 l0_1.length c0_1) := (jC BK320.out 1).trans rfl
          have hcz82_2 : wr.cell? ⟨gb320, 2, none⟩ = some (.slice A0_2 l0_2.length c0_2) := (jC BK320.out 2).trans rfl
          have hcz82_3 : wr.cell? ⟨gb320, 3, none⟩ = some (.slice A0_3 l0_3.length c0_3) := (jC BK320.out 3).trans rfl
          have hcz82_4 : wr.cell? ⟨gb320, 4, none⟩ = some (.int .i64 a0_4) := (jC BK320.out 4).trans rfl
          have hfz82_0 := jF BK320.out 0
          have hfz82_1 := jF BK320.out 1
          have hfz82_2 := jF BK320.out 2
          have hfz82_3 := jF BK320.out 3
          have hfz82_4 := jF BK320.out 4
          have hnb83 := NB329_321.out
          have hnc83 := NB321_329.out
          have hcz84_0 : wr.cell? ⟨gb329, 0, none⟩ = some (u330000) := (jC BK329.out 0).trans rfl
          have hcz84_1 : wr.cell? ⟨gb329, 1, none⟩ = some (u330001) := (jC BK329.out 1).trans rfl
          have hfz84_0 := jF BK329.out 0
          have hfz84_1 := jF BK329.out 1
          obtain ⟨Ao86, co86, eo86⟩ := Kd.R_slice HO_7.out
          subst eo86
          go_wp2_with (first | ((with_reducible refine gate_builtin (b := .append) (xs := #[.tmp 100, .tmp 102]) rfl ?_); at_builtin; refine Kd.N_append (Kd.slice 3 (Kd.int .i64)) (w0 := w) w.heap.size rfl (.tmp 100) (.tmp 102) 47 58 (.slice none 0 0) 24 rfl Tryd.underlying47 info58 rfl (by decide) (by omega) u330001 x330001_1 x7_2 [.slice Ao86 x7_2.length co86] (fun k_ => (w.heap.size ≤ k_) ∧ some k_ ≠ (u330000 : Value).ownBlock ∧ k_ ≠ gb320 ∧ k_ ≠ gb321 ∧ k_ ≠ gb329) (fun k_ => ((fun k_ => (w.heap.size ≤ k_) ∧ some k_ ≠ (u330000 : Value).ownBlock ∧ k_ ≠ gb320 ∧ k_ ≠ gb321 ∧ k_ ≠ gb329)) k_ ∧ some k_ ≠ (u330001 : Value).ownBlock) rfl rfl ?aP (fun _ hk => hk) ?aF ?aO ?aB ?aS ?aL ?_; (case aP => exact (Kd.FK_slice_mk (Kd.R_reads' (Kd.R_mono (ok' := (fun k_ => ((fun k_ => (w.heap.size ≤ k_) ∧ some k_ ≠ (u330000 : Value).ownBlock ∧ k_ ≠ gb320 ∧ k_ ≠ gb321 ∧ k_ ≠ gb329)) k_ ∧ some k_ ≠ (u330001 : Value).ownBlock)) (Kd.R_types (Kd.R_types (Kd.R_types (Kd.R_apart' (Kd.R_apart' (HO_7.out) (Kd.N_typed HO_330000.out) (by decide)) (Kd.N_typed HO_330001.out) (by decide)) BK320.out (by decide)) BK321.out (by decide)) BK329.out (by decide)) (fun k_ hk => ⟨⟨hk.1.1.1.1.1, ⟨hk.1.1.1.1.2, ⟨hk.1.1.2, ⟨hk.1.2, hk.2⟩⟩⟩⟩, hk.1.1.1.2⟩))).2.1 (Kd.R_F (Kd.R_mono (ok' := (fun k_ => ((fun k_ => (w.heap.size ≤ k_) ∧ some k_ ≠ (u330000 : Value).ownBlock ∧ k_ ≠ gb320 ∧ k_ ≠ gb321 ∧ k_ ≠ gb329)) k_ ∧ some k_ ≠ (u330001 : Value).ownBlock)) (Kd.R_types (Kd.R_types (Kd.R_types (Kd.R_apart' (Kd.R_apart' (HO_7.out) (Kd.N_typed HO_330000.out) (by decide)) (Kd.N_typed HO_330001.out) (by decide)) BK320.out (by decide)) BK321.out (by decide)) BK329.out (by decide)) (fun k_ hk => ⟨⟨hk.1.1.1.1.1, ⟨hk.1.1.1.1.2, ⟨hk.1.1.2, ⟨hk.1.2, hk.2⟩⟩⟩⟩, hk.1.1.1.2⟩))))); (case aB => exact (by repeat (first | (with_reducible first | exact HB.out | apply jA | apply jN | apply jD | refine jS ?_ GE320.out | refine jS ?_ GE321.out | refine jS ?_ GE329.out) | exact HB.out))); (case aF => exact (fun k_ hk => ⟨(Nat.le_trans (below_size (by repeat (first | (with_reducible first | exact HB.out | apply jA | apply jN | apply jD | refine jS ?_ GE320.out | refine jS ?_ GE321.out | refine jS ?_ GE329.out) | exact HB.out))) hk), Kd.fresh' (Kd.N_lt (tN HO_330000.out)) k_ hk, Kd.freshB (g := gb320) (o := .cells #[.slice A0_0 l0_0.length c0_0, .slice A0_1 l0_1.length c0_1, .slice A0_2 l0_2.length c0_2, .slice A0_3 l0_3.length c0_3, .int .i64 a0_4] 27 (0, 0)) (tK BK320.out) k_ hk, Kd.freshB (g := gb321) (o := .cells #[.slice none 0 0, .slice none 0 0] 55 (0, 0)) (tK BK321.out) k_ hk, Kd.freshB (g := gb329) (o := .cells #[u330000, u330001] 55 (0, 0)) (tK BK329.out) k_ hk⟩)); (case aO => exact (by (with_reducible repeat (first | apply jn | apply jo | apply jp)); exact Kd.N_mono HO_330001.out (fun _ hk => ⟨hk.1, ⟨hk.2.2.1, ⟨hk.2.2.2.1, ⟨hk.2.2.2.2.1, hk.2.2.2.2.2⟩⟩⟩⟩))); (case aS => exact (below_size (by repeat (first | (with_reducible first | exact HB.out | apply jA | apply jN | apply jD | refine jS ?_ GE320.out | refine jS ?_ GE321.out | refine jS ?_ GE329.out) | exact HB.out)))); (case aL => have := LMc78.out; omega); intro v331 w85 ho hb hg hat; rw [← Ny330.out] at ho; have n0_ := jM (Kd.N_afterv (ok := (fun k_ => (w.heap.size ≤ k_) ∧ some k_ ≠ (.slice Ao86 x7_2.length co86 : Value).ownBlock ∧ k_ ≠ gb320 ∧ k_ ≠ gb321 ∧ k_ ≠ gb329)) (by (with_reducible repeat (first | apply jn | apply jo | apply jp)); exact Kd.N_mono HO_330000.out (fun _ hk => ⟨⟨hk.1, ⟨hk.2.1, ⟨hk.2.2.2.1, ⟨hk.2.2.2.2.1, hk.2.2.2.2.2⟩⟩⟩⟩, hk.2.2.1⟩)) hg hat); have n1_ := jM (blk_grown (g := gb320) (o := .cells #[.slice A0_0 l0_0.length c0_0, .slice A0_1 l0_1.length c0_1, .slice A0_2 l0_2.length c0_2, .slice A0_3 l0_3.length c0_3, .int .i64 a0_4] 27 (0, 0)) (tK BK320.out) hg (Kd.N_ne HO_330001.out BK320.out (by decide))); have n2_ := jM (blk_grown (g := gb321) (o := .cells #[.slice none 0 0, .slice none 0 0] 55 (0, 0)) (tK BK321.out) hg (Kd.N_ne HO_330001.out BK321.out (by decide))); have n3_ := jM (blk_grown (g := gb329) (o := .cells #[u330000, u330001] 55 (0, 0)) (tK BK329.out) hg (Kd.N_ne HO_330001.out BK329.out (by decide))); have n4_ := jM (hb); have n5_ := jM (ho); clear HO_330000; clear BK320; clear BK321; clear BK329; clear HB; clear HO_330001; clear HO_7; have HO_330000 := n0_; have BK320 := n1_; have BK321 := n2_; have BK329 := n3_; have HB := n4_; have HO332 := n5_; clear n0_ n1_ n2_ n3_ n4_ n5_; clear ho hb hg hat; obtain ⟨Ao87, co87, eo87⟩ := Kd.N_slice HO332.out; subst eo87; have hcz88_0 : w85.cell? ⟨gb329, 0, none⟩ = some (u330000) := (jC BK329.out 0).trans rfl; have hcz88_1 : w85.cell? ⟨gb329, 1, none⟩ = some (u330001) := (jC BK329.out 1).trans rfl; have hfz88_0 := jF BK329.out 0; have hfz88_1 := jF BK329.out 1; obtain ⟨Ao89, co89, eo89⟩ := Kd.N_slice HO_330000.out; subst eo89; have hcz90_0 : w85.cell? ⟨gb321, 0, none⟩ = some (.slice none 0 0) := (jC BK321.out 0).trans rfl; have hcz90_1 : w85.cell? ⟨gb321, 1, none⟩ = some (.slice none 0 0) := (jC BK321.out 1).trans rfl; have hfz90_0 := jF BK321.out 0; have hfz90_1 := jF BK321.out 1))
          refine bodyPost_ret (results_ct rfl _ _ gb321 55 #[.slice none 0 0, .slice none 0 0] (0, 0) _ rfl (by (with_reducible repeat (first | refine jY ?_ _ | refine jZ ?_ | refine jX ?_ _)); refine blk_put (cs := #[.slice none 0 0, .slice none 0 0]) ?_ 1 _ rfl; (with_reducible repeat (first | refine jY ?_ _ | refine jZ ?_ | refine jX ?_ _)); refine blk_put (cs := #[.slice none 0 0, .slice none 0 0]) ?_ 0 _ rfl; (with_reducible repeat (first | refine jY ?_ _ | refine jZ ?_ | refine jX ?_ _)); refine blk_far ?_ NB321_329.out _; (with_reducible repeat (first | refine jY ?_ _ | refine jZ ?_ | refine jX ?_ _)); exact BK321.out) Tryd.underlying55 rfl (by kernel_rfl)) rfl ?_
          exact ⟨_, _, by first | rfl | (simp [errW_none, errW_some] <;> rfl) | (simp [*, errW_none, errW_some] <;> rfl), by first | exact Kd.S_nil _ _ _ _ _ | exact Kd.N_nil _ _ _ _ _ | exact Kd.V_nil _ _ _ _ _ | exact Kd.Q_nil _ _ _ _ _ | exact Kd.R_nil _ _ _ _ _, by first | exact Kd.S_nil _ _ _ _ _ | exact Kd.N_nil _ _ _ _ _ | exact Kd.V_nil _ _ _ _ _ | exact Kd.Q_nil _ _ _ _ _ | exact Kd.R_nil _ _ _ _ _, by repeat (first | (with_reducible first | exact HB.out | apply jA | apply jN | apply jD | refine jS ?_ GE320.out | refine jS ?_ GE321.out | refine jS ?_ GE329.out) | exact HB.out)⟩
         ·rw [if_neg c79] at H
          have c79b0 : decide (2000 < (x330000_2.length : Int)) = false := decide_eq_false c79
          have c79b1 : decide (2000 < x330000_2.length) = false := decide_eq_false (by omega)
          clear c79
          have H' := jM H
          clear H
          have hnb91 := NB320_321.out
          have hnc91 := NB321_320.out
          have hnb92 := NB320_329.out
          have hnc92 := NB329_320.out
          have hcz93_0 : wr.cell? ⟨gb320, 0, none⟩ = some (.slice A0_0 l0_0.length c0_0) := (jC BK320.out 0).trans rfl
          have hcz93_1 : wr.cell? ⟨gb320, 1, none⟩ = some (.slice A0_1 l0_1.length c0_1) := (jC BK320.out 1).trans rfl
          have hcz93_2 : wr.cell? ⟨gb320, 2, none⟩ = some (.slice A0_2 l0_2.length c0_2) := (jC BK320.out 2).trans rfl
          have hcz93_3 : wr.cell? ⟨gb320, 3, none⟩ = some (.slice A0_3 l0_3.length c0_3) := (jC BK320.out 3).trans rfl
          have hcz93_4 : wr.cell? ⟨gb320, 4, none⟩ = some (.int .i64 a0_4) := (jC BK320.out 4).trans rfl
          have hfz93_0 := jF BK320.out 0
          have hfz93_1 := jF BK320.out 1
          have hfz93_2 := jF BK320.out 2
          have hfz93_3 := jF BK320.out 3
          have hfz93_4 := jF BK320.out 4
          have hnb94 := NB329_321.out
          have hnc94 := NB321_329.out
          have hcz95_0 : wr.cell? ⟨gb329, 0, none⟩ = some (u330000) := (jC BK329.out 0).trans rfl
          have hcz95_1 : wr.cell? ⟨gb329, 1, none⟩ = some (u330001) := (jC BK329.out 1).trans rfl
          have hfz95_0 := jF BK329.out 0
          have hfz95_1 := jF BK329.out 1
          obtain ⟨Ao97, co97, eo97⟩ := Kd.R_slice HO_7.out
          subst eo97
          go_wp2_with (first | ((with_reducible refine gate_builtin (b := .append) (xs := #[.tmp 100, .tmp 102]) rfl ?_); at_builtin; refine Kd.N_append (Kd.slice 3 (Kd.int .i64)) (w0 := w) w.heap.size rfl (.tmp 100) (.tmp 102) 47 58 (.slice none 0 0) 24 rfl Tryd.underlying47 info58 rfl (by decide) (by omega) u330001 x330001_1 x7_2 [.slice Ao97 x7_2.length co97] (fun k_ => (w.heap.size ≤ k_) ∧ some k_ ≠ (u330000 : Value).ownBlock ∧ k_ ≠ gb320 ∧ k_ ≠ gb321 ∧ k_ ≠ gb329) (fun k_ => ((fun k_ => (w.heap.size ≤ k_) ∧ some k_ ≠ (u330000 : Value).ownBlock ∧ k_ ≠ gb320 ∧ k_ ≠ gb321 ∧ k_ ≠ gb329)) k_ ∧ some k_ ≠ (u330001 : Value).ownBlock) rfl rfl ?aP (fun _ hk => hk) ?aF ?aO ?aB ?aS ?aL ?_; (case aP => exact (Kd.FK_slice_mk (Kd.R_reads' (Kd.R_mono (ok' := (fun k_ => ((fun k_ => (w.heap.size ≤ k_) ∧ some k_ ≠ (u330000 : Value).ownBlock ∧ k_ ≠ gb320 ∧ k_ ≠ gb321 ∧ k_ ≠ gb329)) k_ ∧ some k_ ≠ (u330001 : Value).ownBlock)) (Kd.R_types (Kd.R_types (Kd.R_types (Kd.R_apart' (Kd.R_apart' (HO_7.out) (Kd.N_typed HO_330000.out) (by decide)) (Kd.N_typed HO_330001.out) (by decide)) BK320.out (by decide)) BK321.out (by decide)) BK329.out (by decide)) (fun k_ hk => ⟨⟨hk.1.1.1.1.1, ⟨hk.1.1.1.1.2, ⟨hk.1.1.2, ⟨hk.1.2, hk.2⟩⟩⟩⟩, hk.1.1.1.2⟩))).2.1 (Kd.R_F (Kd.R_mono (ok' := (fun k_ => ((fun k_ => (w.heap.size ≤ k_) ∧ some k_ ≠ (u330000 : Value).ownBlock ∧ k_ ≠ gb320 ∧ k_ ≠ gb321 ∧ k_ ≠ gb329)) k_ ∧ some k_ ≠ (u330001 : Value).ownBlock)) (Kd.R_types (Kd.R_types (Kd.R_types (Kd.R_apart' (Kd.R_apart' (HO_7.out) (Kd.N_typed HO_330000.out) (by decide)) (Kd.N_typed HO_330001.out) (by decide)) BK320.out (by decide)) BK321.out (by decide)) BK329.out (by decide)) (fun k_ hk => ⟨⟨hk.1.1.1.1.1, ⟨hk.1.1.1.1.2, ⟨hk.1.1.2, ⟨hk.1.2, hk.2⟩⟩⟩⟩, hk.1.1.1.2⟩))))); (case aB => exact (by repeat (first | (with_reducible first | exact HB.out | apply jA | apply jN | apply jD | refine jS ?_ GE320.out | refine jS ?_ GE321.out | refine jS ?_ GE329.out) | exact HB.out))); (case aF => exact (fun k_ hk => ⟨(Nat.le_trans (below_size (by repeat (first | (with_reducible first | exact HB.out | apply jA | apply jN | apply jD | refine jS ?_ GE320.out | refine jS ?_ GE321.out | refine jS ?_ GE329.out) | exact HB.out))) hk), Kd.fresh' (Kd.N_lt (tN HO_330000.out)) k_ hk, Kd.freshB (g := gb320) (o := .cells #[.slice A0_0 l0_0.length c0_0, .slice A0_1 l0_1.length c0_1, .slice A0_2 l0_2.length c0_2, .slice A0_3 l0_3.length c0_3, .int .i64 a0_4] 27 (0, 0)) (tK BK320.out) k_ hk, Kd.freshB (g := gb321) (o := .cells #[.slice none 0 0, .slice none 0 0] 55 (0, 0)) (tK BK321.out) k_ hk, Kd.freshB (g := gb329) (o := .cells #[u330000, u330001] 55 (0, 0)) (tK BK329.out) k_ hk⟩)); (case aO => exact (by (with_reducible repeat (first | apply jn | apply jo | apply jp)); exact Kd.N_mono HO_330001.out (fun _ hk => ⟨hk.1, ⟨hk.2.2.1, ⟨hk.2.2.2.1, ⟨hk.2.2.2.2.1, hk.2.2.2.2.2⟩⟩⟩⟩))); (case aS => exact (below_size (by repeat (first | (with_reducible first | exact HB.out | apply jA | apply jN | apply jD | refine jS ?_ GE320.out | refine jS ?_ GE321.out | refine jS ?_ GE329.out) | exact HB.out)))); (case aL => have := LMc78.out; omega); intro v331 w96 ho hb hg hat; rw [← Ny330.out] at ho; have n0_ := jM (Kd.N_afterv (ok := (fun k_ => (w.heap.size ≤ k_) ∧ some k_ ≠ (.slice Ao97 x7_2.length co97 : Value).ownBlock ∧ k_ ≠ gb320 ∧ k_ ≠ gb321 ∧ k_ ≠ gb329)) (by (with_reducible repeat (first | apply jn | apply jo | apply jp)); exact Kd.N_mono HO_330000.out (fun _ hk => ⟨⟨hk.1, ⟨hk.2.1, ⟨hk.2.2.2.1, ⟨hk.2.2.2.2.1, hk.2.2.2.2.2⟩⟩⟩⟩, hk.2.2.1⟩)) hg hat); have n1_ := jM (blk_grown (g := gb320) (o := .cells #[.slice A0_0 l0_0.length c0_0, .slice A0_1 l0_1.length c0_1, .slice A0_2 l0_2.length c0_2, .slice A0_3 l0_3.length c0_3, .int .i64 a0_4] 27 (0, 0)) (tK BK320.out) hg (Kd.N_ne HO_330001.out BK320.out (by decide))); have n2_ := jM (blk_grown (g := gb321) (o := .cells #[.slice none 0 0, .slice none 0 0] 55 (0, 0)) (tK BK321.out) hg (Kd.N_ne HO_330001.out BK321.out (by decide))); have n3_ := jM (blk_grown (g := gb329) (o := .cells #[u330000, u330001] 55 (0, 0)) (tK BK329.out) hg (Kd.N_ne HO_330001.out BK329.out (by decide))); have n4_ := jM (hb); have n5_ := jM (ho); clear HO_330000; clear BK320; clear BK321; clear BK329; clear HB; clear HO_330001; clear HO_7; have HO_330000 := n0_; have BK320 := n1_; have BK321 := n2_; have BK329 := n3_; have HB := n4_; have HO332 := n5_; clear n0_ n1_ n2_ n3_ n4_ n5_; clear ho hb hg hat; obtain ⟨Ao98, co98, eo98⟩ := Kd.N_slice HO332.out; subst eo98; have hcz99_0 : w96.cell? ⟨gb329, 0, none⟩ = some (u330000) := (jC BK329.out 0).trans rfl; have hcz99_1 : w96.cell? ⟨gb329, 1, none⟩ = some (u330001) := (jC BK329.out 1).trans rfl; have hfz99_0 := jF BK329.out 0; have hfz99_1 := jF BK329.out 1; obtain ⟨Ao100, co100, eo100⟩ := Kd.N_slice HO_330000.out; subst eo100))
          go_roundg k2
          case measure => have := HK1.out; have := HK2.out; omega
          case rel => exact ⟨(wrap64 (x6_1 + 1)), (x330000_2), (y330), (.slice Ao100 x330000_2.length co100), (.slice Ao98 y330.length co98), tZ, H', ⟨by have := HK1.out; have := HK2.out; omega⟩, ⟨by (with_reducible repeat (first | apply jn | apply jo | apply jp)); exact Kd.N_mono (Kd.N_far (p := ⟨gb329, 1, none⟩) (Kd.N_mono HO_330000.out (fun k_ hk => (⟨hk, hk.1.2.2.2.2⟩ : _ ∧ k_ ≠ gb329))) (fun _ hk => hk.2) (.slice Ao98 y330.length co98)) (fun _ hk => ⟨hk.1.1.1, ⟨hk.1.2, ⟨hk.1.1.2.2.1, ⟨hk.1.1.2.2.2.1, hk.1.1.2.2.2.2⟩⟩⟩⟩)⟩, ⟨by (with_reducible repeat (first | apply jn | apply jo | apply jp)); exact Kd.N_mono (Kd.N_far (p := ⟨gb329, 1, none⟩) (Kd.N_mono HO332.out (fun k_ hk => (⟨hk, hk.2.2.2.2⟩ : _ ∧ k_ ≠ gb329))) (fun _ hk => hk.2) (.slice Ao98 y330.length co98)) (fun _ hk => ⟨hk.1.1, ⟨hk.1.2.1, ⟨hk.1.2.2.1, ⟨hk.1.2.2.2.1, hk.1.2.2.2.2⟩⟩⟩⟩)⟩, ⟨by (with_reducible repeat (first | refine jY ?_ _ | refine jZ ?_ | refine jX ?_ _)); refine blk_far ?_ NB320_329.out _; (with_reducible repeat (first | refine jY ?_ _ | refine jZ ?_ | refine jX ?_ _)); exact BK320.out⟩, ⟨by (with_reducible repeat (first | refine jY ?_ _ | refine jZ ?_ | refine jX ?_ _)); refine blk_far ?_ NB321_329.out _; (with_reducible repeat (first | refine jY ?_ _ | refine jZ ?_ | refine jX ?_ _)); exact BK321.out⟩, ⟨by (with_reducible repeat (first | refine jY ?_ _ | refine jZ ?_ | refine jX ?_ _)); refine blk_put (cs := #[.slice Ao100 x330000_2.length co100, u330001]) ?_ 1 _ rfl; (with_reducible repeat (first | refine jY ?_ _ | refine jZ ?_ | refine jX ?_ _)); exact BK329.out⟩, ⟨by repeat (first | (with_reducible first | exact HB.out | apply jA | apply jN | apply jD | refine jS ?_ GE320.out | refine jS ?_ GE321.out | refine jS ?_ GE329.out) | exact HB.out)⟩⟩
        ·rw [if_neg c78] at H
         exact absurd H (by simp)
    ·rw [if_neg c19] at H
     have c19b0 : decide (x6_1 < (x330000_1.length : Int)) = false := decide_eq_false c19
     clear c19
     simp only [Option.some.injEq, Prod.mk.injEq] at H
     obtain ⟨rfl, rfl, rfl⟩ := H
     have hnb101 := NB329_320.out
     have hnc101 := NB320_329.out
     have hnb102 := NB329_321.out
     have hnc102 := NB321_329.out
     have hcz103_0 : wr.cell? ⟨gb329, 0, none⟩ = some (u330000) := (jC BK329.out 0).trans rfl
     have hcz103_1 : wr.cell? ⟨gb329, 1, none⟩ = some (u330001) := (jC BK329.out 1).trans rfl
     have hfz103_0 := jF BK329.out 0
     have hfz103_1 := jF BK329.out 1
     obtain ⟨Ao104, co104, eo104⟩ := Kd.N_slice HO_330000.out
     subst eo104
     have hnb105 := NB321_320.out
     have hnc105 := NB320_321.out
     have hcz106_0 : wr.cell? ⟨gb321, 0, none⟩ = some (.slice none 0 0) := (jC BK321.out 0).trans rfl
     have hcz106_1 : wr.cell? ⟨gb321, 1, none⟩ = some (.slice none 0 0) := (jC BK321.out 1).trans rfl
     have hfz106_0 := jF BK321.out 0
     have hfz106_1 := jF BK321.out 1
     obtain ⟨Ao107, co107, eo107⟩ := Kd.N_slice HO_330001.out
     subst eo107
     go_wp2
     refine bodyPost_ret (results_ct rfl _ _ gb321 55 #[.slice Ao104 x330000_1.length co104, .slice Ao107 x330001_1.length co107] (0, 0) _ rfl (by (with_reducible repeat (first | refine jY ?_ _ | refine jZ ?_ | refine jX ?_ _)); refine blk_put (cs := #[.slice Ao104 x330000_1.length co104, .slice none 0 0]) ?_ 1 _ rfl; (with_reducible repeat (first | refine jY ?_ _ | refine jZ ?_ | refine jX ?_ _)); refine blk_put (cs := #[.slice none 0 0, .slice none 0 0]) ?_ 0 _ rfl; (with_reducible repeat (first | refine jY ?_ _ | refine jZ ?_ | refine jX ?_ _)); exact BK321.out) Tryd.underlying55 rfl (by kernel_rfl)) rfl ?_
     exact ⟨_, _, by first | rfl | (simp [errW_none, errW_some] <;> rfl) | (simp [*, errW_none, errW_some] <;> rfl), by (with_reducible repeat (first | apply jn | apply jo | apply jp)); exact Kd.N_mono (Kd.N_far (p := ⟨gb321, 1, none⟩) (Kd.N_far (p := ⟨gb321, 0, none⟩) (Kd.N_mono HO_330000.out (fun k_ hk => (⟨hk, hk.2.2.2.1⟩ : _ ∧ k_ ≠ gb321))) (fun _ hk => hk.2) (.slice Ao104 x330000_1.length co104)) (fun _ hk => hk.2) (.slice Ao107 x330001_1.length co107)) (fun _ hk => ⟨hk.1.1, hk.1.2.1⟩), by (with_reducible repeat (first | apply jn | apply jo | apply jp)); exact Kd.N_mono (Kd.N_far (p := ⟨gb321, 1, none⟩) (Kd.N_far (p := ⟨gb321, 0, none⟩) (Kd.N_mono HO_330001.out (fun k_ hk => (⟨hk, hk.2.2.2.1⟩ : _ ∧ k_ ≠ gb321))) (fun _ hk => hk.2) (.slice Ao104 x330000_1.length co104)) (fun _ hk => hk.2) (.slice Ao107 x330001_1.length co107)) (fun _ hk => ⟨hk.1.1, hk.1.2.1⟩), by repeat (first | (with_reducible first | exact HB.out | apply jA | apply jN | apply jD | refine jS ?_ GE320.out | refine jS ?_ GE321.out | refine jS ?_ GE329.out) | exact HB.out)⟩
 ·replace c3 := Bool.eq_false_iff.mpr c3
  subst c3
  have H1 : (some (([] : List (List (S39))), ([] : List (List Int)), 1)) = some (r1, r2, r3) := by rw [if_neg (show ¬ (false = true) by decide)] at H; exact H
  clear H
  have H := H1
  clear H1
  simp only [Option.some.injEq, Prod.mk.injEq] at H
  obtain ⟨rfl, rfl, rfl⟩ := H
  go_enter Tryd.func24, Tryd.ntmps24
  go_wp2_with (first | ((with_reducible refine gate_dst (N := 1) rfl ?_); refine box_event ?hg (N := 1) ?hd (cs := #[.slice A0_0 l0_0.length c0_0, .slice A0_1 l0_1.length c0_1, .slice A0_2 l0_2.length c0_2, .slice A0_3 l0_3.length c0_3, .int .i64 a0_4]) (t := 27) ?hr ?_; (case hd => rfl); (case hg => rfl); (case hr => first | (go_simp; done) | (go_simp; rfl)); intro gb320 hg w108 hbox hb; have n0_ := jM (jT (tB HB.out) hb); have n1_ := jM (hbox); have n2_ := jM ((by rw [hg]; exact (below_size (tB HB.out)) : w.heap.size ≤ gb320)); have n3_ := jM ((by rw [hg]; exact (below_size (tB HB.out)) : w.heap.size ≤ gb320)); clear HB; have HB := n0_; have BK320 := n1_; have GW320 := n2_; have GE320 := n3_; clear n0_ n1_ n2_ n3_; clear hb hbox hg) | ((with_reducible refine gate_dst (N := 2) rfl ?_); refine box_event ?hg (N := 2) ?hd (cs := #[.slice none 0 0, .slice none 0 0]) (t := 55) ?hr ?_; (case hd => rfl); (case hg => rfl); (case hr => first | (go_simp; done) | (go_simp; rfl)); intro gb321 hg w109 hbox hb; have n0_ := jM (jW (g := gb320) (o := .cells #[.slice A0_0 l0_0.length c0_0, .slice A0_1 l0_1.length c0_1, .slice A0_2 l0_2.length c0_2, .slice A0_3 l0_3.length c0_3, .int .i64 a0_4] 27 (0, 0)) (tK BK320.out) hb); have n1_ := jM (jT (by repeat (first | (with_reducible first | exact HB.out | apply jA | apply jN | apply jD | refine jS ?_ GE320.out) | exact HB.out)) hb); have n2_ := jM (hbox); have n3_ := jM ((by rw [hg]; exact (below_size (by repeat (first | (with_reducible first | exact HB.out | apply jA | apply jN | apply jD | refine jS ?_ GE320.out) | exact HB.out))) : w.heap.size ≤ gb321)); have n4_ := jM ((by rw [hg]; exact (below_size (by repeat (first | (with_reducible first | exact HB.out | apply jA | apply jN | apply jD | refine jS ?_ GE320.out) | exact HB.out))) : w.heap.size ≤ gb321)); have n5_ := jM ((by rw [hg]; exact Nat.ne_of_lt (blk_lt (g := gb320) (o := .cells #[.slice A0_0 l0_0.length c0_0, .slice A0_1 l0_1.length c0_1, .slice A0_2 l0_2.length c0_2, .slice A0_3 l0_3.length c0_3, .int .i64 a0_4] 27 (0, 0)) (tK BK320.out)) : gb320 ≠ gb321)); have n6_ := jM ((by rw [hg]; exact Nat.ne_of_gt (blk_lt (g := gb320) (o := .cells #[.slice A0_0 l0_0.length c0_0, .slice A0_1 l0_1.length c0_1, .slice A0_2 l0_2.length c0_2, .slice A0_3 l0_3.length c0_3, .int .i64 a0_4] 27 (0, 0)) (tK BK320.out)) : gb321 ≠ gb320)); clear BK320; clear HB; have BK320 := n0_; have HB := n1_; have BK321 := n2_; have GW321 := n3_; have GE321 := n4_; have NB320_321 := n5_; have NB321_320 := n6_; clear n0_ n1_ n2_ n3_ n4_ n5_ n6_; clear hb hbox hg; have hnb110 := NB320_321.out; have hnc110 := NB321_320.out; have hcz111_0 : w109.cell? ⟨gb320, 0, none⟩ = some (.slice A0_0 l0_0.length c0_0) := (jC BK320.out 0).trans rfl; have hcz111_1 : w109.cell? ⟨gb320, 1, none⟩ = some (.slice A0_1 l0_1.length c0_1) := (jC BK320.out 1).trans rfl; have hcz111_2 : w109.cell? ⟨gb320, 2, none⟩ = some (.slice A0_2 l0_2.length c0_2) := (jC BK320.out 2).trans rfl; have hcz111_3 : w109.cell? ⟨gb320, 3, none⟩ = some (.slice A0_3 l0_3.length c0_3) := (jC BK320.out 3).trans rfl; have hcz111_4 : w109.cell? ⟨gb320, 4, none⟩ = some (.int .i64 a0_4) := (jC BK320.out 4).trans rfl; have hfz111_0 := jF BK320.out 0; have hfz111_1 := jF BK320.out 1; have hfz111_2 := jF BK320.out 2; have hfz111_3 := jF BK320.out 3; have hfz111_4 := jF BK320.out 4) | ((with_reducible refine gate_callee (f := 45) rfl ?_); refine goesL_ (some 14) rfl rfl Tryd.func45 (by kernel_rfl) rfl #[.agg #[.slice A0_0 l0_0.length c0_0, .slice A0_1 l0_1.length c0_1, .slice A0_2 l0_2.length c0_2, .slice A0_3 l0_3.length c0_3, .int .i64 a0_4]] rfl tM ?_; (with_reducible refine (sr12_Valid.calls _ _ l0_0 _ _ l0_1 _ _ l0_2 _ _ l0_3 a0_4 false _ ?side1 ?side2 ?side3 ?side4 ?side5 ?side6 ?side7 ?side8 A2.out).mono ?_); (case side1 => exact tC (jB HR0_0.out HB.out)); (case side2 => exact HC0_0.out); (case side3 => exact tC (jB HR0_1.out HB.out)); (case side4 => exact HC0_1.out); (case side5 => exact tC (jB HR0_2.out HB.out)); (case side6 => exact HC0_2.out); (case side7 => exact tC (jB HR0_3.out HB.out)); (case side8 => exact HC0_3.out); rintro e w112 ⟨rfl, hb⟩; refine ⟨_, rfl, ?_⟩; have n0_ := jM (jW (g := gb320) (o := .cells #[.slice A0_0 l0_0.length c0_0, .slice A0_1 l0_1.length c0_1, .slice A0_2 l0_2.length c0_2, .slice A0_3 l0_3.length c0_3, .int .i64 a0_4] 27 (0, 0)) (tK BK320.out) hb); have n1_ := jM (jW (g := gb321) (o := .cells #[.slice none 0 0, .slice none 0 0] 55 (0, 0)) (tK BK321.out) hb); have n2_ := jM (jT (by repeat (first | (with_reducible first | exact HB.out | apply jA | apply jN | apply jD | refine jS ?_ GE320.out | refine jS ?_ GE321.out) | exact HB.out)) hb); clear BK320; clear BK321; clear HB; have BK320 := n0_; have BK321 := n1_; have HB := n2_; clear n0_ n1_ n2_; (try clear hb); (try clear hb2); (try clear hk); (try clear hi); have hcz113_0 : w112.cell? ⟨gb321, 0, none⟩ = some (.slice none 0 0) := (jC BK321.out 0).trans rfl; have hcz113_1 : w112.cell? ⟨gb321, 1, none⟩ = some (.slice none 0 0) := (jC BK321.out 1).trans rfl; have hfz113_0 := jF BK321.out 0; have hfz113_1 := jF BK321.out 1))
  refine bodyPost_ret (results_ct rfl _ _ gb321 55 #[.slice none 0 0, .slice none 0 0] (0, 0) _ rfl (by (with_reducible repeat (first | refine jY ?_ _ | refine jZ ?_ | refine jX ?_ _)); refine blk_put (cs := #[.slice none 0 0, .slice none 0 0]) ?_ 1 _ rfl; (with_reducible repeat (first | refine jY ?_ _ | refine jZ ?_ | refine jX ?_ _)); refine blk_put (cs := #[.slice none 0 0, .slice none 0 0]) ?_ 0 _ rfl; (with_reducible repeat (first | refine jY ?_ _ | refine jZ ?_ | refine jX ?_ _)); exact BK321.out) Tryd.underlying55 rfl (by kernel_rfl)) rfl ?_
  exact ⟨_, _, by first | rfl | (simp [errW_none, errW_some] <;> rfl) | (simp [*, errW_none, errW_some] <;> rfl), by first | exact Kd.S_nil _ _ _ _ _ | exact Kd.N_nil _ _ _ _ _ | exact Kd.V_nil _ _ _ _ _ | exact Kd.Q_nil _ _ _ _ _ | exact Kd.R_nil _ _ _ _ _, by first | exact Kd.S_nil _ _ _ _ _ | exact Kd.N_nil _ _ _ _ _ | exact Kd.V_nil _ _ _ _ _ | exact Kd.Q_nil _ _ _ _ _ | exact Kd.R_nil _ _ _ _ _, by repeat (first | (with_reducible first | exact HB.out | apply jA | apply jN | apply jD | refine jS ?_ GE320.out | refine jS ?_ GE321.out) | exact HB.out)⟩

end Go.Proofs.YtclollnicbcooaaDoor.P
end

section
namespace Go.Proofs.YtclollnicbcooaaDoor.P
open Go.RowKit Go.Proofs.YtclollnicbcooaaDoorW.PrintWords Go.Proofs.YtclollnicbcooaaDoorW.PrintLast Go.Proofs.YtclollnicbcooaaDoorW.PrintMore
attribute [local go_sem] max2_int min2_int max_two min_two max_three min_three max_four min_four

/-! ### sr14_Go: function 26 -/
def sr14_Go.f (l0_0 : List (S82)) (l0_1 : List (S101)) (l0_2 : List ByteArray) (l0_3 : List (S64)) (a0_4 : Int) (l1_0 : List (List (S39))) (l1_1 : List (List Int)) (a2 : Int) (a3 : Int) : Option (Int) := if a3 < 0 then (if a2 < 0 then (some (-1)) else (if a2 ≥ (l1_1.length : Int) then (some (-1)) else (if (wrap64 ((l0_0.length : Int) + (wrap64 ((-1) - a3)))) < 0 then (some (-1)) else (if 0 ≤ a2 then (if a2 < (l1_1.length : Int) then (if (wrap64 ((l0_0.length : Int) + (wrap64 ((-1) - a3)))) ≥ ((rd_L17 l1_1 a2).length : Int) then (some (-1)) else (if a3 ≥ (l0_0.length : Int) then (some (-1)) else (if 0 ≤ (wrap64 ((l0_0.length : Int) + (wrap64 ((-1) - a3)))) then (if (wrap64 ((l0_0.length : Int) + (wrap64 ((-1) - a3)))) < ((rd_L17 l1_1 a2).length : Int) then (some (rd (rd_L17 l1_1 a2) (wrap64 ((l0_0.length : Int) + (wrap64 ((-1) - a3)))))) else (none)) else (none)))) else (none)) else (none))))) else (if a2 < 0 then (some (-1)) else (if a2 ≥ (l1_1.length : Int) then (some (-1)) else (if 0 ≤ a2 then (if a2 < (l1_1.length : Int) then (if a3 ≥ ((rd_L17 l1_1 a2).length : Int) then (some (-1)) else (if a3 ≥ (l0_0.length : Int) then (some (-1)) else (if 0 ≤ a3 then (if a3 < ((rd_L17 l1_1 a2).length : Int) then (some (rd (rd_L17 l1_1 a2) a3)) else (none)) else (none)))) else (none)) else (none))))
def goR (T : Nat) (N : List (List Int)) (a q s : Int) : Option Int := if a < 0 then some (-1) else if a ≥ (N.length : Int) then some (-1) else if q < 0 then some (-1) else if q ≥ ((rd_L17 N a).length : Int) then some (-1) else if s ≥ (T : Int) then some (-1) else some (Go.Proofs.YtclollnicbcooaaDoorW.PrintWords.rd (rd_L17 N a) q)
theorem goR_f (l0 : List S82) (l1 : List S101) (l2 : List ByteArray) (l3 : List S64) (st : Int) (Ka : List (List S39)) (N : List (List Int)) (a s : Int) : sr14_Go.f l0 l1 l2 l3 st Ka N a s = if s < 0 then goR l0.length N a (wrap64 ((l0.length : Int) + (wrap64 ((-1) - s)))) s else goR l0.length N a s s := by
 unfold sr14_Go.f goR
 generalize wrap64 ((l0.length : Int) + (wrap64 ((-1) - s))) = w
 by_cases h1 : a < 0
 ·simp only [if_pos h1]
 ·by_cases h2 : a ≥ (N.length : Int)
  ·simp only [if_neg h1, if_pos h2]
  ·simp only [if_neg h1, if_neg h2, if_pos (show 0 ≤ a by omega), if_pos (show a < (N.length : Int) by omega)]
   by_cases hs : s < 0
   ·simp only [if_pos hs, if_neg (show ¬ s ≥ (l0.length : Int) by omega)]
    by_cases h3 : w < 0
    ·simp only [if_pos h3]
    ·by_cases h4 : w ≥ ((rd_L17 N a).length : Int)
     ·simp only [if_neg h3, if_pos h4]
     ·simp only [if_neg h3, if_neg h4, if_pos (show 0 ≤ w by omega), if_pos (show w < ((rd_L17 N a).length : Int) by omega)]
   ·simp only [if_neg hs]
    by_cases h4 : s ≥ ((rd_L17 N a).length : Int)
    ·simp only [if_pos h4]
    ·simp only [if_neg h4, if_pos (show 0 ≤ s by omega), if_pos (show s < ((rd_L17 N a).length : Int) by omega)]

set_option maxHeartbeats 8000000 in
set_option maxRecDepth 100000 in
theorem rgo_walk (A0 : Option Addr) (c0 : Nat) (l0 : List S82) (A1 : Option Addr) (c1 : Nat) (l1 : List S101) (A2 : Option Addr) (c2 : Nat) (l2 : List ByteArray) (A3 : Option Addr) (c3 : Nat) (l3 : List S64) (st : Int) (AK : Option Addr) (cK : Nat) (K : List (List S39)) (AN : Option Addr) (cN : Nat) (N : List (List Int)) (a s : Int) (r : Int) (w : World)
  (hn : Kd.C (Kd.slice 3 (Kd.int .i64)) w AN N.length N) (h : sr14_Go.f l0 l1 l2 l3 st K N a s = some r) :
  Calls Tryd.prog 26 #[.agg #[.slice A0 l0.length c0, .slice A1 l1.length c1, .slice A2 l2.length c2, .slice A3 l3.length c3, .int .i64 st], .agg #[.slice AK K.length cK, .slice AN N.length cN], .int .i64 a, .int .i64 s] w fun e w' => e = .returned (.int .i64 r) ∧ Below w.heap.size w w' := by
 have hu27 := Tryd.underlying27
 have hu55 := Tryd.underlying55
 rw [goR_f] at h
 have HN := jM hn
 have HH := jM h
 clear hn h
 go_enter Tryd.func26, Tryd.ntmps26
 go_upto_region 1 with fail
 have B0 := jM (jX (blk_new w (Obj.cells #[.slice A0 l0.length c0, .slice A1 l1.length c1, .slice A2 l2.length c2, .slice A3 l3.length c3, .int .i64 st] 27)) (Obj.cells #[.slice AK K.length cK, .slice AN N.length cN] 55))
 have B1 := jM (blk_new (w.alloc (Obj.cells #[.slice A0 l0.length c0, .slice A1 l1.length c1, .slice A2 l2.length c2, .slice A3 l3.length c3, .int .i64 st] 27)) (Obj.cells #[.slice AK K.length cK, .slice AN N.length cN] 55))
 rw [World.size_alloc] at B1
 have HB := jM (jA (jA (Below.refl w.heap.size w) (Obj.cells #[.slice A0 l0.length c0, .slice A1 l1.length c1, .slice A2 l2.length c2, .slice A3 l3.length c3, .int .i64 st] 27)) (Obj.cells #[.slice AK K.length cK, .slice AN N.length cN] 55))
 generalize (w.alloc (Obj.cells #[.slice A0 l0.length c0, .slice A1 l1.length c1, .slice A2 l2.length c2, .slice A3 l3.length c3, .int .i64 st] 27)).alloc (Obj.cells #[.slice AK K.length cK, .slice AN N.length cN] 55) = w1 at *
 obtain ⟨y0, y1, y2, y3, y4⟩ := five5 B0.out
 have z0 : w1.cell? ⟨w.heap.size + 1, 0, none⟩ = some (.slice AK K.length cK) := jC B1.out 0
 have z1 : w1.cell? ⟨w.heap.size + 1, 1, none⟩ = some (.slice AN N.length cN) := jC B1.out 1
 have h := HH.out
 clear HH
 -- by the symbol: the place q, or none
 by_cases hs : s < 0
 rotate_left
 rw [if_neg hs] at h
 have e1 : decide (s < 0) = false := decide_eq_false hs
 go_upto_region 4 with fail
 clear e1 hs
 obtain ⟨q, hq⟩ : ∃ q, q = s := ⟨_, rfl⟩
 simp only [← hq] at h ⊢
 have hq2 := hq
 subst hq2
 rotate_left
 rw [if_pos hs] at h
 have e1 : decide (s < 0) = true := decide_eq_true hs
 have ew := i64_w (-1 - s)
 have ew2 := i64_w ((l0.length : Int) + wrap64 ((-1) - s))
 go_upto_region 4 with fail
 clear ew ew2 e1
 generalize wrap64 ((l0.length : Int) + (wrap64 ((-1) - s))) = q at *
 all_goals
  unfold goR at h
  by_cases k1 : a < 0
  ·rw [if_pos k1] at h
   obtain rfl := Option.some.inj h
   have f1 : decide (a < 0) = true := decide_eq_true k1
   clear k1
   go_wp2_with fail
   go_ret
   exact ⟨rfl, HB.out⟩
  ·rw [if_neg k1] at h
   have f1 : decide (a < 0) = false := decide_eq_false k1
   by_cases k2 : a ≥ (N.length : Int)
   ·rw [if_pos k2] at h
    obtain rfl := Option.some.inj h
    have f2 : decide ((N.length : Int) ≤ a) = true := decide_eq_true k2
    clear k1 k2
    go_wp2_with fail
    go_ret
    exact ⟨rfl, HB.out⟩
   ·rw [if_neg k2] at h
    have f2 : decide ((N.length : Int) ≤ a) = false := decide_eq_false k2
    by_cases k3 : q < 0
    ·rw [if_pos k3] at h
     obtain rfl := Option.some.inj h
     have f3 : decide (q < 0) = true := decide_eq_true k3
     clear k1 k2 k3
     go_wp2_with fail
     go_ret
     exact ⟨rfl, HB.out⟩
    ·rw [if_neg k3] at h
     have f3 : decide (q < 0) = false := decide_eq_false k3
     have p0 : 0 ≤ a := by omega
     have p1 : a < (N.length : Int) := by omega
     obtain ⟨ad, Ar, cr, rfl, hx, hl, hi⟩ := at_L17 (jB HN.out HB.out) a p0 p1
     generalize rd_L17 N a = row at *
     by_cases k4 : q ≥ (row.length : Int)
     ·rw [if_pos k4] at h
      obtain rfl := Option.some.inj h
      have f4 : decide ((row.length : Int) ≤ q) = true := decide_eq_true k4
      clear k1 k2 k3 k4
      go_wp2_with fail
      go_ret
      exact ⟨rfl, HB.out⟩
     ·rw [if_neg k4] at h
      have f4 : decide ((row.length : Int) ≤ q) = false := decide_eq_false k4
      have q0 : 0 ≤ q := by omega
      have q1 : q < (row.length : Int) := by omega
      split at h <;> rename_i k5
      ·obtain rfl := Option.some.inj h
       have f5 : decide ((l0.length : Int) ≤ _) = true := decide_eq_true k5
       clear k1 k2 k3 k4 k5
       go_wp2_with fail
       go_ret
       exact ⟨rfl, HB.out⟩
      ·obtain rfl := Option.some.inj h
       have f5 : decide ((l0.length : Int) ≤ _) = false := decide_eq_false k5
       obtain ⟨ad2, rfl, hx2⟩ := Kd.at_int hi q q0 q1
       clear k1 k2 k3 k4 k5 hi hl
       go_wp2_with fail
       go_ret
       exact ⟨rfl, HB.out⟩
theorem sr14_Go.calls (A0_0 : Option Addr) (c0_0 : Nat) (l0_0 : List (S82)) (A0_1 : Option Addr) (c0_1 : Nat) (l0_1 : List (S101)) (A0_2 : Option Addr) (c0_2 : Nat) (l0_2 : List ByteArray) (A0_3 : Option Addr) (c0_3 : Nat) (l0_3 : List (S64)) (a0_4 : Int) (A1_0 : Option Addr) (c1_0 : Nat) (l1_0 : List (List (S39))) (A1_1 : Option Addr) (c1_1 : Nat) (l1_1 : List (List Int)) (a2 : Int) (a3 : Int) (r : Int) (w : World) (hr0_0 : Kd.C k82 w A0_0 l0_0.length l0_0) (hc0_0 : l0_0.length ≤ c0_0) (hr0_1 : Kd.C k101 w A0_1 l0_1.length l0_1) (hc0_1 : l0_1.length ≤ c0_1) (hr0_2 : Kd.C Kd.string w A0_2 l0_2.length l0_2) (hc0_2 : l0_2.length ≤ c0_2) (hr0_3 : Kd.C k64 w A0_3 l0_3.length l0_3) (hc0_3 : l0_3.length ≤ c0_3) (hr1_0 : Kd.C (Kd.slice 39 k39) w A1_0 l1_0.length l1_0) (hc1_0 : l1_0.length ≤ c1_0) (hr1_1 : Kd.C (Kd.slice 3 (Kd.int .i64)) w A1_1 l1_1.length l1_1) (hc1_1 : l1_1.length ≤ c1_1) (h : sr14_Go.f l0_0 l0_1 l0_2 l0_3 a0_4 l1_0 l1_1 a2 a3 = some r) :
  Calls Tryd.prog 26 #[.agg #[.slice A0_0 l0_0.length c0_0, .slice A0_1 l0_1.length c0_1, .slice A0_2 l0_2.length c0_2, .slice A0_3 l0_3.length c0_3, .int .i64 a0_4], .agg #[.slice A1_0 l1_0.length c1_0, .slice A1_1 l1_1.length c1_1], .int .i64 a2, .int .i64 a3] w fun e w' => e = .returned (.int .i64 r) ∧ Below w.heap.size w w' :=
 rgo_walk A0_0 c0_0 l0_0 A0_1 c0_1 l0_1 A0_2 c0_2 l0_2 A0_3 c0_3 l0_3 a0_4 A1_0 c1_0 l1_0 A1_1 c1_1 l1_1 a2 a3 r w hr1_1 h
end Go.Proofs.YtclollnicbcooaaDoor.P
end

section
namespace Go.Proofs.YtclollnicbcooaaDoor.P
open Go.RowKit Go.Proofs.YtclollnicbcooaaDoorW.PrintWords Go.Proofs.YtclollnicbcooaaDoorW.PrintLast Go.Proofs.YtclollnicbcooaaDoorW.PrintMore
attribute [local go_sem] max2_int min2_int max_two min_two max_three min_three max_four min_four

/-! ### sl14_StatesBuild: function 4 -/
mutual
def sl14_StatesBuild.j0 : Nat → Int → Int → Bool → Bool → List (S82) → List (S101) → List ByteArray → List (S64) → Int → List (List (S37)) → List (List Int) → List (List (S39)) → List (List Int) → Option (Bool)
 | 0, _, _, _, _, _, _, _, _, _, _, _, _, _ => none
 | k + 1, x1, x2, x7, x53, xA, xB, xC, xD, xE, xF, xG, xH, xI => if x53 = true then (some false) else (sl14_StatesBuild.l0 k x1 x2 x7 0 xA xB xC xD xE xF xG xH xI)
def sl14_StatesBuild.l0 : Nat → Int → Int → Bool → Int → List (S82) → List (S101) → List ByteArray → List (S64) → Int → List (List (S37)) → List (List Int) → List (List (S39)) → List (List Int) → Option (Bool)
 | 0, _, _, _, _, _, _, _, _, _, _, _, _, _ => none
 | k + 1, x1, x2, x7, x13, xA, xB, xC, xD, xE, xF, xG, xH, xI => if x13 < (xF.length : Int) then (if 0 ≤ x13 then ((sl14_Row.f k (rd_L15 xF x13)).bind fun t381 => (if x13 < (xH.length : Int) then ((sr14_Row.f k t381 (rd_L21 xH x13)).bind fun t385 => (if t385 = true then (if x13 < (xG.length : Int) then (if x13 < (xI.length : Int) then (sl14_StatesBuild.j2 k x1 x2 x7 x13 (((rd_L17 xG x13).length : Int) != ((rd_L17 xI x13).length : Int)) xA xB xC xD xE xF xG xH xI) else (none)) else (none)) else (sl14_StatesBuild.j2 k x1 x2 x7 x13 true xA xB xC xD xE xF xG xH xI))) else (none))) else (none)) else (if x7 = true then ((states_Go.f xA xB xC xD xE xF xG x1 x2).bind fun t378 => ((sr14_Go.f xA xB xC xD xE xH xI x1 x2).bind fun t379 => (some (t378 == t379)))) else (some false))
def sl14_StatesBuild.j2 : Nat → Int → Int → Bool → Int → Bool → List (S82) → List (S101) → List ByteArray → List (S64) → Int → List (List (S37)) → List (List Int) → List (List (S39)) → List (List Int) → Option (Bool)
 | 0, _, _, _, _, _, _, _, _, _, _, _, _, _, _ => none
 | k + 1, x1, x2, x7, x13, x88, xA, xB, xC, xD, xE, xF, xG, xH, xI => if x88 = true then (some false) else (sl14_StatesBuild.l1 k x1 x2 x7 x13 0 xA xB xC xD xE xF xG xH xI)
def sl14_StatesBuild.l1 : Nat → Int → Int → Bool → Int → Int → List (S82) → List (S101) → List ByteArray → List (S64) → Int → List (List (S37)) → List (List Int) → List (List (S39)) → List (List Int) → Option (Bool)
 | 0, _, _, _, _, _, _, _, _, _, _, _, _, _, _ => none
 | k + 1, x1, x2, x7, x13, x14, xA, xB, xC, xD, xE, xF, xG, xH, xI => if 0 ≤ x13 then (if x13 < (xG.length : Int) then (if x14 < ((rd_L17 xG x13).length : Int) then (if 0 ≤ x14 then (if x13 < (xI.length : Int) then (if x14 < ((rd_L17 xI x13).length : Int) then (if (rd (rd_L17 xG x13) x14) = (rd (rd_L17 xI x13) x14) then (sl14_StatesBuild.l1 k x1 x2 x7 x13 (wrap64 (x14 + 1)) xA xB xC xD xE xF xG xH xI) else (some false)) else (none)) else (none)) else (none)) else (sl14_StatesBuild.l0 k x1 x2 x7 (wrap64 (x13 + 1)) xA xB xC xD xE xF xG xH xI)) else (none)) else (none)
end
def sl14_StatesBuild.f (k : Nat) (l0_0 : List (S82)) (l0_1 : List (S101)) (l0_2 : List ByteArray) (l0_3 : List (S64)) (a0_4 : Int) (a1 : Int) (a2 : Int) : Option (Bool) := (sl14_works.f).bind fun t360 => (if t360 = true then ((sl14_Little.f k l0_0 l0_1 l0_2 l0_3 a0_4).bind fun t361 => (if t361 = true then ((states_Build.f l0_0 l0_1 l0_2 l0_3 a0_4).bind fun bt362 => ((sr14_Build.f k l0_0 l0_1 l0_2 l0_3 a0_4).bind fun bt370 => (if bt362.2.2 = bt370.2.2 then (if (bt362.1.length : Int) = (bt370.1.length : Int) then (sl14_StatesBuild.j0 k a1 a2 t360 ((bt362.2.1.length : Int) != (bt370.2.1.length : Int)) l0_0 l0_1 l0_2 l0_3 a0_4 bt362.1 bt362.2.1 bt370.1 bt370.2.1) else (sl14_StatesBuild.j0 k a1 a2 t360 true l0_0 l0_1 l0_2 l0_3 a0_4 bt362.1 bt362.2.1 bt370.1 bt370.2.1)) else (sl14_StatesBuild.j0 k a1 a2 t360 true l0_0 l0_1 l0_2 l0_3 a0_4 bt362.1 bt362.2.1 bt370.1 bt370.2.1)))) else (some t360))) else (some false))
def sl14_StatesBuild.T14 : Bool × List (List Nat × List Nat) := (true, [([], []), ([0], [0]), ([], []), ([1, 2], [1, 2]), ([3], [3]), ([4], [4]), ([], []), ([6], [6]), ([], []), ([7, 8], [7, 8]), ([9], [9]), ([5, 10, 5], [5, 10]), ([11], [11]), ([12, 11], [12]), ([13], [13]), ([14, 13], [13, 14]), ([13], [13]), ([15, 16, 13], [13, 15, 16]), ([17, 13], [13, 17]), ([18, 13], [13, 18]), ([13], [13]), ([20, 13], [13, 20]), ([13], [13]), ([21, 22, 13], [13, 21, 22]), ([23, 13], [13, 23]), ([24, 13], [13, 24]), ([19, 25, 13], [13, 19, 25]), ([13, 26], [13, 26])])
def sl14_StatesBuild.B14 : List Nat := [0, 1, 0, 7, 15, 31, 0, 64, 0, 448, 960, 2047, 4095, 8191, 16383, 32767, 16383, 131071, 262143, 524287, 16383, 1064959, 16383, 7356415, 15745023, 32522239, 67108863, 134217727]
theorem sl14_StatesBuild.tab14 : rtab .any (opsOf Tryd.f4 14) = sl14_StatesBuild.T14 := by kernel_rfl
theorem sl14_StatesBuild.bits14 : waitsOk sl14_StatesBuild.T14.2 sl14_StatesBuild.B14 = true := by kernel_rfl
def sl14_StatesBuild.T19 : Bool × List (List Nat × List Nat) := (true, [([], []), ([0], [0]), ([], []), ([1, 2], [1, 2]), ([3], [3]), ([], []), ([4, 5], [4, 5]), ([6], [6]), ([], []), ([8], [8]), ([], []), ([9, 10], [9, 10]), ([11], [11]), ([], []), ([12, 13], [12, 13]), ([14], [14]), ([7, 15], [7, 15])])
def sl14_StatesBuild.B19 : List Nat := [0, 1, 0, 7, 15, 0, 63, 127, 0, 256, 0, 1792, 3840, 0, 16128, 32512, 65535]
theorem sl14_StatesBuild.tab19 : rtab .any (opsOf Tryd.f4 19) = sl14_StatesBuild.T19 := by kernel_rfl
theorem sl14_StatesBuild.bits19 : waitsOk sl14_StatesBuild.T19.2 sl14_StatesBuild.B19 = true := by kernel_rfl
def sl14_StatesBuild.T21 : Bool × List (List Nat × List Nat) := (true, [([], []), ([0], [0]), ([1], [1]), ([1], [1]), ([1], [1]), ([1], [1]), ([2, 3, 4, 5, 1, 1], [1, 2, 3, 4, 5]), ([1], [1]), ([1], [1]), ([1], [1]), ([1], [1]), ([7, 8, 9, 10, 6, 1], [1, 7, 8, 9, 10]), ([6, 11, 1], [1, 6, 11]), ([1, 12], [1, 12]), ([13, 11, 0, 1, 2, 3, 4, 5, 6, 7, 8, 9, 10, 11, 12, 13], [13])])
def sl14_StatesBuild.B21 : List Nat := [0, 1, 3, 3, 3, 3, 63, 3, 3, 3, 3, 2047, 4095, 8191, 16383]
theorem sl14_StatesBuild.tab21 : rtab .any (opsOf Tryd.f4 21) = sl14_StatesBuild.T21 := by kernel_rfl
theorem sl14_StatesBuild.bits21 : waitsOk sl14_StatesBuild.T21.2 sl14_StatesBuild.B21 = true := by kernel_rfl
set_option maxHeartbeats 8000000 in
set_option maxRecDepth 100000 in
theorem sl14_StatesBuild.calls (k : Nat) (A0_0 : Option Addr) (c0_0 : Nat) (l0_0 : List (S82)) (A0_1 : Option Addr) (c0_1 : Nat) (l0_1 : List (S101)) (A0_2 : Option Addr) (c0_2 : Nat) (l0_2 : List ByteArray) (A0_3 : Option Addr) (c0_3 : Nat) (l0_3 : List (S64)) (a0_4 : Int) (a1 : Int) (a2 : Int) (r : Bool) (w : World) (hG : GTab w) (hT : r = true) (hr0_0 : Kd.C k82 w A0_0 l0_0.length l0_0) (hc0_0 : l0_0.length ≤ c0_0) (hr0_1 : Kd.C k101 w A0_1 l0_1.length l0_1) (hc0_1 : l0_1.length ≤ c0_1) (hr0_2 : Kd.C Kd.string w A0_2 l0_2.length l0_2) (hc0_2 : l0_2.length ≤ c0_2) (hr0_3 : Kd.C k64 w A0_3 l0_3.length l0_3) (hc0_3 : l0_3.length ≤ c0_3) (h : sl14_StatesBuild.f k l0_0 l0_1 l0_2 l0_3 a0_4 a1 a2 = some r) :
  Calls Tryd.prog 4 #[.agg #[.slice A0_0 l0_0.length c0_0, .slice A0_1 l0_1.length c0_1, .slice A0_2 l0_2.length c0_2, .slice A0_3 l0_3.length c0_3, .int .i64 a0_4], .int .i64 a1, .int .i64 a2] w fun e w' => e = .returned (.bool r) ∧ Below w.heap.size w w' := by
 have hu27 := Tryd.underlying27
 have hu49 := Tryd.underlying49
 have hu55 := Tryd.underlying55
 have HG := jM hG
 clear hG
 have HT := jM hT
 clear hT
 have HR0_0 := jM hr0_0
 have HC0_0 := jM hc0_0
 clear hr0_0 hc0_0
 have HR0_1 := jM hr0_1
 have HC0_1 := jM hc0_1
 clear hr0_1 hc0_1
 have HR0_2 := jM hr0_2
 have HC0_2 := jM hc0_2
 clear hr0_2 hc0_2
 have HR0_3 := jM hr0_3
 have HC0_3 := jM hc0_3
 clear hr0_3 hc0_3
 have HB := jM (Below.refl w.heap.size w)
 have H : ((sl14_works.f).bind fun t360 => (if t360 = true then ((sl14_Little.f k l0_0 l0_1 l0_2 l0_3 a0_4).bind fun t361 => (if t361 = true then ((states_Build.f l0_0 l0_1 l0_2 l0_3 a0_4).bind fun bt362 => ((sr14_Build.f k l0_0 l0_1 l0_2 l0_3 a0_4).bind fun bt370 => (if bt362.2.2 = bt370.2.2 then (if (bt362.1.length : Int) = (bt370.1.length : Int) then (sl14_StatesBuild.j0 k a1 a2 t360 ((bt362.2.1.length : Int) != (bt370.2.1.length : Int)) l0_0 l0_1 l0_2 l0_3 a0_4 bt362.1 bt362.2.1 bt370.1 bt370.2.1) else (sl14_StatesBuild.j0 k a1 a2 t360 true l0_0 l0_1 l0_2 l0_3 a0_4 bt362.1 bt362.2.1 bt370.1 bt370.2.1)) else (sl14_StatesBuild.j0 k a1 a2 t360 true l0_0 l0_1 l0_2 l0_3 a0_4 bt362.1 bt362.2.1 bt370.1 bt370.2.1)))) else (some t360))) else (some false))) = some r := h
 clear h
 replace H := Option.bind_eq_some_iff.mp H
 obtain ⟨t360, A40, H⟩ := H
 replace H : (if t360 = true then ((sl14_Little.f k l0_0 l0_1 l0_2 l0_3 a0_4).bind fun t361 => (if t361 = true then ((states_Build.f l0_0 l0_1 l0_2 l0_3 a0_4).bind fun bt362 => ((sr14_Build.f k l0_0 l0_1 l0_2 l0_3 a0_4).bind fun bt370 => (if bt362.2.2 = bt370.2.2 then (if (bt362.1.length : Int) = (bt370.1.length : Int) then (sl14_StatesBuild.j0 k a1 a2 t360 ((bt362.2.1.length : Int) != (bt370.2.1.length : Int)) l0_0 l0_1 l0_2 l0_3 a0_4 bt362.1 bt362.2.1 bt370.1 bt370.2.1) else (sl14_StatesBuild.j0 k a1 a2 t360 true l0_0 l0_1 l0_2 l0_3 a0_4 bt362.1 bt362.2.1 bt370.1 bt370.2.1)) else (sl14_StatesBuild.j0 k a1 a2 t360 true l0_0 l0_1 l0_2 l0_3 a0_4 bt362.1 bt362.2.1 bt370.1 bt370.2.1)))) else (some t360))) else (some false)) = some r := H
 have A4 := jM A40
 clear A40
 by_cases c5 : t360 = true
 ·subst c5
  have H1 : ((sl14_Little.f k l0_0 l0_1 l0_2 l0_3 a0_4).bind fun t361 => (if t361 = true then ((states_Build.f l0_0 l0_1 l0_2 l0_3 a0_4).bind fun bt362 => ((sr14_Build.f k l0_0 l0_1 l0_2 l0_3 a0_4).bind fun bt370 => (if bt362.2.2 = bt370.2.2 then (if (bt362.1.length : Int) = (bt370.1.length : Int) then (sl14_StatesBuild.j0 k a1 a2 true ((bt362.2.1.length : Int) != (bt370.2.1.length : Int)) l0_0 l0_1 l0_2 l0_3 a0_4 bt362.1 bt362.2.1 bt370.1 bt370.2.1) else (sl14_StatesBuild.j0 k a1 a2 true true l0_0 l0_1 l0_2 l0_3 a0_4 bt362.1 bt362.2.1 bt370.1 bt370.2.1)) else (sl14_StatesBuild.j0 k a1 a2 true true l0_0 l0_1 l0_2 l0_3 a0_4 bt362.1 bt362.2.1 bt370.1 bt370.2.1)))) else (some true))) = some r := by rw [if_pos rfl] at H; exact H
  clear H
  have H := H1
  clear H1
  replace H := Option.bind_eq_some_iff.mp H
  obtain ⟨t361, A60, H⟩ := H
  replace H : (if t361 = true then ((states_Build.f l0_0 l0_1 l0_2 l0_3 a0_4).bind fun bt362 => ((sr14_Build.f k l0_0 l0_1 l0_2 l0_3 a0_4).bind fun bt370 => (if bt362.2.2 = bt370.2.2 then (if (bt362.1.length : Int) = (bt370.1.length : Int) then (sl14_StatesBuild.j0 k a1 a2 true ((bt362.2.1.length : Int) != (bt370.2.1.length : Int)) l0_0 l0_1 l0_2 l0_3 a0_4 bt362.1 bt362.2.1 bt370.1 bt370.2.1) else (sl14_StatesBuild.j0 k a1 a2 true true l0_0 l0_1 l0_2 l0_3 a0_4 bt362.1 bt362.2.1 bt370.1 bt370.2.1)) else (sl14_StatesBuild.j0 k a1 a2 true true l0_0 l0_1 l0_2 l0_3 a0_4 bt362.1 bt362.2.1 bt370.1 bt370.2.1)))) else (some true)) = some r := H
  have A6 := jM A60
  clear A60
  by_cases c7 : t361 = true
  ·subst c7
   have H1 : ((states_Build.f l0_0 l0_1 l0_2 l0_3 a0_4).bind fun bt362 => ((sr14_Build.f k l0_0 l0_1 l0_2 l0_3 a0_4).bind fun bt370 => (if bt362.2.2 = bt370.2.2 then (if (bt362.1.length : Int) = (bt370.1.length : Int) then (sl14_StatesBuild.j0 k a1 a2 true ((bt362.2.1.length : Int) != (bt370.2.1.length : Int)) l0_0 l0_1 l0_2 l0_3 a0_4 bt362.1 bt362.2.1 bt370.1 bt370.2.1) else (sl14_StatesBuild.j0 k a1 a2 true true l0_0 l0_1 l0_2 l0_3 a0_4 bt362.1 bt362.2.1 bt370.1 bt370.2.1)) else (sl14_StatesBuild.j0 k a1 a2 true true l0_0 l0_1 l0_2 l0_3 a0_4 bt362.1 bt362.2.1 bt370.1 bt370.2.1)))) = some r := by rw [if_pos rfl] at H; exact H
   clear H
   have H := H1
   clear H1
   replace H := Option.bind_eq_some_iff.mp H
   obtain ⟨⟨t362, t365, t368⟩, A80, H⟩ := H
   replace H : ((sr14_Build.f k l0_0 l0_1 l0_2 l0_3 a0_4).bind fun bt370 => (if t368 = bt370.2.2 then (if (t362.length : Int) = (bt370.1.length : Int) then (sl14_StatesBuild.j0 k a1 a2 true ((t365.length : Int) != (bt370.2.1.length : Int)) l0_0 l0_1 l0_2 l0_3 a0_4 t362 t365 bt370.1 bt370.2.1) else (sl14_StatesBuild.j0 k a1 a2 true true l0_0 l0_1 l0_2 l0_3 a0_4 t362 t365 bt370.1 bt370.2.1)) else (sl14_StatesBuild.j0 k a1 a2 true true l0_0 l0_1 l0_2 l0_3 a0_4 t362 t365 bt370.1 bt370.2.1))) = some r := H
   have A8 := jM A80
   clear A80
   replace H := Option.bind_eq_some_iff.mp H
   obtain ⟨⟨t370, t373, t376⟩, A90, H⟩ := H
   replace H : (if t368 = t376 then (if (t362.length : Int) = (t370.length : Int) then (sl14_StatesBuild.j0 k a1 a2 true ((t365.length : Int) != (t373.length : Int)) l0_0 l0_1 l0_2 l0_3 a0_4 t362 t365 t370 t373) else (sl14_StatesBuild.j0 k a1 a2 true true l0_0 l0_1 l0_2 l0_3 a0_4 t362 t365 t370 t373)) else (sl14_StatesBuild.j0 k a1 a2 true true l0_0 l0_1 l0_2 l0_3 a0_4 t362 t365 t370 t373)) = some r := H
   have A9 := jM A90
   clear A90
   have HC10 := jM H
   clear H
   go_enter Tryd.func4, Tryd.ntmps4
   go_upto_region 9 with (first | ((with_reducible refine gate_dst (N := 3) rfl ?_); (try (refine gate_guard (by rfl) ?_; dsimp only)); refine box_event ?hg (N := 3) ?hd (cs := #[.slice A0_0 l0_0.length c0_0, .slice A0_1 l0_1.length c0_1, .slice A0_2 l0_2.length c0_2, .slice A0_3 l0_3.length c0_3, .int .i64 a0_4]) (t := 27) ?hr ?_; (case hd => rfl); (case hg => rfl); (case hr => first | (go_simp; done) | (go_simp; rfl)); intro gb359 hg w11 hbox hb; have n0_ := jM (jT (tB HB.out) hb); have n1_ := jM (hbox); have n2_ := jM ((by rw [hg]; exact (below_size (tB HB.out)) : w.heap.size ≤ gb359)); have n3_ := jM ((by rw [hg]; exact (below_size (tB HB.out)) : w.heap.size ≤ gb359)); clear HB; have HB := n0_; have BK359 := n1_; have GW359 := n2_; have GE359 := n3_; clear n0_ n1_ n2_ n3_; clear hb hbox hg) | ((with_reducible refine gate_callee (f := 12) rfl ?_); refine goesL_ (some 15) rfl rfl Tryd.func12 (by kernel_rfl) rfl #[] rfl tM ?_; (with_reducible refine (sl14_works.calls  true _ ?side1 ?side2 A4.out).mono ?_); (case side1 => exact GTab.below HG.out (by repeat (first | (with_reducible first | exact HB.out | apply jA | apply jN | apply jD | refine jS ?_ GE359.out) | exact HB.out))); (case side2 => rfl); rintro e w12 ⟨rfl, hb⟩; refine ⟨_, rfl, ?_⟩; have n0_ := jM (jW (g := gb359) (o := .cells #[.slice A0_0 l0_0.length c0_0, .slice A0_1 l0_1.length c0_1, .slice A0_2 l0_2.length c0_2, .slice A0_3 l0_3.length c0_3, .int .i64 a0_4] 27 (0, 0)) (tK BK359.out) hb); have n1_ := jM (jT (by repeat (first | (with_reducible first | exact HB.out | apply jA | apply jN | apply jD | refine jS ?_ GE359.out) | exact HB.out)) hb); clear BK359; clear HB; have BK359 := n0_; have HB := n1_; clear n0_ n1_; (try clear hb); (try clear hb2); (try clear hk); (try clear hi); have hcz13_0 : w12.cell? ⟨gb359, 0, none⟩ = some (.slice A0_0 l0_0.length c0_0) := (jC BK359.out 0).trans rfl; have hcz13_1 : w12.cell? ⟨gb359, 1, none⟩ = some (.slice A0_1 l0_1.length c0_1) := (jC BK359.out 1).trans rfl; have hcz13_2 : w12.cell? ⟨gb359, 2, none⟩ = some (.slice A0_2 l0_2.length c0_2) := (jC BK359.out 2).trans rfl; have hcz13_3 : w12.cell? ⟨gb359, 3, none⟩ = some (.slice A0_3 l0_3.length c0_3) := (jC BK359.out 3).trans rfl; have hcz13_4 : w12.cell? ⟨gb359, 4, none⟩ = some (.int .i64 a0_4) := (jC BK359.out 4).trans rfl; have hfz13_0 := jF BK359.out 0; have hfz13_1 := jF BK359.out 1; have hfz13_2 := jF BK359.out 2; have hfz13_3 := jF BK359.out 3; have hfz13_4 := jF BK359.out 4) | ((with_reducible refine gate_callee (f := 22) rfl ?_); refine goesL_ (some 19) rfl rfl Tryd.func22 (by kernel_rfl) rfl #[.agg #[.slice A0_0 l0_0.length c0_0, .slice A0_1 l0_1.length c0_1, .slice A0_2 l0_2.length c0_2, .slice A0_3 l0_3.length c0_3, .int .i64 a0_4]] rfl tM ?_; (with_reducible refine (sl14_Little.calls k _ _ l0_0 _ _ l0_1 _ _ l0_2 _ _ l0_3 a0_4 true _ ?side1 ?side2 ?side3 ?side4 ?side5 ?side6 ?side7 ?side8 A6.out).mono ?_); (case side1 => exact tC (jB HR0_0.out HB.out)); (case side2 => exact HC0_0.out); (case side3 => exact tC (jB HR0_1.out HB.out)); (case side4 => exact HC0_1.out); (case side5 => exact tC (jB HR0_2.out HB.out)); (case side6 => exact HC0_2.out); (case side7 => exact tC (jB HR0_3.out HB.out)); (case side8 => exact HC0_3.out); rintro e w14 ⟨rfl, hb⟩; refine ⟨_, rfl, ?_⟩; have n0_ := jM (jW (g := gb359) (o := .cells #[.slice A0_0 l0_0.length c0_0, .slice A0_1 l0_1.length c0_1, .slice A0_2 l0_2.length c0_2, .slice A0_3 l0_3.length c0_3, .int .i64 a0_4] 27 (0, 0)) (tK BK359.out) hb); have n1_ := jM (jT (by repeat (first | (with_reducible first | exact HB.out | apply jA | apply jN | apply jD | refine jS ?_ GE359.out) | exact HB.out)) hb); clear BK359; clear HB; have BK359 := n0_; have HB := n1_; clear n0_ n1_; (try clear hb); (try clear hb2); (try clear hk); (try clear hi); have hcz15_0 : w14.cell? ⟨gb359, 0, none⟩ = some (.slice A0_0 l0_0.length c0_0) := (jC BK359.out 0).trans rfl; have hcz15_1 : w14.cell? ⟨gb359, 1, none⟩ = some (.slice A0_1 l0_1.length c0_1) := (jC BK359.out 1).trans rfl; have hcz15_2 : w14.cell? ⟨gb359, 2, none⟩ = some (.slice A0_2 l0_2.length c0_2) := (jC BK359.out 2).trans rfl; have hcz15_3 : w14.cell? ⟨gb359, 3, none⟩ = some (.slice A0_3 l0_3.length c0_3) := (jC BK359.out 3).trans rfl; have hcz15_4 : w14.cell? ⟨gb359, 4, none⟩ = some (.int .i64 a0_4) := (jC BK359.out 4).trans rfl; have hfz15_0 := jF BK359.out 0; have hfz15_1 := jF BK359.out 1; have hfz15_2 := jF BK359.out 2; have hfz15_3 := jF BK359.out 3; have hfz15_4 := jF BK359.out 4) | ((with_reducible refine gate_callee (f := 23) rfl ?_); refine goesL_ (some 25) rfl rfl Tryd.func23 (by kernel_rfl) rfl #[.agg #[.slice A0_0 l0_0.length c0_0, .slice A0_1 l0_1.length c0_1, .slice A0_2 l0_2.length c0_2, .slice A0_3 l0_3.length c0_3, .int .i64 a0_4]] rfl tM ?_; (with_reducible refine (states_Build.calls _ _ l0_0 _ _ l0_1 _ _ l0_2 _ _ l0_3 a0_4 t362 t365 t368 _ ?side1 ?side2 ?side3 ?side4 ?side5 ?side6 ?side7 ?side8 ?side9 A8.out).mono ?_); (case side1 => exact GTab.below HG.out (by repeat (first | (with_reducible first | exact HB.out | apply jA | apply jN | apply jD | refine jS ?_ GE359.out) | exact HB.out))); (case side2 => exact tC (jB HR0_0.out HB.out)); (case side3 => exact HC0_0.out); (case side4 => exact tC (jB HR0_1.out HB.out)); (case side5 => exact HC0_1.out); (case side6 => exact tC (jB HR0_2.out HB.out)); (case side7 => exact HC0_2.out); (case side8 => exact tC (jB HR0_3.out HB.out)); (case side9 => exact HC0_3.out); rintro e w16 ⟨v363, v366, rfl, ho0, ho1, hb⟩; refine ⟨_, rfl, ?_⟩; have n0_ := jM (Kd.N_lower (Kd.N_mono (ok' := fun k_ => some k_ ≠ (v366 : Value).ownBlock ∧ k_ ≠ gb359) (Kd.S_N (Kd.S_bound (Kd.S_apart' ho0 (Kd.S_typed ho1) (by decide)))) (fun k_ hk_ => ⟨hk_.1.2, (Kd.freshB (g := gb359) (o := .cells #[.slice A0_0 l0_0.length c0_0, .slice A0_1 l0_1.length c0_1, .slice A0_2 l0_2.length c0_2, .slice A0_3 l0_3.length c0_3, .int .i64 a0_4] 27 (0, 0)) (tK BK359.out) k_ hk_.2.1)⟩)) (below_size (by repeat (first | (with_reducible first | exact HB.out | apply jA | apply jN | apply jD | refine jS ?_ GE359.out) | exact HB.out)))); have n1_ := jM (Kd.N_lower (Kd.N_mono (ok' := fun k_ => some k_ ≠ (v363 : Value).ownBlock ∧ k_ ≠ gb359) (Kd.S_N (Kd.S_bound (Kd.S_apart' ho1 (Kd.S_typed ho0) (by decide)))) (fun k_ hk_ => ⟨hk_.1.2, (Kd.freshB (g := gb359) (o := .cells #[.slice A0_0 l0_0.length c0_0, .slice A0_1 l0_1.length c0_1, .slice A0_2 l0_2.length c0_2, .slice A0_3 l0_3.length c0_3, .int .i64 a0_4] 27 (0, 0)) (tK BK359.out) k_ hk_.2.1)⟩)) (below_size (by repeat (first | (with_reducible first | exact HB.out | apply jA | apply jN | apply jD | refine jS ?_ GE359.out) | exact HB.out)))); have n2_ := jM (jW (g := gb359) (o := .cells #[.slice A0_0 l0_0.length c0_0, .slice A0_1 l0_1.length c0_1, .slice A0_2 l0_2.length c0_2, .slice A0_3 l0_3.length c0_3, .int .i64 a0_4] 27 (0, 0)) (tK BK359.out) hb); have n3_ := jM (jT (by repeat (first | (with_reducible first | exact HB.out | apply jA | apply jN | apply jD | refine jS ?_ GE359.out) | exact HB.out)) hb); clear BK359; clear HB; have HO364 := n0_; have HO367 := n1_; have BK359 := n2_; have HB := n3_; clear n0_ n1_ n2_ n3_; (try clear hb); (try clear hb2); (try clear hk); (try clear hi); (try clear ho0); (try clear ho1)) | ((with_reducible refine gate_dst (N := 9) rfl ?_); (try (refine gate_guard (by rfl) ?_; dsimp only)); refine box_event ?hg (N := 9) ?hd (cs := #[.slice none 0 0, .slice none 0 0]) (t := 49) ?hr ?_; (case hd => rfl); (case hg => rfl); (case hr => first | (go_simp; done) | (go_simp; rfl)); intro gb369 hg w17 hbox hb; have n0_ := jM (Kd.N_below (Kd.N_elderB (tN HO364.out) gb369 (Nat.le_of_eq hg.symm)) hb); have n1_ := jM (Kd.N_below (Kd.N_elderB (tN HO367.out) gb369 (Nat.le_of_eq hg.symm)) hb); have n2_ := jM (jW (g := gb359) (o := .cells #[.slice A0_0 l0_0.length c0_0, .slice A0_1 l0_1.length c0_1, .slice A0_2 l0_2.length c0_2, .slice A0_3 l0_3.length c0_3, .int .i64 a0_4] 27 (0, 0)) (tK BK359.out) hb); have n3_ := jM (jT (by repeat (first | (with_reducible first | exact HB.out | apply jA | apply jN | apply jD | refine jS ?_ GE359.out) | exact HB.out)) hb); have n4_ := jM (hbox); have n5_ := jM ((by rw [hg]; exact (below_size (by repeat (first | (with_reducible first | exact HB.out | apply jA | apply jN | apply jD | refine jS ?_ GE359.out) | exact HB.out))) : w.heap.size ≤ gb369)); have n6_ := jM ((by rw [hg]; exact (below_size (by repeat (first | (with_reducible first | exact HB.out | apply jA | apply jN | apply jD | refine jS ?_ GE359.out) | exact HB.out))) : w.heap.size ≤ gb369)); have n7_ := jM ((by rw [hg]; exact Nat.ne_of_lt (blk_lt (g := gb359) (o := .cells #[.slice A0_0 l0_0.length c0_0, .slice A0_1 l0_1.length c0_1, .slice A0_2 l0_2.length c0_2, .slice A0_3 l0_3.length c0_3, .int .i64 a0_4] 27 (0, 0)) (tK BK359.out)) : gb359 ≠ gb369)); have n8_ := jM ((by rw [hg]; exact Nat.ne_of_gt (blk_lt (g := gb359) (o := .cells #[.slice A0_0 l0_0.length c0_0, .slice A0_1 l0_1.length c0_1, .slice A0_2 l0_2.length c0_2, .slice A0_3 l0_3.length c0_3, .int .i64 a0_4] 27 (0, 0)) (tK BK359.out)) : gb369 ≠ gb359)); clear HO364; clear HO367; clear BK359; clear HB; have HO364 := n0_; have HO367 := n1_; have BK359 := n2_; have HB := n3_; have BK369 := n4_; have GW369 := n5_; have GE369 := n6_; have NB359_369 := n7_; have NB369_359 := n8_; clear n0_ n1_ n2_ n3_ n4_ n5_ n6_ n7_ n8_; clear hb hbox hg; obtain ⟨Ao18, co18, eo18⟩ := Kd.N_slice HO364.out; subst eo18; have hnb19 := NB369_359.out; have hnc19 := NB359_369.out; have hcz20_0 : w17.cell? ⟨gb369, 0, none⟩ = some (.slice none 0 0) := (jC BK369.out 0).trans rfl; have hcz20_1 : w17.cell? ⟨gb369, 1, none⟩ = some (.slice none 0 0) := (jC BK369.out 1).trans rfl; have hfz20_0 := jF BK369.out 0; have hfz20_1 := jF BK369.out 1; obtain ⟨Ao21, co21, eo21⟩ := Kd.N_slice HO367.out; subst eo21; have hcz22_0 : w17.cell? ⟨gb359, 0, none⟩ = some (.slice A0_0 l0_0.length c0_0) := (jC BK359.out 0).trans rfl; have hcz22_1 : w17.cell? ⟨gb359, 1, none⟩ = some (.slice A0_1 l0_1.length c0_1) := (jC BK359.out 1).trans rfl; have hcz22_2 : w17.cell? ⟨gb359, 2, none⟩ = some (.slice A0_2 l0_2.length c0_2) := (jC BK359.out 2).trans rfl; have hcz22_3 : w17.cell? ⟨gb359, 3, none⟩ = some (.slice A0_3 l0_3.length c0_3) := (jC BK359.out 3).trans rfl; have hcz22_4 : w17.cell? ⟨gb359, 4, none⟩ = some (.int .i64 a0_4) := (jC BK359.out 4).trans rfl; have hfz22_0 := jF BK359.out 0; have hfz22_1 := jF BK359.out 1; have hfz22_2 := jF BK359.out 2; have hfz22_3 := jF BK359.out 3; have hfz22_4 := jF BK359.out 4) | ((with_reducible refine gate_callee (f := 24) rfl ?_); refine goesL_ (some 30) rfl rfl Tryd.func24 (by kernel_rfl) rfl #[.agg #[.slice A0_0 l0_0.length c0_0, .slice A0_1 l0_1.length c0_1, .slice A0_2 l0_2.length c0_2, .slice A0_3 l0_3.length c0_3, .int .i64 a0_4]] rfl tM ?_; (with_reducible refine (sr14_Build.calls k _ _ l0_0 _ _ l0_1 _ _ l0_2 _ _ l0_3 a0_4 t370 t373 t376 _ ?side1 ?side2 ?side3 ?side4 ?side5 ?side6 ?side7 ?side8 A9.out).mono ?_); (case side1 => exact jB HR0_0.out (by repeat (first | (with_reducible first | exact HB.out | apply jA | apply jN | apply jD | refine jS ?_ GE359.out | refine jS ?_ GE369.out) | exact HB.out))); (case side2 => exact HC0_0.out); (case side3 => exact jB HR0_1.out (by repeat (first | (with_reducible first | exact HB.out | apply jA | apply jN | apply jD | refine jS ?_ GE359.out | refine jS ?_ GE369.out) | exact HB.out))); (case side4 => exact HC0_1.out); (case side5 => exact jB HR0_2.out (by repeat (first | (with_reducible first | exact HB.out | apply jA | apply jN | apply jD | refine jS ?_ GE359.out | refine jS ?_ GE369.out) | exact HB.out))); (case side6 => exact HC0_2.out); (case side7 => exact jB HR0_3.out (by repeat (first | (with_reducible first | exact HB.out | apply jA | apply jN | apply jD | refine jS ?_ GE359.out | refine jS ?_ GE369.out) | exact HB.out))); (case side8 => exact HC0_3.out); rintro e w23 ⟨v371, v374, rfl, ho0, ho1, hb⟩; refine ⟨_, rfl, ?_⟩; have n0_ := jM (Kd.N_mono (Kd.N_told (Kd.N_told (Kd.N_old (by (with_reducible repeat (first | apply jn | apply jo | apply jp)); exact (Kd.N_mono (Kd.N_far (p := ⟨gb369, 1, none⟩) (Kd.N_far (p := ⟨gb369, 0, none⟩) (Kd.N_mono HO364.out (fun k_ hk => (⟨hk, hk.2⟩ : _ ∧ k_ ≠ gb369))) (fun _ hk => hk.2) (.slice Ao18 t362.length co18)) (fun _ hk => hk.2) (.slice Ao21 t365.length co21)) (fun _ h_ => h_.1))) hb) (Kd.N_base ho0)) (Kd.N_base ho1)) (fun _ h_ => h_.1)); have n1_ := jM (Kd.N_mono (Kd.N_told (Kd.N_told (Kd.N_old (by (with_reducible repeat (first | apply jn | apply jo | apply jp)); exact (Kd.N_mono (Kd.N_far (p := ⟨gb369, 1, none⟩) (Kd.N_far (p := ⟨gb369, 0, none⟩) (Kd.N_mono HO367.out (fun k_ hk => (⟨hk, hk.2⟩ : _ ∧ k_ ≠ gb369))) (fun _ hk => hk.2) (.slice Ao18 t362.length co18)) (fun _ hk => hk.2) (.slice Ao21 t365.length co21)) (fun _ h_ => h_.1))) hb) (Kd.N_base ho0)) (Kd.N_base ho1)) (fun _ h_ => h_.1)); have n2_ := jM (Kd.N_lower (Kd.N_mono (ok' := fun k_ => some k_ ≠ (v374 : Value).ownBlock ∧ some k_ ≠ (.slice Ao18 t362.length co18 : Value).ownBlock ∧ some k_ ≠ (.slice Ao21 t365.length co21 : Value).ownBlock ∧ k_ ≠ gb359 ∧ k_ ≠ gb369) ho0 (fun k_ hk_ => ⟨hk_.2, (Kd.fresh' (Kd.N_lt (by (with_reducible repeat (first | apply jn | apply jo | apply jp)); exact (Kd.N_mono (Kd.N_far (p := ⟨gb369, 1, none⟩) (Kd.N_far (p := ⟨gb369, 0, none⟩) (Kd.N_mono HO364.out (fun k_ hk => (⟨hk, hk.2⟩ : _ ∧ k_ ≠ gb369))) (fun _ hk => hk.2) (.slice Ao18 t362.length co18)) (fun _ hk => hk.2) (.slice Ao21 t365.length co21)) (fun _ h_ => h_.1)))) k_ hk_.1), (Kd.fresh' (Kd.N_lt (by (with_reducible repeat (first | apply jn | apply jo | apply jp)); exact (Kd.N_mono (Kd.N_far (p := ⟨gb369, 1, none⟩) (Kd.N_far (p := ⟨gb369, 0, none⟩) (Kd.N_mono HO367.out (fun k_ hk => (⟨hk, hk.2⟩ : _ ∧ k_ ≠ gb369))) (fun _ hk => hk.2) (.slice Ao18 t362.length co18)) (fun _ hk => hk.2) (.slice Ao21 t365.length co21)) (fun _ h_ => h_.1)))) k_ hk_.1), (Kd.freshB (g := gb359) (o := .cells #[.slice A0_0 l0_0.length c0_0, .slice A0_1 l0_1.length c0_1, .slice A0_2 l0_2.length c0_2, .slice A0_3 l0_3.length c0_3, .int .i64 a0_4] 27 (0, 0)) (by (with_reducible repeat (first | refine jY ?_ _ | refine jZ ?_ | refine jX ?_ _)); refine blk_far ?_ NB359_369.out _; (with_reducible repeat (first | refine jY ?_ _ | refine jZ ?_ | refine jX ?_ _)); refine blk_far ?_ NB359_369.out _; (with_reducible repeat (first | refine jY ?_ _ | refine jZ ?_ | refine jX ?_ _)); exact BK359.out) k_ hk_.1), (Kd.freshB (g := gb369) (o := .cells #[.slice Ao18 t362.length co18, .slice Ao21 t365.length co21] 49 (0, 0)) (by (with_reducible repeat (first | refine jY ?_ _ | refine jZ ?_ | refine jX ?_ _)); refine blk_put (cs := #[.slice Ao18 t362.length co18, .slice none 0 0]) ?_ 1 _ rfl; (with_reducible repeat (first | refine jY ?_ _ | refine jZ ?_ | refine jX ?_ _)); refine blk_put (cs := #[.slice none 0 0, .slice none 0 0]) ?_ 0 _ rfl; (with_reducible repeat (first | refine jY ?_ _ | refine jZ ?_ | refine jX ?_ _)); exact BK369.out) k_ hk_.1)⟩)) (below_size (by repeat (first | (with_reducible first | exact HB.out | apply jA | apply jN | apply jD | refine jS ?_ GE359.out | refine jS ?_ GE369.out) | exact HB.out)))); have n3_ := jM (Kd.N_lower (Kd.N_mono (ok' := fun k_ => some k_ ≠ (v371 : Value).ownBlock ∧ some k_ ≠ (.slice Ao18 t362.length co18 : Value).ownBlock ∧ some k_ ≠ (.slice Ao21 t365.length co21 : Value).ownBlock ∧ k_ ≠ gb359 ∧ k_ ≠ gb369) ho1 (fun k_ hk_ => ⟨hk_.2, (Kd.fresh' (Kd.N_lt (by (with_reducible repeat (first | apply jn | apply jo | apply jp)); exact (Kd.N_mono (Kd.N_far (p := ⟨gb369, 1, none⟩) (Kd.N_far (p := ⟨gb369, 0, none⟩) (Kd.N_mono HO364.out (fun k_ hk => (⟨hk, hk.2⟩ : _ ∧ k_ ≠ gb369))) (fun _ hk => hk.2) (.slice Ao18 t362.length co18)) (fun _ hk => hk.2) (.slice Ao21 t365.length co21)) (fun _ h_ => h_.1)))) k_ hk_.1), (Kd.fresh' (Kd.N_lt (by (with_reducible repeat (first | apply jn | apply jo | apply jp)); exact (Kd.N_mono (Kd.N_far (p := ⟨gb369, 1, none⟩) (Kd.N_far (p := ⟨gb369, 0, none⟩) (Kd.N_mono HO367.out (fun k_ hk => (⟨hk, hk.2⟩ : _ ∧ k_ ≠ gb369))) (fun _ hk => hk.2) (.slice Ao18 t362.length co18)) (fun _ hk => hk.2) (.slice Ao21 t365.length co21)) (fun _ h_ => h_.1)))) k_ hk_.1), (Kd.freshB (g := gb359) (o := .cells #[.slice A0_0 l0_0.length c0_0, .slice A0_1 l0_1.length c0_1, .slice A0_2 l0_2.length c0_2, .slice A0_3 l0_3.length c0_3, .int .i64 a0_4] 27 (0, 0)) (by (with_reducible repeat (first | refine jY ?_ _ | refine jZ ?_ | refine jX ?_ _)); refine blk_far ?_ NB359_369.out _; (with_reducible repeat (first | refine jY ?_ _ | refine jZ ?_ | refine jX ?_ _)); refine blk_far ?_ NB359_369.out _; (with_reducible repeat (first | refine jY ?_ _ | refine jZ ?_ | refine jX ?_ _)); exact BK359.out) k_ hk_.1), (Kd.freshB (g := gb369) (o := .cells #[.slice Ao18 t362.length co18, .slice Ao21 t365.length co21] 49 (0, 0)) (by (with_reducible repeat (first | refine jY ?_ _ | refine jZ ?_ | refine jX ?_ _)); refine blk_put (cs := #[.slice Ao18 t362.length co18, .slice none 0 0]) ?_ 1 _ rfl; (with_reducible repeat (first | refine jY ?_ _ | refine jZ ?_ | refine jX ?_ _)); refine blk_put (cs := #[.slice none 0 0, .slice none 0 0]) ?_ 0 _ rfl; (with_reducible repeat (first | refine jY ?_ _ | refine jZ ?_ | refine jX ?_ _)); exact BK369.out) k_ hk_.1)⟩)) (below_size (by repeat (first | (with_reducible first | exact HB.out | apply jA | apply jN | apply jD | refine jS ?_ GE359.out | refine jS ?_ GE369.out) | exact HB.out)))); have n4_ := jM (jW (g := gb359) (o := .cells #[.slice A0_0 l0_0.length c0_0, .slice A0_1 l0_1.length c0_1, .slice A0_2 l0_2.length c0_2, .slice A0_3 l0_3.length c0_3, .int .i64 a0_4] 27 (0, 0)) (by (with_reducible repeat (first | refine jY ?_ _ | refine jZ ?_ | refine jX ?_ _)); refine blk_far ?_ NB359_369.out _; (with_reducible repeat (first | refine jY ?_ _ | refine jZ ?_ | refine jX ?_ _)); refine blk_far ?_ NB359_369.out _; (with_reducible repeat (first | refine jY ?_ _ | refine jZ ?_ | refine jX ?_ _)); exact BK359.out) hb); have n5_ := jM (jW (g := gb369) (o := .cells #[.slice Ao18 t362.length co18, .slice Ao21 t365.length co21] 49 (0, 0)) (by (with_reducible repeat (first | refine jY ?_ _ | refine jZ ?_ | refine jX ?_ _)); refine blk_put (cs := #[.slice Ao18 t362.length co18, .slice none 0 0]) ?_ 1 _ rfl; (with_reducible repeat (first | refine jY ?_ _ | refine jZ ?_ | refine jX ?_ _)); refine blk_put (cs := #[.slice none 0 0, .slice none 0 0]) ?_ 0 _ rfl; (with_reducible repeat (first | refine jY ?_ _ | refine jZ ?_ | refine jX ?_ _)); exact BK369.out) hb); have n6_ := jM (jT (by repeat (first | (with_reducible first | exact HB.out | apply jA | apply jN | apply jD | refine jS ?_ GE359.out | refine jS ?_ GE369.out) | exact HB.out)) hb); clear HO364; clear HO367; clear BK359; clear BK369; clear HB; have HO364 := n0_; have HO367 := n1_; have HO372 := n2_; have HO375 := n3_; have BK359 := n4_; have BK369 := n5_; have HB := n6_; clear n0_ n1_ n2_ n3_ n4_ n5_ n6_; (try clear hb); (try clear hb2); (try clear hk); (try clear hi); (try clear ho0); (try clear ho1)) | ((with_reducible refine gate_dst (N := 11) rfl ?_); (try (refine gate_guard (by rfl) ?_; dsimp only)); refine box_event ?hg (N := 11) ?hd (cs := #[.slice none 0 0, .slice none 0 0]) (t := 55) ?hr ?_; (case hd => rfl); (case hg => rfl); (case hr => first | (go_simp; done) | (go_simp; rfl)); intro gb377 hg w24 hbox hb; have n0_ := jM (Kd.N_below (Kd.N_elderB (tN HO364.out) gb377 (Nat.le_of_eq hg.symm)) hb); have n1_ := jM (Kd.N_below (Kd.N_elderB (tN HO367.out) gb377 (Nat.le_of_eq hg.symm)) hb); have n2_ := jM (Kd.N_below (Kd.N_elderB (tN HO372.out) gb377 (Nat.le_of_eq hg.symm)) hb); have n3_ := jM (Kd.N_below (Kd.N_elderB (tN HO375.out) gb377 (Nat.le_of_eq hg.symm)) hb); have n4_ := jM (jW (g := gb359) (o := .cells #[.slice A0_0 l0_0.length c0_0, .slice A0_1 l0_1.length c0_1, .slice A0_2 l0_2.length c0_2, .slice A0_3 l0_3.length c0_3, .int .i64 a0_4] 27 (0, 0)) (tK BK359.out) hb); have n5_ := jM (jW (g := gb369) (o := .cells #[.slice Ao18 t362.length co18, .slice Ao21 t365.length co21] 49 (0, 0)) (tK BK369.out) hb); have n6_ := jM (jT (by repeat (first | (with_reducible first | exact HB.out | apply jA | apply jN | apply jD | refine jS ?_ GE359.out | refine jS ?_ GE369.out) | exact HB.out)) hb); have n7_ := jM (hbox); have n8_ := jM ((by rw [hg]; exact (below_size (by repeat (first | (with_reducible first | exact HB.out | apply jA | apply jN | apply jD | refine jS ?_ GE359.out | refine jS ?_ GE369.out) | exact HB.out))) : w.heap.size ≤ gb377)); have n9_ := jM ((by rw [hg]; exact (below_size (by repeat (first | (with_reducible first | exact HB.out | apply jA | apply jN | apply jD | refine jS ?_ GE359.out | refine jS ?_ GE369.out) | exact HB.out))) : w.heap.size ≤ gb377)); have n10_ := jM ((by rw [hg]; exact Nat.ne_of_lt (blk_lt (g := gb359) (o := .cells #[.slice A0_0 l0_0.length c0_0, .slice A0_1 l0_1.length c0_1, .slice A0_2 l0_2.length c0_2, .slice A0_3 l0_3.length c0_3, .int .i64 a0_4] 27 (0, 0)) (tK BK359.out)) : gb359 ≠ gb377)); have n11_ := jM ((by rw [hg]; exact Nat.ne_of_gt (blk_lt (g := gb359) (o := .cells #[.slice A0_0 l0_0.length c0_0, .slice A0_1 l0_1.length c0_1, .slice A0_2 l0_2.length c0_2, .slice A0_3 l0_3.length c0_3, .int .i64 a0_4] 27 (0, 0)) (tK BK359.out)) : gb377 ≠ gb359)); have n12_ := jM ((by rw [hg]; exact Nat.ne_of_lt (blk_lt (g := gb369) (o := .cells #[.slice Ao18 t362.length co18, .slice Ao21 t365.length co21] 49 (0, 0)) (tK BK369.out)) : gb369 ≠ gb377)); have n13_ := jM ((by rw [hg]; exact Nat.ne_of_gt (blk_lt (g := gb369) (o := .cells #[.slice Ao18 t362.length co18, .slice Ao21 t365.length co21] 49 (0, 0)) (tK BK369.out)) : gb377 ≠ gb369)); clear HO364; clear HO367; clear HO372; clear HO375; clear BK359; clear BK369; clear HB; have HO364 := n0_; have HO367 := n1_; have HO372 := n2_; have HO375 := n3_; have BK359 := n4_; have BK369 := n5_; have HB := n6_; have BK377 := n7_; have GW377 := n8_; have GE377 := n9_; have NB359_377 := n10_; have NB377_359 := n11_; have NB369_377 := n12_; have NB377_369 := n13_; clear n0_ n1_ n2_ n3_ n4_ n5_ n6_ n7_ n8_ n9_ n10_ n11_ n12_ n13_; clear hb hbox hg; obtain ⟨Ao25, co25, eo25⟩ := Kd.N_slice HO372.out; subst eo25; have hnb26 := NB377_359.out; have hnc26 := NB359_377.out; have hnb27 := NB377_369.out; have hnc27 := NB369_377.out; have hcz28_0 : w24.cell? ⟨gb377, 0, none⟩ = some (.slice none 0 0) := (jC BK377.out 0).trans rfl; have hcz28_1 : w24.cell? ⟨gb377, 1, none⟩ = some (.slice none 0 0) := (jC BK377.out 1).trans rfl; have hfz28_0 := jF BK377.out 0; have hfz28_1 := jF BK377.out 1; obtain ⟨Ao29, co29, eo29⟩ := Kd.N_slice HO375.out; subst eo29))
   (try simp only [Act.put, sA])
   go_cut [53] (fun v53 wc => ∃ (kq : Nat) (x53_9 : Bool), v53 = .bool x53_9 ∧ Aside0 (sl14_StatesBuild.j0 kq a1 a2 true x53_9 l0_0 l0_1 l0_2 l0_3 a0_4 t362 t365 t370 t373 = some r) ∧ Aside0 (kq ≤ k) ∧ Aside0 (Kd.N (Kd.slice 37 k37) 28 wc w.heap.size (fun k_ => some k_ ≠ ((.slice Ao21 t365.length co21) : Value).ownBlock ∧ some k_ ≠ ((.slice Ao25 t370.length co25) : Value).ownBlock ∧ some k_ ≠ ((.slice Ao29 t373.length co29) : Value).ownBlock ∧ k_ ≠ gb359 ∧ k_ ≠ gb369 ∧ k_ ≠ gb377) (.slice Ao18 t362.length co18) t362) ∧ Aside0 (Kd.N (Kd.slice 3 (Kd.int .i64)) 58 wc w.heap.size (fun k_ => some k_ ≠ ((.slice Ao18 t362.length co18) : Value).ownBlock ∧ some k_ ≠ ((.slice Ao25 t370.length co25) : Value).ownBlock ∧ some k_ ≠ ((.slice Ao29 t373.length co29) : Value).ownBlock ∧ k_ ≠ gb359 ∧ k_ ≠ gb369 ∧ k_ ≠ gb377) (.slice Ao21 t365.length co21) t365) ∧ Aside0 (Kd.N (Kd.slice 39 k39) 32 wc w.heap.size (fun k_ => some k_ ≠ ((.slice Ao18 t362.length co18) : Value).ownBlock ∧ some k_ ≠ ((.slice Ao21 t365.length co21) : Value).ownBlock ∧ some k_ ≠ ((.slice Ao29 t373.length co29) : Value).ownBlock ∧ k_ ≠ gb359 ∧ k_ ≠ gb369 ∧ k_ ≠ gb377) (.slice Ao25 t370.length co25) t370) ∧ Aside0 (Kd.N (Kd.slice 3 (Kd.int .i64)) 58 wc w.heap.size (fun k_ => some k_ ≠ ((.slice Ao18 t362.length co18) : Value).ownBlock ∧ some k_ ≠ ((.slice Ao21 t365.length co21) : Value).ownBlock ∧ some k_ ≠ ((.slice Ao25 t370.length co25) : Value).ownBlock ∧ k_ ≠ gb359 ∧ k_ ≠ gb369 ∧ k_ ≠ gb377) (.slice Ao29 t373.length co29) t373) ∧ Aside0 (wc.heap[gb359]? = some (.cells #[(.slice A0_0 l0_0.length c0_0), (.slice A0_1 l0_1.length c0_1), (.slice A0_2 l0_2.length c0_2), (.slice A0_3 l0_3.length c0_3), .int .i64 a0_4] 27 (0, 0))) ∧ Aside0 (wc.heap[gb369]? = some (.cells #[(.slice Ao18 t362.length co18), (.slice Ao21 t365.length co21)] 49 (0, 0))) ∧ Aside0 (wc.heap[gb377]? = some (.cells #[(.slice Ao25 t370.length co25), (.slice Ao29 t373.length co29)] 55 (0, 0))) ∧ Aside0 (Below w.heap.size w wc))
   case first =>
    have H := HC10.out
    clear HC10
    by_cases c30 : t368 = t376
    ·rw [if_pos c30] at H
     have c30b0 : (t368 == t376) = true := beq_iff_eq.mpr c30
     have c30b1 : (t368 != t376) = false := bne_eq_false_iff_eq.mpr c30
     clear c30
     (first | rw [c30b0] | (simp only [i64_w, i32_w]; rw [c30b0]) | skip)
     by_cases c31 : (t362.length : Int) = (t370.length : Int)
     ·rw [if_pos c31] at H
      have c31b0 : ((t362.length : Int) == (t370.length : Int)) = true := beq_iff_eq.mpr c31
      have c31b1 : ((t362.length : Int) != (t370.length : Int)) = false := bne_eq_false_iff_eq.mpr c31
      have c31b2 : (t362.length == t370.length) = true := by first | simpa using c31 | (simp at c31 ⊢; omega)
      clear c31
      have H' := jM H
      clear H
      have hnb32 := NB369_359.out
      have hnc32 := NB359_369.out
      have hnb33 := NB369_377.out
      have hnc33 := NB377_369.out
      have hcz34_0 : w24.cell? ⟨gb369, 0, none⟩ = some (.slice Ao18 t362.length co18) := (jC BK369.out 0).trans rfl
      have hcz34_1 : w24.cell? ⟨gb369, 1, none⟩ = some (.slice Ao21 t365.length co21) := (jC BK369.out 1).trans rfl
      have hfz34_0 := jF BK369.out 0
      have hfz34_1 := jF BK369.out 1
      have hnb35 := NB377_359.out
      have hnc35 := NB359_377.out
      have hcz36_0 : w24.cell? ⟨gb377, 0, none⟩ = some (.slice none 0 0) := (jC BK377.out 0).trans rfl
      have hcz36_1 : w24.cell? ⟨gb377, 1, none⟩ = some (.slice none 0 0) := (jC BK377.out 1).trans rfl
      have hfz36_0 := jF BK377.out 0
      have hfz36_1 := jF BK377.out 1
      go_wp2
      go_meet
      case rel => exact ⟨_, (((t365.length : Int) != (t373.length : Int))), tZ, H', ⟨by first | omega | exact Nat.le_refl _⟩, ⟨by (with_reducible repeat (first | apply jn | apply jo | apply jp)); exact Kd.N_mono (Kd.N_far (p := ⟨gb377, 1, none⟩) (Kd.N_far (p := ⟨gb377, 0, none⟩) (Kd.N_mono HO364.out (fun k_ hk => (⟨hk, hk.2⟩ : _ ∧ k_ ≠ gb377))) (fun _ hk => hk.2) (.slice Ao25 t370.length co25)) (fun _ hk => hk.2) (.slice Ao29 t373.length co29)) (fun _ hk => ⟨hk.1.1.1.1.1.1, ⟨hk.1.1.1.2, ⟨hk.1.1.2, ⟨hk.1.1.1.1.1.2, ⟨hk.1.1.1.1.2, hk.1.2⟩⟩⟩⟩⟩)⟩, ⟨by (with_reducible repeat (first | apply jn | apply jo | apply jp)); exact Kd.N_mono (Kd.N_far (p := ⟨gb377, 1, none⟩) (Kd.N_far (p := ⟨gb377, 0, none⟩) (Kd.N_mono HO367.out (fun k_ hk => (⟨hk, hk.2⟩ : _ ∧ k_ ≠ gb377))) (fun _ hk => hk.2) (.slice Ao25 t370.length co25)) (fun _ hk => hk.2) (.slice Ao29 t373.length co29)) (fun _ hk => ⟨hk.1.1.1.1.1.1, ⟨hk.1.1.1.2, ⟨hk.1.1.2, ⟨hk.1.1.1.1.1.2, ⟨hk.1.1.1.1.2, hk.1.2⟩⟩⟩⟩⟩)⟩, ⟨by (with_reducible repeat (first | apply jn | apply jo | apply jp)); exact Kd.N_mono (Kd.N_far (p := ⟨gb377, 1, none⟩) (Kd.N_far (p := ⟨gb377, 0, none⟩) (Kd.N_mono HO372.out (fun k_ hk => (⟨hk, hk.2⟩ : _ ∧ k_ ≠ gb377))) (fun _ hk => hk.2) (.slice Ao25 t370.length co25)) (fun _ hk => hk.2) (.slice Ao29 t373.length co29)) (fun _ hk => ⟨hk.1.1.2.1, ⟨hk.1.1.2.2.1, ⟨hk.1.1.1, ⟨hk.1.1.2.2.2.1, ⟨hk.1.1.2.2.2.2, hk.1.2⟩⟩⟩⟩⟩)⟩, ⟨by (with_reducible repeat (first | apply jn | apply jo | apply jp)); exact Kd.N_mono (Kd.N_far (p := ⟨gb377, 1, none⟩) (Kd.N_far (p := ⟨gb377, 0, none⟩) (Kd.N_mono HO375.out (fun k_ hk => (⟨hk, hk.2⟩ : _ ∧ k_ ≠ gb377))) (fun _ hk => hk.2) (.slice Ao25 t370.length co25)) (fun _ hk => hk.2) (.slice Ao29 t373.length co29)) (fun _ hk => ⟨hk.1.1.2.1, ⟨hk.1.1.2.2.1, ⟨hk.1.1.1, ⟨hk.1.1.2.2.2.1, ⟨hk.1.1.2.2.2.2, hk.1.2⟩⟩⟩⟩⟩)⟩, ⟨by (with_reducible repeat (first | refine jY ?_ _ | refine jZ ?_ | refine jX ?_ _)); refine blk_far ?_ NB359_377.out _; (with_reducible repeat (first | refine jY ?_ _ | refine jZ ?_ | refine jX ?_ _)); refine blk_far ?_ NB359_377.out _; (with_reducible repeat (first | refine jY ?_ _ | refine jZ ?_ | refine jX ?_ _)); exact BK359.out⟩, ⟨by (with_reducible repeat (first | refine jY ?_ _ | refine jZ ?_ | refine jX ?_ _)); refine blk_far ?_ NB369_377.out _; (with_reducible repeat (first | refine jY ?_ _ | refine jZ ?_ | refine jX ?_ _)); refine blk_far ?_ NB369_377.out _; (with_reducible repeat (first | refine jY ?_ _ | refine jZ ?_ | refine jX ?_ _)); exact BK369.out⟩, ⟨by (with_reducible repeat (first | refine jY ?_ _ | refine jZ ?_ | refine jX ?_ _)); refine blk_put (cs := #[.slice Ao25 t370.length co25, .slice none 0 0]) ?_ 1 _ rfl; (with_reducible repeat (first | refine jY ?_ _ | refine jZ ?_ | refine jX ?_ _)); refine blk_put (cs := #[.slice none 0 0, .slice none 0 0]) ?_ 0 _ rfl; (with_reducible repeat (first | refine jY ?_ _ | refine jZ ?_ | refine jX ?_ _)); exact BK377.out⟩, ⟨by repeat (first | (with_reducible first | exact HB.out | apply jA | apply jN | apply jD | refine jS ?_ GE359.out | refine jS ?_ GE369.out | refine jS ?_ GE377.out) | exact HB.out)⟩⟩
     ·rw [if_neg c31] at H
      have c31b0 : ((t362.length : Int) == (t370.length : Int)) = false := beq_eq_false_iff_ne.mpr c31
      have c31b1 : ((t362.length : Int) != (t370.length : Int)) = true := bne_iff_ne.mpr c31
      have c31b2 : (t362.length == t370.length) = false := by first | simpa using c31 | (simp at c31 ⊢; omega)
      have H' := jM H
      clear H
      have hnb37 := NB369_359.out
      have hnc37 := NB359_369.out
      have hnb38 := NB369_377.out
      have hnc38 := NB377_369.out
      have hcz39_0 : w24.cell? ⟨gb369, 0, none⟩ = some (.slice Ao18 t362.length co18) := (jC BK369.out 0).trans rfl
      have hcz39_1 : w24.cell? ⟨gb369, 1, none⟩ = some (.slice Ao21 t365.length co21) := (jC BK369.out 1).trans rfl
      have hfz39_0 := jF BK369.out 0
      have hfz39_1 := jF BK369.out 1
      have hnb40 := NB377_359.out
      have hnc40 := NB359_377.out
      have hcz41_0 : w24.cell? ⟨gb377, 0, none⟩ = some (.slice none 0 0) := (jC BK377.out 0).trans rfl
      have hcz41_1 : w24.cell? ⟨gb377, 1, none⟩ = some (.slice none 0 0) := (jC BK377.out 1).trans rfl
      have hfz41_0 := jF BK377.out 0
      have hfz41_1 := jF BK377.out 1
      go_wp2
      go_meet
      case rel => exact ⟨_, (true), tZ, H', ⟨by first | omega | exact Nat.le_refl _⟩, ⟨by (with_reducible repeat (first | apply jn | apply jo | apply jp)); exact Kd.N_mono (Kd.N_far (p := ⟨gb377, 1, none⟩) (Kd.N_far (p := ⟨gb377, 0, none⟩) (Kd.N_mono HO364.out (fun k_ hk => (⟨hk, hk.2⟩ : _ ∧ k_ ≠ gb377))) (fun _ hk => hk.2) (.slice Ao25 t370.length co25)) (fun _ hk => hk.2) (.slice Ao29 t373.length co29)) (fun _ hk => ⟨hk.1.1.1.1.1.1, ⟨hk.1.1.1.2, ⟨hk.1.1.2, ⟨hk.1.1.1.1.1.2, ⟨hk.1.1.1.1.2, hk.1.2⟩⟩⟩⟩⟩)⟩, ⟨by (with_reducible repeat (first | apply jn | apply jo | apply jp)); exact Kd.N_mono (Kd.N_far (p := ⟨gb377, 1, none⟩) (Kd.N_far (p := ⟨gb377, 0, none⟩) (Kd.N_mono HO367.out (fun k_ hk => (⟨hk, hk.2⟩ : _ ∧ k_ ≠ gb377))) (fun _ hk => hk.2) (.slice Ao25 t370.length co25)) (fun _ hk => hk.2) (.slice Ao29 t373.length co29)) (fun _ hk => ⟨hk.1.1.1.1.1.1, ⟨hk.1.1.1.2, ⟨hk.1.1.2, ⟨hk.1.1.1.1.1.2, ⟨hk.1.1.1.1.2, hk.1.2⟩⟩⟩⟩⟩)⟩, ⟨by (with_reducible repeat (first | apply jn | apply jo | apply jp)); exact Kd.N_mono (Kd.N_far (p := ⟨gb377, 1, none⟩) (Kd.N_far (p := ⟨gb377, 0, none⟩) (Kd.N_mono HO372.out (fun k_ hk => (⟨hk, hk.2⟩ : _ ∧ k_ ≠ gb377))) (fun _ hk => hk.2) (.slice Ao25 t370.length co25)) (fun _ hk => hk.2) (.slice Ao29 t373.length co29)) (fun _ hk => ⟨hk.1.1.2.1, ⟨hk.1.1.2.2.1, ⟨hk.1.1.1, ⟨hk.1.1.2.2.2.1, ⟨hk.1.1.2.2.2.2, hk.1.2⟩⟩⟩⟩⟩)⟩, ⟨by (with_reducible repeat (first | apply jn | apply jo | apply jp)); exact Kd.N_mono (Kd.N_far (p := ⟨gb377, 1, none⟩) (Kd.N_far (p := ⟨gb377, 0, none⟩) (Kd.N_mono HO375.out (fun k_ hk => (⟨hk, hk.2⟩ : _ ∧ k_ ≠ gb377))) (fun _ hk => hk.2) (.slice Ao25 t370.length co25)) (fun _ hk => hk.2) (.slice Ao29 t373.length co29)) (fun _ hk => ⟨hk.1.1.2.1, ⟨hk.1.1.2.2.1, ⟨hk.1.1.1, ⟨hk.1.1.2.2.2.1, ⟨hk.1.1.2.2.2.2, hk.1.2⟩⟩⟩⟩⟩)⟩, ⟨by (with_reducible repeat (first | refine jY ?_ _ | refine jZ ?_ | refine jX ?_ _)); refine blk_far ?_ NB359_377.out _; (with_reducible repeat (first | refine jY ?_ _ | refine jZ ?_ | refine jX ?_ _)); refine blk_far ?_ NB359_377.out _; (with_reducible repeat (first | refine jY ?_ _ | refine jZ ?_ | refine jX ?_ _)); exact BK359.out⟩, ⟨by (with_reducible repeat (first | refine jY ?_ _ | refine jZ ?_ | refine jX ?_ _)); refine blk_far ?_ NB369_377.out _; (with_reducible repeat (first | refine jY ?_ _ | refine jZ ?_ | refine jX ?_ _)); refine blk_far ?_ NB369_377.out _; (with_reducible repeat (first | refine jY ?_ _ | refine jZ ?_ | refine jX ?_ _)); exact BK369.out⟩, ⟨by (with_reducible repeat (first | refine jY ?_ _ | refine jZ ?_ | refine jX ?_ _)); refine blk_put (cs := #[.slice Ao25 t370.length co25, .slice none 0 0]) ?_ 1 _ rfl; (with_reducible repeat (first | refine jY ?_ _ | refine jZ ?_ | refine jX ?_ _)); refine blk_put (cs := #[.slice none 0 0, .slice none 0 0]) ?_ 0 _ rfl; (with_reducible repeat (first | refine jY ?_ _ | refine jZ ?_ | refine jX ?_ _)); exact BK377.out⟩, ⟨by repeat (first | (with_reducible first | exact HB.out | apply jA | apply jN | apply jD | refine jS ?_ GE359.out | refine jS ?_ GE369.out | refine jS ?_ GE377.out) | exact HB.out)⟩⟩
    ·rw [if_neg c30] at H
     have c30b0 : (t368 == t376) = false := beq_eq_false_iff_ne.mpr c30
     have c30b1 : (t368 != t376) = true := bne_iff_ne.mpr c30
     (first | rw [c30b0] | (simp only [i64_w, i32_w]; rw [c30b0]) | skip)
     have H' := jM H
     clear H
     go_wp2
     go_meet
     case rel => exact ⟨_, (true), tZ, H', ⟨by first | omega | exact Nat.le_refl _⟩, ⟨by (with_reducible repeat (first | apply jn | apply jo | apply jp)); exact Kd.N_mono (Kd.N_far (p := ⟨gb377, 1, none⟩) (Kd.N_far (p := ⟨gb377, 0, none⟩) (Kd.N_mono HO364.out (fun k_ hk => (⟨hk, hk.2⟩ : _ ∧ k_ ≠ gb377))) (fun _ hk => hk.2) (.slice Ao25 t370.length co25)) (fun _ hk => hk.2) (.slice Ao29 t373.length co29)) (fun _ hk => ⟨hk.1.1.1.1.1.1, ⟨hk.1.1.1.2, ⟨hk.1.1.2, ⟨hk.1.1.1.1.1.2, ⟨hk.1.1.1.1.2, hk.1.2⟩⟩⟩⟩⟩)⟩, ⟨by (with_reducible repeat (first | apply jn | apply jo | apply jp)); exact Kd.N_mono (Kd.N_far (p := ⟨gb377, 1, none⟩) (Kd.N_far (p := ⟨gb377, 0, none⟩) (Kd.N_mono HO367.out (fun k_ hk => (⟨hk, hk.2⟩ : _ ∧ k_ ≠ gb377))) (fun _ hk => hk.2) (.slice Ao25 t370.length co25)) (fun _ hk => hk.2) (.slice Ao29 t373.length co29)) (fun _ hk => ⟨hk.1.1.1.1.1.1, ⟨hk.1.1.1.2, ⟨hk.1.1.2, ⟨hk.1.1.1.1.1.2, ⟨hk.1.1.1.1.2, hk.1.2⟩⟩⟩⟩⟩)⟩, ⟨by (with_reducible repeat (first | apply jn | apply jo | apply jp)); exact Kd.N_mono (Kd.N_far (p := ⟨gb377, 1, none⟩) (Kd.N_far (p := ⟨gb377, 0, none⟩) (Kd.N_mono HO372.out (fun k_ hk => (⟨hk, hk.2⟩ : _ ∧ k_ ≠ gb377))) (fun _ hk => hk.2) (.slice Ao25 t370.length co25)) (fun _ hk => hk.2) (.slice Ao29 t373.length co29)) (fun _ hk => ⟨hk.1.1.2.1, ⟨hk.1.1.2.2.1, ⟨hk.1.1.1, ⟨hk.1.1.2.2.2.1, ⟨hk.1.1.2.2.2.2, hk.1.2⟩⟩⟩⟩⟩)⟩, ⟨by (with_reducible repeat (first | apply jn | apply jo | apply jp)); exact Kd.N_mono (Kd.N_far (p := ⟨gb377, 1, none⟩) (Kd.N_far (p := ⟨gb377, 0, none⟩) (Kd.N_mono HO375.out (fun k_ hk => (⟨hk, hk.2⟩ : _ ∧ k_ ≠ gb377))) (fun _ hk => hk.2) (.slice Ao25 t370.length co25)) (fun _ hk => hk.2) (.slice Ao29 t373.length co29)) (fun _ hk => ⟨hk.1.1.2.1, ⟨hk.1.1.2.2.1, ⟨hk.1.1.1, ⟨hk.1.1.2.2.2.1, ⟨hk.1.1.2.2.2.2, hk.1.2⟩⟩⟩⟩⟩)⟩, ⟨by (with_reducible repeat (first | refine jY ?_ _ | refine jZ ?_ | refine jX ?_ _)); refine blk_far ?_ NB359_377.out _; (with_reducible repeat (first | refine jY ?_ _ | refine jZ ?_ | refine jX ?_ _)); refine blk_far ?_ NB359_377.out _; (with_reducible repeat (first | refine jY ?_ _ | refine jZ ?_ | refine jX ?_ _)); exact BK359.out⟩, ⟨by (with_reducible repeat (first | refine jY ?_ _ | refine jZ ?_ | refine jX ?_ _)); refine blk_far ?_ NB369_377.out _; (with_reducible repeat (first | refine jY ?_ _ | refine jZ ?_ | refine jX ?_ _)); refine blk_far ?_ NB369_377.out _; (with_reducible repeat (first | refine jY ?_ _ | refine jZ ?_ | refine jX ?_ _)); exact BK369.out⟩, ⟨by (with_reducible repeat (first | refine jY ?_ _ | refine jZ ?_ | refine jX ?_ _)); refine blk_put (cs := #[.slice Ao25 t370.length co25, .slice none 0 0]) ?_ 1 _ rfl; (with_reducible repeat (first | refine jY ?_ _ | refine jZ ?_ | refine jX ?_ _)); refine blk_put (cs := #[.slice none 0 0, .slice none 0 0]) ?_ 0 _ rfl; (with_reducible repeat (first | refine jY ?_ _ | refine jZ ?_ | refine jX ?_ _)); exact BK377.out⟩, ⟨by repeat (first | (with_reducible first | exact HB.out | apply jA | apply jN | apply jD | refine jS ?_ GE359.out | refine jS ?_ GE369.out | refine jS ?_ GE377.out) | exact HB.out)⟩⟩
   case rest =>
    clear HC10
    try clear c1
    try clear c2
    try clear p2
    try clear c3
    try clear c4
    try clear c5
    try clear c7
    try clear c12
    try clear c19
    try clear c22
    try clear c23
    try clear c24
    try clear c26
    try clear c27
    try clear c30
    try clear c30b0
    try clear c30b1
    try clear c31
    try clear c31b0
    try clear c31b1
    try clear c31b2
    try clear c32
    try clear c33
    try clear c35
    try clear c37
    try clear c38
    try clear c40
    try clear hcz13_0
    try clear hcz13_1
    try clear hcz13_2
    try clear hcz13_3
    try clear hcz13_4
    try clear hcz15_0
    try clear hcz15_1
    try clear hcz15_2
    try clear hcz15_3
    try clear hcz15_4
    try clear hcz20_0
    try clear hcz20_1
    try clear hcz22_0
    try clear hcz22_1
    try clear hcz22_2
    try clear hcz22_3
    try clear hcz22_4
    try clear hcz28_0
    try clear hcz28_1
    try clear hcz34_0
    try clear hcz34_1
    try clear hcz36_0
    try clear hcz36_1
    try clear hcz39_0
    try clear hcz39_1
    try clear hcz41_0
    try clear hcz41_1
    try clear hfz13_0
    try clear hfz13_1
    try clear hfz13_2
    try clear hfz13_3
    try clear hfz13_4
    try clear hfz15_0
    try clear hfz15_1
    try clear hfz15_2
    try clear hfz15_3
    try clear hfz15_4
    try clear hfz20_0
    try clear hfz20_1
    try clear hfz22_0
    try clear hfz22_1
    try clear hfz22_2
    try clear hfz22_3
    try clear hfz22_4
    try clear hfz28_0
    try clear hfz28_1
    try clear hfz34_0
    try clear hfz34_1
    try clear hfz36_0
    try clear hfz36_1
    try clear hfz39_0
    try clear hfz39_1
    try clear hfz41_0
    try clear hfz41_1
    obtain ⟨kq, x53_9, rfl, HA, HJ9, HO_370000, HO_370001, HO_378000, HO_378001, BK359, BK369, BK377, HB⟩ := hcut
    cases kq with
    | zero => exact absurd HA.out (by simp [sl14_StatesBuild.j0])
    | succ kj9 =>
     have H := HA.out
     clear HA
     simp only [sl14_StatesBuild.j0] at H
     by_cases c42 : x53_9 = true
     ·subst c42
      have H1 : (some false) = some r := by rw [if_pos rfl] at H; exact H
      clear H
      have H := H1
      clear H1
      exact absurd ((Option.some.inj H).trans HT.out) (by decide)
     ·replace c42 := Bool.eq_false_iff.mpr c42
      subst c42
      have H1 : (sl14_StatesBuild.l0 kj9 a1 a2 true 0 l0_0 l0_1 l0_2 l0_3 a0_4 t362 t365 t370 t373) = some r := by rw [if_neg (show ¬ (false = true) by decide)] at H; exact H
      clear H
      have H := H1
      clear H1
      have H' := jM H
      clear H
      go_wp2
      go_loopg [13] kj9 (fun kq v13 w' => ∃ (x13_2 : Int), v13 = .int .i64 x13_2 ∧ Aside0 (sl14_StatesBuild.l0 kq a1 a2 true x13_2 l0_0 l0_1 l0_2 l0_3 a0_4 t362 t365 t370 t373 = some r) ∧ Aside0 (kq ≤ kj9) ∧ Aside0 (Kd.N (Kd.slice 37 k37) 28 w' w.heap.size (fun k_ => some k_ ≠ ((.slice Ao21 t365.length co21) : Value).ownBlock ∧ some k_ ≠ ((.slice Ao25 t370.length co25) : Value).ownBlock ∧ some k_ ≠ ((.slice Ao29 t373.length co29) : Value).ownBlock ∧ k_ ≠ gb359 ∧ k_ ≠ gb369 ∧ k_ ≠ gb377) (.slice Ao18 t362.length co18) t362) ∧ Aside0 (Kd.N (Kd.slice 3 (Kd.int .i64)) 58 w' w.heap.size (fun k_ => some k_ ≠ ((.slice Ao18 t362.length co18) : Value).ownBlock ∧ some k_ ≠ ((.slice Ao25 t370.length co25) : Value).ownBlock ∧ some k_ ≠ ((.slice Ao29 t373.length co29) : Value).ownBlock ∧ k_ ≠ gb359 ∧ k_ ≠ gb369 ∧ k_ ≠ gb377) (.slice Ao21 t365.length co21) t365) ∧ Aside0 (Kd.N (Kd.slice 39 k39) 32 w' w.heap.size (fun k_ => some k_ ≠ ((.slice Ao18 t362.length co18) : Value).ownBlock ∧ some k_ ≠ ((.slice Ao21 t365.length co21) : Value).ownBlock ∧ some k_ ≠ ((.slice Ao29 t373.length co29) : Value).ownBlock ∧ k_ ≠ gb359 ∧ k_ ≠ gb369 ∧ k_ ≠ gb377) (.slice Ao25 t370.length co25) t370) ∧ Aside0 (Kd.N (Kd.slice 3 (Kd.int .i64)) 58 w' w.heap.size (fun k_ => some k_ ≠ ((.slice Ao18 t362.length co18) : Value).ownBlock ∧ some k_ ≠ ((.slice Ao21 t365.length co21) : Value).ownBlock ∧ some k_ ≠ ((.slice Ao25 t370.length co25) : Value).ownBlock ∧ k_ ≠ gb359 ∧ k_ ≠ gb369 ∧ k_ ≠ gb377) (.slice Ao29 t373.length co29) t373) ∧ Aside0 (w'.heap[gb359]? = some (.cells #[(.slice A0_0 l0_0.length c0_0), (.slice A0_1 l0_1.length c0_1), (.slice A0_2 l0_2.length c0_2), (.slice A0_3 l0_3.length c0_3), .int .i64 a0_4] 27 (0, 0))) ∧ Aside0 (w'.heap[gb369]? = some (.cells #[(.slice Ao18 t362.length co18), (.slice Ao21 t365.length co21)] 49 (0, 0))) ∧ Aside0 (w'.heap[gb377]? = some (.cells #[(.slice Ao25 t370.length co25), (.slice Ao29 t373.length co29)] 55 (0, 0))) ∧ Aside0 (Below w.heap.size w w'))
      case atStart => exact ⟨(0), tZ, H', ⟨Nat.le_refl _⟩, ⟨tN HO_370000.out⟩, ⟨tN HO_370001.out⟩, ⟨tN HO_378000.out⟩, ⟨tN HO_378001.out⟩, ⟨tK BK359.out⟩, ⟨tK BK369.out⟩, ⟨tK BK377.out⟩, ⟨by repeat (first | (with_reducible first | exact HB.out | apply jA | apply jN | apply jD | refine jS ?_ GE359.out | refine jS ?_ GE369.out | refine jS ?_ GE377.out) | exact HB.out)⟩⟩
      case round =>
       clear H'
       try clear c1
       try clear c2
       try clear p2
       try clear c3
       try clear c4
       try clear c5
       try clear c7
       try clear c12
       try clear c19
       try clear c22
       try clear c23
       try clear c24
       try clear c26
       try clear c27
       try clear c30
       try clear c30b0
       try clear c30b1
       try clear c31
       try clear c31b0
       try clear c31b1
       try clear c31b2
       try clear c32
       try clear c33
       try clear c35
       try clear c37
       try clear c38
       try clear c40
       try clear c42
       try clear hcz13_0
       try clear hcz13_1
       try clear hcz13_2
       try clear hcz13_3
       try clear hcz13_4
       try clear hcz15_0
       try clear hcz15_1
       try clear hcz15_2
       try clear hcz15_3
       try clear hcz15_4
       try clear hcz20_0
       try clear hcz20_1
       try clear hcz22_0
       try clear hcz22_1
       try clear hcz22_2
       try clear hcz22_3
       try clear hcz22_4
       try clear hcz28_0
       try clear hcz28_1
       try clear hcz34_0
       try clear hcz34_1
       try clear hcz36_0
       try clear hcz36_1
       try clear hcz39_0
       try clear hcz39_1
       try clear hcz41_0
       try clear hcz41_1
       try clear hfz13_0
       try clear hfz13_1
       try clear hfz13_2
       try clear hfz13_3
       try clear hfz13_4
       try clear hfz15_0
       try clear hfz15_1
       try clear hfz15_2
       try clear hfz15_3
       try clear hfz15_4
       try clear hfz20_0
       try clear hfz20_1
       try clear hfz22_0
       try clear hfz22_1
       try clear hfz22_2
       try clear hfz22_3
       try clear hfz22_4
       try clear hfz28_0
       try clear hfz28_1
       try clear hfz34_0
       try clear hfz34_1
       try clear hfz36_0
       try clear hfz36_1
       try clear hfz39_0
       try clear hfz39_1
       try clear hfz41_0
       try clear hfz41_1
       try clear p2
       obtain ⟨x13_2, rfl, HA, HK2, HO_370000, HO_370001, HO_378000, HO_378001, BK359, BK369, BK377, HB⟩ := hrel
       cases gk with
       | zero => exact absurd HA.out (by simp [sl14_StatesBuild.l0])
       | succ k2 =>
        have H := HA.out
        clear HA
        simp only [sl14_StatesBuild.l0] at H
        by_cases c43 : x13_2 < (t362.length : Int)
        ·rw [if_pos c43] at H
         have c43b0 : decide (x13_2 < (t362.length : Int)) = true := decide_eq_true c43
         clear c43
         have HC44 := jM H
         clear H
         have hnb45 := NB369_359.out
         have hnc45 := NB359_369.out
         have hnb46 := NB369_377.out
         have hnc46 := NB377_369.out
         have hcz47_0 : wr.cell? ⟨gb369, 0, none⟩ = some (.slice Ao18 t362.length co18) := (jC BK369.out 0).trans rfl
         have hcz47_1 : wr.cell? ⟨gb369, 1, none⟩ = some (.slice Ao21 t365.length co21) := (jC BK369.out 1).trans rfl
         have hfz47_0 := jF BK369.out 0
         have hfz47_1 := jF BK369.out 1
         go_upto_region 14 with (fail)
         go_cut [88] (fun v88 wc => ∃ (kq : Nat) (x88_43 : Bool), v88 = .bool x88_43 ∧ Aside0 (sl14_StatesBuild.j2 kq a1 a2 true x13_2 x88_43 l0_0 l0_1 l0_2 l0_3 a0_4 t362 t365 t370 t373 = some r) ∧ Aside0 (kq ≤ k2) ∧ Aside0 (Kd.N (Kd.slice 37 k37) 28 wc w.heap.size (fun k_ => some k_ ≠ ((.slice Ao21 t365.length co21) : Value).ownBlock ∧ some k_ ≠ ((.slice Ao25 t370.length co25) : Value).ownBlock ∧ some k_ ≠ ((.slice Ao29 t373.length co29) : Value).ownBlock ∧ k_ ≠ gb359 ∧ k_ ≠ gb369 ∧ k_ ≠ gb377) (.slice Ao18 t362.length co18) t362) ∧ Aside0 (Kd.N (Kd.slice 3 (Kd.int .i64)) 58 wc w.heap.size (fun k_ => some k_ ≠ ((.slice Ao18 t362.length co18) : Value).ownBlock ∧ some k_ ≠ ((.slice Ao25 t370.length co25) : Value).ownBlock ∧ some k_ ≠ ((.slice Ao29 t373.length co29) : Value).ownBlock ∧ k_ ≠ gb359 ∧ k_ ≠ gb369 ∧ k_ ≠ gb377) (.slice Ao21 t365.length co21) t365) ∧ Aside0 (Kd.N (Kd.slice 39 k39) 32 wc w.heap.size (fun k_ => some k_ ≠ ((.slice Ao18 t362.length co18) : Value).ownBlock ∧ some k_ ≠ ((.slice Ao21 t365.length co21) : Value).ownBlock ∧ some k_ ≠ ((.slice Ao29 t373.length co29) : Value).ownBlock ∧ k_ ≠ gb359 ∧ k_ ≠ gb369 ∧ k_ ≠ gb377) (.slice Ao25 t370.length co25) t370) ∧ Aside0 (Kd.N (Kd.slice 3 (Kd.int .i64)) 58 wc w.heap.size (fun k_ => some k_ ≠ ((.slice Ao18 t362.length co18) : Value).ownBlock ∧ some k_ ≠ ((.slice Ao21 t365.length co21) : Value).ownBlock ∧ some k_ ≠ ((.slice Ao25 t370.length co25) : Value).ownBlock ∧ k_ ≠ gb359 ∧ k_ ≠ gb369 ∧ k_ ≠ gb377) (.slice Ao29 t373.length co29) t373) ∧ Aside0 (wc.heap[gb359]? = some (.cells #[(.slice A0_0 l0_0.length c0_0), (.slice A0_1 l0_1.length c0_1), (.slice A0_2 l0_2.length c0_2), (.slice A0_3 l0_3.length c0_3), .int .i64 a0_4] 27 (0, 0))) ∧ Aside0 (wc.heap[gb369]? = some (.cells #[(.slice Ao18 t362.length co18), (.slice Ao21 t365.length co21)] 49 (0, 0))) ∧ Aside0 (wc.heap[gb377]? = some (.cells #[(.slice Ao25 t370.length co25), (.slice Ao29 t373.length co29)] 55 (0, 0))) ∧ Aside0 (Below w.heap.size w wc))
         case first =>
          have H := HC44.out
          clear HC44
          by_cases c48 : 0 ≤ x13_2
          ·rw [if_pos c48] at H
           have c48b0 : decide (0 ≤ x13_2) = true := decide_eq_true c48
           clear c48
           (first | rw [c48b0] | (simp only [i64_w, i32_w]; rw [c48b0]) | skip)
           replace H := Option.bind_eq_some_iff.mp H
           obtain ⟨t381, A490, H⟩ := H
           replace H : (if x13_2 < (t370.length : Int) then ((sr14_Row.f k2 t381 (rd_L21 t370 x13_2)).bind fun t385 => (if t385 = true then (if x13_2 < (t365.length : Int) then (if x13_2 < (t373.length : Int) then (sl14_StatesBuild.j2 k2 a1 a2 true x13_2 (((rd_L17 t365 x13_2).length : Int) != ((rd_L17 t373 x13_2).length : Int)) l0_0 l0_1 l0_2 l0_3 a0_4 t362 t365 t370 t373) else (none)) else (none)) else (sl14_StatesBuild.j2 k2 a1 a2 true x13_2 true l0_0 l0_1 l0_2 l0_3 a0_4 t362 t365 t370 t373))) else (none)) = some r := H
           have A49 := jM A490
           clear A490
           by_cases c50 : x13_2 < (t370.length : Int)
           ·rw [if_pos c50] at H
            have c50b0 : decide (x13_2 < (t370.length : Int)) = true := decide_eq_true c50
            clear c50
            replace H := Option.bind_eq_some_iff.mp H
            obtain ⟨t385, A510, H⟩ := H
            replace H : (if t385 = true then (if x13_2 < (t365.length : Int) then (if x13_2 < (t373.length : Int) then (sl14_StatesBuild.j2 k2 a1 a2 true x13_2 (((rd_L17 t365 x13_2).length : Int) != ((rd_L17 t373 x13_2).length : Int)) l0_0 l0_1 l0_2 l0_3 a0_4 t362 t365 t370 t373) else (none)) else (none)) else (sl14_StatesBuild.j2 k2 a1 a2 true x13_2 true l0_0 l0_1 l0_2 l0_3 a0_4 t362 t365 t370 t373)) = some r := H
            have A51 := jM A510
            clear A510
            by_cases c52 : t385 = true
            ·subst c52
             have H1 : (if x13_2 < (t365.length : Int) then (if x13_2 < (t373.length : Int) then (sl14_StatesBuild.j2 k2 a1 a2 true x13_2 (((rd_L17 t365 x13_2).length : Int) != ((rd_L17 t373 x13_2).length : Int)) l0_0 l0_1 l0_2 l0_3 a0_4 t362 t365 t370 t373) else (none)) else (none)) = some r := by rw [if_pos rfl] at H; exact H
             clear H
             have H := H1
             clear H1
             by_cases c53 : x13_2 < (t365.length : Int)
             ·rw [if_pos c53] at H
              have c53b0 : decide (x13_2 < (t365.length : Int)) = true := decide_eq_true c53
              clear c53
              by_cases c54 : x13_2 < (t373.length : Int)
              ·rw [if_pos c54] at H
               have c54b0 : decide (x13_2 < (t373.length : Int)) = true := decide_eq_true c54
               clear c54
               have H' := jM H
               clear H
               try go_wp2
               have n0_ := jM (jp HO_370000.out)
               have n1_ := jM (jp HO_370001.out)
               have n2_ := jM (jp HO_378000.out)
               have n3_ := jM (jp HO_378001.out)
               have n4_ := jM (jZ BK359.out)
               have n5_ := jM (jZ BK369.out)
               have n6_ := jM (jZ BK377.out)
               have n7_ := jM (jD HB.out)
               clear HO_370000 HO_370001 HO_378000 HO_378001 BK359 BK369 BK377 HB
               have HO_370000 := n0_
               have HO_370001 := n1_
               have HO_378000 := n2_
               have HO_378001 := n3_
               have BK359 := n4_
               have BK369 := n5_
               have BK377 := n6_
               have HB := n7_
               clear n0_ n1_ n2_ n3_ n4_ n5_ n6_ n7_
               have p380 : 0 ≤ (x13_2 : Int) := of_decide_eq_true tD
               have q380 : x13_2 < (t362.length : Int) := of_decide_eq_true tD
               obtain ⟨ad380, A380_0, c380_0, e380, hx380_0, hl380_0, hi380_0⟩ := at_L15 (Kd.N_reads' HO_370000.out).2.2 x13_2 p380 q380
               cases e380
               obtain ⟨ce380, hce380, hMe380, hcc380⟩ := Kd.N_get HO_370000.out [] x13_2 p380 (by first | exact q380 | exact of_decide_eq_true tD | (have e_ := (Kd.N_reads' HO_370000.out).1; omega))
               obtain ⟨ua380_0, uc380_0, rfl, ul380_0, ge380_0⟩ := Kd.FK_slice_open hMe380
               have hv380_0 := hcc380 0 _ rfl
               rw [Nat.add_zero, show ((Kd.slice 37 k37)).sz = 1 from rfl, Nat.mul_one] at hv380_0
               replace hv380_0 := Option.some.inj (hv380_0.symm.trans hx380_0)
               injection hv380_0 with hva_ hvn_ hvc_
               rw [hva_] at ge380_0
               rw [hvc_] at ul380_0
               have HL380_0 := jM (show Kd.V k37 37 _ w.heap.size _ _ (rd_L15 t362 x13_2) from Kd.V_mk ul380_0 ge380_0)
               clear hva_ hvn_ hvc_ ge380_0 ul380_0 hcc380 hce380
               have HR380_0 := jM hi380_0
               have HC380_0 := jM hl380_0
               clear hi380_0 hl380_0
               replace p380 := eq_true p380
               replace q380 := eq_true q380
               have p384 : 0 ≤ (x13_2 : Int) := of_decide_eq_true tD
               have q384 : x13_2 < (t370.length : Int) := of_decide_eq_true tD
               obtain ⟨ad384, A384_0, c384_0, e384, hx384_0, hl384_0, hi384_0⟩ := at_L21 (Kd.N_reads' HO_378000.out).2.2 x13_2 p384 q384
               cases e384
               obtain ⟨ce384, hce384, hMe384, hcc384⟩ := Kd.N_get HO_378000.out [] x13_2 p384 (by first | exact q384 | exact of_decide_eq_true tD | (have e_ := (Kd.N_reads' HO_378000.out).1; omega))
               obtain ⟨ua384_0, uc384_0, rfl, ul384_0, ge384_0⟩ := Kd.FK_slice_open hMe384
               have hv384_0 := hcc384 0 _ rfl
               rw [Nat.add_zero, show ((Kd.slice 39 k39)).sz = 1 from rfl, Nat.mul_one] at hv384_0
               replace hv384_0 := Option.some.inj (hv384_0.symm.trans hx384_0)
               injection hv384_0 with hva_ hvn_ hvc_
               rw [hva_] at ge384_0
               rw [hvc_] at ul384_0
               have HL384_0 := jM (show Kd.V k39 39 _ w.heap.size _ _ (rd_L21 t370 x13_2) from Kd.V_mk ul384_0 ge384_0)
               clear hva_ hvn_ hvc_ ge384_0 ul384_0 hcc384 hce384
               have HR384_0 := jM hi384_0
               have HC384_0 := jM hl384_0
               clear hi384_0 hl384_0
               replace p384 := eq_true p384
               replace q384 := eq_true q384
               have p386 : 0 ≤ (x13_2 : Int) := of_decide_eq_true tD
               have q386 : x13_2 < (t365.length : Int) := of_decide_eq_true tD
               obtain ⟨ad386, A386_0, c386_0, e386, hx386_0, hl386_0, hi386_0⟩ := at_L17 (Kd.N_reads' HO_370001.out).2.2 x13_2 p386 q386
               cases e386
               obtain ⟨ce386, hce386, hMe386, hcc386⟩ := Kd.N_get HO_370001.out [] x13_2 p386 (by first | exact q386 | exact of_decide_eq_true tD | (have e_ := (Kd.N_reads' HO_370001.out).1; omega))
               obtain ⟨ua386_0, uc386_0, rfl, ul386_0, ge386_0⟩ := Kd.FK_slice_open hMe386
               have hv386_0 := hcc386 0 _ rfl
               rw [Nat.add_zero, show ((Kd.slice 3 (Kd.int .i64))).sz = 1 from rfl, Nat.mul_one] at hv386_0
               replace hv386_0 := Option.some.inj (hv386_0.symm.trans hx386_0)
               injection hv386_0 with hva_ hvn_ hvc_
               rw [hva_] at ge386_0
               rw [hvc_] at ul386_0
               have HL386_0 := jM (show Kd.V (Kd.int .i64) 3 _ w.heap.size _ _ (rd_L17 t365 x13_2) from Kd.V_mk ul386_0 ge386_0)
               clear hva_ hvn_ hvc_ ge386_0 ul386_0 hcc386 hce386
               have HR386_0 := jM hi386_0
               have HC386_0 := jM hl386_0
               clear hi386_0 hl386_0
               replace p386 := eq_true p386
               replace q386 := eq_true q386
               have p387 : 0 ≤ (x13_2 : Int) := of_decide_eq_true tD
               have q387 : x13_2 < (t373.length : Int) := of_decide_eq_true tD
               obtain ⟨ad387, A387_0, c387_0, e387, hx387_0, hl387_0, hi387_0⟩ := at_L17 (Kd.N_reads' HO_378001.out).2.2 x13_2 p387 q387
               cases e387
               obtain ⟨ce387, hce387, hMe387, hcc387⟩ := Kd.N_get HO_378001.out [] x13_2 p387 (by first | exact q387 | exact of_decide_eq_true tD | (have e_ := (Kd.N_reads' HO_378001.out).1; omega))
               obtain ⟨ua387_0, uc387_0, rfl, ul387_0, ge387_0⟩ := Kd.FK_slice_open hMe387
               have hv387_0 := hcc387 0 _ rfl
               rw [Nat.add_zero, show ((Kd.slice 3 (Kd.int .i64))).sz = 1 from rfl, Nat.mul_one] at hv387_0
               replace hv387_0 := Option.some.inj (hv387_0.symm.trans hx387_0)
               injection hv387_0 with hva_ hvn_ hvc_
               rw [hva_] at ge387_0
               rw [hvc_] at ul387_0
               have HL387_0 := jM (show Kd.V (Kd.int .i64) 3 _ w.heap.size _ _ (rd_L17 t373 x13_2) from Kd.V_mk ul387_0 ge387_0)
               clear hva_ hvn_ hvc_ ge387_0 ul387_0 hcc387 hce387
               have HR387_0 := jM hi387_0
               have HC387_0 := jM hl387_0
               clear hi387_0 hl387_0
               replace p387 := eq_true p387
               replace q387 := eq_true q387
               refine start_ (n := 28) (S := fun w' => w'.cell? ⟨gb369, 0, none⟩ = some (.slice (some ad380) t362.length co18) ∧ w'.cell? ⟨gb369, 1, none⟩ = some (.slice (some ad386) t365.length co21) ∧ w'.cell? ⟨gb377, 0, none⟩ = some (.slice (some ad384) t370.length co25) ∧ w'.cell? ⟨gb377, 1, none⟩ = some (.slice (some ad387) t373.length co29) ∧ w'.cell? (ad380.add (x13_2).toNat) = some (.slice A380_0 (rd_L15 t362 x13_2).length c380_0) ∧ w'.cell? (ad384.add (x13_2).toNat) = some (.slice A384_0 (rd_L21 t370 x13_2).length c384_0) ∧ w'.cell? (ad386.add (x13_2).toNat) = some (.slice A386_0 (rd_L17 t365 x13_2).length c386_0) ∧ w'.cell? (ad387.add (x13_2).toNat) = some (.slice A387_0 (rd_L17 t373 x13_2).length c387_0)) (ds := []) (tf 0 28) (by kernel_rfl) rfl rfl ⟨(jC BK369.out 0).trans rfl, (jC BK369.out 1).trans rfl, (jC BK377.out 0).trans rfl, (jC BK377.out 1).trans rfl, hx380_0, hx384_0, hx386_0, hx387_0⟩ (fun hHeld => ?_); refine with_tabW sl14_StatesBuild.tab14 sl14_StatesBuild.bits14 (fun HT_ HW_ => ?_)
               generalize wr.drew = w55 at HO_370000 HO_370001 HO_378000 HO_378001 BK359 BK369 BK377 HB HL380_0 HL384_0 HL386_0 HL387_0 HR380_0 HR384_0 HR386_0 HR387_0 hx380_0 hx384_0 hx386_0 hx387_0 hHeld ⊢
               refine pU (i:=0) (N:=some 61) (tf 1 27) HT_ ?_
               refine pU (i:=2) (N:=some 63) #[true, false, true, false, false, false, false, false, false, false, false, false, false, false, false, false, false, false, false, false, false, false, false, false, false, false, false, false] HT_ ?_
               refine pU (i:=6) (N:=some 67) #[true, false, true, false, false, false, true, false, false, false, false, false, false, false, false, false, false, false, false, false, false, false, false, false, false, false, false, false] HT_ ?_
               refine pU (i:=8) (N:=some 69) #[true, false, true, false, false, false, true, false, true, false, false, false, false, false, false, false, false, false, false, false, false, false, false, false, false, false, false, false] HT_ ?_
               refine tU (i:=1) (N:=some 62) #[true, true, true, false, false, false, true, false, true, false, false, false, false, false, false, false, false, false, false, false, false, false, false, false, false, false, false, false] HT_ HW_ hHeld ?_
               refine pU (i:=3) (N:=some 64) #[true, true, true, true, false, false, true, false, true, false, false, false, false, false, false, false, false, false, false, false, false, false, false, false, false, false, false, false] HT_ ?_
               refine tU (i:=4) (N:=some 65) #[true, true, true, true, true, false, true, false, true, false, false, false, false, false, false, false, false, false, false, false, false, false, false, false, false, false, false, false] HT_ HW_ hHeld ?_
               refine tU (i:=7) (N:=some 68) #[true, true, true, true, true, false, true, true, true, false, false, false, false, false, false, false, false, false, false, false, false, false, false, false, false, false, false, false] HT_ HW_ hHeld ?_
               refine pU (i:=9) (N:=some 70) #[true, true, true, true, true, false, true, true, true, true, false, false, false, false, false, false, false, false, false, false, false, false, false, false, false, false, false, false] HT_ ?_
               refine tU (i:=10) (N:=some 71) #[true, true, true, true, true, false, true, true, true, true, true, false, false, false, false, false, false, false, false, false, false, false, false, false, false, false, false, false] HT_ HW_ hHeld ?_
               refine one_ (i := 5) (N := some 66) (tf 11 17) rfl rfl (one_of HT_.out (by kernel_rfl)) (by decide) (fun K hK => ?_)
               refine goes_ Tryd.func14 (by kernel_rfl) rfl #[.slice A380_0 (rd_L15 t362 x13_2).length c380_0] (by rfl) rfl rfl tM ?_
               with_reducible refine (sl14_Row.calls k2 _ _ (rd_L15 t362 x13_2) t381 _ ?side1 ?side2 A49.out).mono ?_
               (case side1 => exact tC (by repeat (first | (with_reducible exact HR380_0.out) | (with_reducible refine Kd.C_alloc ?_ _) | (with_reducible refine Kd.C_drewN ?_ _) | (with_reducible refine Kd.C_drew ?_) | exact HR380_0.out)))
               (case side2 => exact HC380_0.out)
               rintro e w56 ⟨v382, rfl, ho0, hb⟩
               have HS4_ := (hb.cell (jL _ _ (hHeld.2.2.2.2.1))).trans (hHeld.2.2.2.2.1)
               have HS5_ := (hb.cell (jL _ _ (hHeld.2.2.2.2.2.1))).trans (hHeld.2.2.2.2.2.1)
               have HS6_ := (hb.cell (jL _ _ (hHeld.2.2.2.2.2.2.1))).trans (hHeld.2.2.2.2.2.2.1)
               have HS7_ := (hb.cell (jL _ _ (hHeld.2.2.2.2.2.2.2))).trans (hHeld.2.2.2.2.2.2.2)
               refine ⟨_, rfl, ?_⟩
               have n0_ := jM (Kd.N_elder' (tN HO_370000.out) (Kd.R_base ho0) hb)
               have n1_ := jM (Kd.N_elder' (tN HO_370001.out) (Kd.R_base ho0) hb)
               have n2_ := jM (Kd.N_elder' (tN HO_378000.out) (Kd.R_base ho0) hb)
               have n3_ := jM (Kd.N_elder' (tN HO_378001.out) (Kd.R_base ho0) hb)
               have n4_ := jM (Kd.V_elder' (by (with_reducible repeat (first | apply jt | apply ju | apply jv)); exact HL380_0.out) (Kd.R_base ho0) hb)
               have n5_ := jM (Kd.V_elder' (by (with_reducible repeat (first | apply jt | apply ju | apply jv)); exact HL384_0.out) (Kd.R_base ho0) hb)
               have n6_ := jM (Kd.R_lower ho0 (below_size (by repeat (first | (with_reducible first | exact HB.out | apply jA | apply jN | apply jD | refine jS ?_ GE359.out | refine jS ?_ GE369.out | refine jS ?_ GE377.out) | exact HB.out))))
               have n7_ := jM (jW (g := gb359) (o := .cells #[.slice A0_0 l0_0.length c0_0, .slice A0_1 l0_1.length c0_1, .slice A0_2 l0_2.length c0_2, .slice A0_3 l0_3.length c0_3, .int .i64 a0_4] 27 (0, 0)) (tK BK359.out) hb)
               have n8_ := jM (jW (g := gb369) (o := .cells #[.slice (some ad380) t362.length co18, .slice (some ad386) t365.length co21] 49 (0, 0)) (tK BK369.out) hb)
               have n9_ := jM (jW (g := gb377) (o := .cells #[.slice (some ad384) t370.length co25, .slice (some ad387) t373.length co29] 55 (0, 0)) (tK BK377.out) hb)
               have n10_ := jM (jB (by repeat (first | (with_reducible exact HR380_0.out) | (with_reducible refine Kd.C_alloc ?_ _) | (with_reducible refine Kd.C_drewN ?_ _) | (with_reducible refine Kd.C_drew ?_) | exact HR380_0.out)) hb)
               have n11_ := jM (jB (by repeat (first | (with_reducible exact HR384_0.out) | (with_reducible refine Kd.C_alloc ?_ _) | (with_reducible refine Kd.C_drewN ?_ _) | (with_reducible refine Kd.C_drew ?_) | exact HR384_0.out)) hb)
               have n12_ := jM (jT (by repeat (first | (with_reducible first | exact HB.out | apply jA | apply jN | apply jD | refine jS ?_ GE359.out | refine jS ?_ GE369.out | refine jS ?_ GE377.out) | exact HB.out)) hb)
               clear HO_370000 HO_370001 HO_378000 HO_378001 HL380_0 HL384_0 BK359 BK369 BK377 HR380_0 HR384_0 HB
               have HO_370000 := n0_
               have HO_370001 := n1_
               have HO_378000 := n2_
               have HO_378001 := n3_
               have HL380_0 := n4_
               have HL384_0 := n5_
               have HO383 := n6_
               have BK359 := n7_
               have BK369 := n8_
               have BK377 := n9_
               have HR380_0 := n10_
               have HR384_0 := n11_
               have HB := n12_
               clear n0_ n1_ n2_ n3_ n4_ n5_ n6_ n7_ n8_ n9_ n10_ n11_ n12_
               (try clear hb)
               (try clear hb2)
               (try clear hk)
               (try clear hi)
               (try clear ho0)
               obtain ⟨Ao57, co57, eo57⟩ := Kd.R_slice HO383.out
               (first | subst eo57 | (injection eo57 with f1_ f2_ f3_; have f4_ := f1_.symm; have f5_ := f3_.symm; clear f1_ f2_ f3_; subst f4_; subst f5_))
               refine hK.out _ _ ⟨(jC BK369.out 0).trans rfl, (jC BK369.out 1).trans rfl, (jC BK377.out 0).trans rfl, (jC BK377.out 1).trans rfl, HS4_, HS5_, HS6_, HS7_⟩ (fun hHeld => ?_)
               clear hK K
               refine nU (N:=some 66) ?_
               refine one_ (i := 11) (N := some 72) (tf 12 16) rfl rfl (one_of HT_.out (by kernel_rfl)) (by decide) (fun K hK => ?_)
               refine goes_ Tryd.func17 (by kernel_rfl) rfl #[.slice Ao57 t381.length co57, .slice A384_0 (rd_L21 t370 x13_2).length c384_0] (by rfl) rfl rfl tM ?_
               with_reducible refine (sr14_Row.calls k2 _ _ t381 _ _ (rd_L21 t370 x13_2) true _ ?side1 ?side2 ?side3 ?side4 A51.out).mono ?_
               (case side1 => exact tC (Kd.R_reads' HO383.out).2.2)
               (case side2 => exact (Kd.R_reads' HO383.out).2.1)
               (case side3 => exact tC (by repeat (first | (with_reducible exact HR384_0.out) | (with_reducible refine Kd.C_alloc ?_ _) | (with_reducible refine Kd.C_drewN ?_ _) | (with_reducible refine Kd.C_drew ?_) | exact HR384_0.out)))
               (case side4 => exact HC384_0.out)
               rintro e w' ⟨rfl, ⟨nd, rfl⟩⟩
               refine ⟨_, rfl, ?_⟩
               refine hK.out _ _ ⟨(jC BK369.out 0).trans rfl, (jC BK369.out 1).trans rfl, (jC BK377.out 0).trans rfl, (jC BK377.out 1).trans rfl, hHeld.2.2.2.2.1, hHeld.2.2.2.2.2.1, hHeld.2.2.2.2.2.2.1, hHeld.2.2.2.2.2.2.2⟩ (fun hHeld => ?_)
               clear hK K
               refine nU (N:=some 72) ?_
               refine pU (i:=12) (N:=some 73) (tf 13 15) HT_ ?_
               refine pU (i:=13) (N:=some 74) (tf 14 14) HT_ ?_
               refine pU (i:=14) (N:=some 75) (tf 15 13) HT_ ?_
               refine pU (i:=16) (N:=some 77) #[true, true, true, true, true, true, true, true, true, true, true, true, true, true, true, false, true, false, false, false, false, false, false, false, false, false, false, false] HT_ ?_
               refine pU (i:=20) (N:=some 81) #[true, true, true, true, true, true, true, true, true, true, true, true, true, true, true, false, true, false, false, false, true, false, false, false, false, false, false, false] HT_ ?_
               refine pU (i:=22) (N:=some 83) #[true, true, true, true, true, true, true, true, true, true, true, true, true, true, true, false, true, false, false, false, true, false, true, false, false, false, false, false] HT_ ?_
               refine tU (i:=15) (N:=some 76) #[true, true, true, true, true, true, true, true, true, true, true, true, true, true, true, true, true, false, false, false, true, false, true, false, false, false, false, false] HT_ HW_ hHeld ?_
               refine pU (i:=17) (N:=some 78) #[true, true, true, true, true, true, true, true, true, true, true, true, true, true, true, true, true, true, false, false, true, false, true, false, false, false, false, false] HT_ ?_
               refine tU (i:=18) (N:=some 79) #[true, true, true, true, true, true, true, true, true, true, true, true, true, true, true, true, true, true, true, false, true, false, true, false, false, false, false, false] HT_ HW_ hHeld ?_
               refine pU (i:=19) (N:=some 80) #[true, true, true, true, true, true, true, true, true, true, true, true, true, true, true, true, true, true, true, true, true, false, true, false, false, false, false, false] HT_ ?_
               refine tU (i:=21) (N:=some 82) (tf 23 5) HT_ HW_ hHeld ?_
               refine pU (i:=23) (N:=some 84) (tf 24 4) HT_ ?_
               refine tU (i:=24) (N:=some 85) (tf 25 3) HT_ HW_ hHeld ?_
               refine pU (i:=25) (N:=some 86) (tf 26 2) HT_ ?_
               refine pU (i:=26) (N:=some 87) (tf 27 1) HT_ ?_
               refine pU (i:=27) (N:=some 88) (tf 28 0) HT_ ?_
               refine done_ (done_of HT_.out (by kernel_rfl)) ?_
               try go_wp2
               go_meet
               case rel => exact ⟨_, ((((rd_L17 t365 x13_2).length : Int) != ((rd_L17 t373 x13_2).length : Int))), tZ, H', ⟨by have := HJ9.out; have := HK2.out; first | omega | exact Nat.le_refl _⟩, ⟨by (with_reducible repeat (first | apply jn | apply jo | apply jp)); exact Kd.N_mono HO_370000.out (fun _ hk => ⟨hk.1.1, ⟨hk.1.2.1, ⟨hk.1.2.2.1, ⟨hk.1.2.2.2.1, ⟨hk.1.2.2.2.2.1, hk.1.2.2.2.2.2⟩⟩⟩⟩⟩)⟩, ⟨by (with_reducible repeat (first | apply jn | apply jo | apply jp)); exact Kd.N_mono HO_370001.out (fun _ hk => ⟨hk.1.1, ⟨hk.1.2.1, ⟨hk.1.2.2.1, ⟨hk.1.2.2.2.1, ⟨hk.1.2.2.2.2.1, hk.1.2.2.2.2.2⟩⟩⟩⟩⟩)⟩, ⟨by (with_reducible repeat (first | apply jn | apply jo | apply jp)); exact Kd.N_mono HO_378000.out (fun _ hk => ⟨hk.1.1, ⟨hk.1.2.1, ⟨hk.1.2.2.1, ⟨hk.1.2.2.2.1, ⟨hk.1.2.2.2.2.1, hk.1.2.2.2.2.2⟩⟩⟩⟩⟩)⟩, ⟨by (with_reducible repeat (first | apply jn | apply jo | apply jp)); exact Kd.N_mono HO_378001.out (fun _ hk => ⟨hk.1.1, ⟨hk.1.2.1, ⟨hk.1.2.2.1, ⟨hk.1.2.2.2.1, ⟨hk.1.2.2.2.2.1, hk.1.2.2.2.2.2⟩⟩⟩⟩⟩)⟩, ⟨tK BK359.out⟩, ⟨tK BK369.out⟩, ⟨tK BK377.out⟩, ⟨by repeat (first | (with_reducible first | exact HB.out | apply jA | apply jN | apply jD | refine jS ?_ GE359.out | refine jS ?_ GE369.out | refine jS ?_ GE377.out) | exact HB.out)⟩⟩
              ·rw [if_neg c54] at H
               exact absurd H (by simp)
             ·rw [if_neg c53] at H
              exact absurd H (by simp)
            ·replace c52 := Bool.eq_false_iff.mpr c52
             subst c52
             have H1 : (sl14_StatesBuild.j2 k2 a1 a2 true x13_2 true l0_0 l0_1 l0_2 l0_3 a0_4 t362 t365 t370 t373) = some r := by rw [if_neg (show ¬ (false = true) by decide)] at H; exact H
             clear H
             have H := H1
             clear H1
             have H' := jM H
             clear H
             try go_wp2
             have n0_ := jM (jp HO_370000.out)
             have n1_ := jM (jp HO_370001.out)
             have n2_ := jM (jp HO_378000.out)
             have n3_ := jM (jp HO_378001.out)
             have n4_ := jM (jZ BK359.out)
             have n5_ := jM (jZ BK369.out)
             have n6_ := jM (jZ BK377.out)
             have n7_ := jM (jD HB.out)
             clear HO_370000 HO_370001 HO_378000 HO_378001 BK359 BK369 BK377 HB
             have HO_370000 := n0_
             have HO_370001 := n1_
             have HO_378000 := n2_
             have HO_378001 := n3_
             have BK359 := n4_
             have BK369 := n5_
             have BK377 := n6_
             have HB := n7_
             clear n0_ n1_ n2_ n3_ n4_ n5_ n6_ n7_
             have p380 : 0 ≤ (x13_2 : Int) := of_decide_eq_true tD
             have q380 : x13_2 < (t362.length : Int) := of_decide_eq_true tD
             obtain ⟨ad380, A380_0, c380_0, e380, hx380_0, hl380_0, hi380_0⟩ := at_L15 (Kd.N_reads' HO_370000.out).2.2 x13_2 p380 q380
             cases e380
             obtain ⟨ce380, hce380, hMe380, hcc380⟩ := Kd.N_get HO_370000.out [] x13_2 p380 (by first | exact q380 | exact of_decide_eq_true tD | (have e_ := (Kd.N_reads' HO_370000.out).1; omega))
             obtain ⟨ua380_0, uc380_0, rfl, ul380_0, ge380_0⟩ := Kd.FK_slice_open hMe380
             have hv380_0 := hcc380 0 _ rfl
             rw [Nat.add_zero, show ((Kd.slice 37 k37)).sz = 1 from rfl, Nat.mul_one] at hv380_0
             replace hv380_0 := Option.some.inj (hv380_0.symm.trans hx380_0)
             injection hv380_0 with hva_ hvn_ hvc_
             rw [hva_] at ge380_0
             rw [hvc_] at ul380_0
             have HL380_0 := jM (show Kd.V k37 37 _ w.heap.size _ _ (rd_L15 t362 x13_2) from Kd.V_mk ul380_0 ge380_0)
             clear hva_ hvn_ hvc_ ge380_0 ul380_0 hcc380 hce380
             have HR380_0 := jM hi380_0
             have HC380_0 := jM hl380_0
             clear hi380_0 hl380_0
             replace p380 := eq_true p380
             replace q380 := eq_true q380
             have p384 : 0 ≤ (x13_2 : Int) := of_decide_eq_true tD
             have q384 : x13_2 < (t370.length : Int) := of_decide_eq_true tD
             obtain ⟨ad384, A384_0, c384_0, e384, hx384_0, hl384_0, hi384_0⟩ := at_L21 (Kd.N_reads' HO_378000.out).2.2 x13_2 p384 q384
             cases e384
             obtain ⟨ce384, hce384, hMe384, hcc384⟩ := Kd.N_get HO_378000.out [] x13_2 p384 (by first | exact q384 | exact of_decide_eq_true tD | (have e_ := (Kd.N_reads' HO_378000.out).1; omega))
             obtain ⟨ua384_0, uc384_0, rfl, ul384_0, ge384_0⟩ := Kd.FK_slice_open hMe384
             have hv384_0 := hcc384 0 _ rfl
             rw [Nat.add_zero, show ((Kd.slice 39 k39)).sz = 1 from rfl, Nat.mul_one] at hv384_0
             replace hv384_0 := Option.some.inj (hv384_0.symm.trans hx384_0)
             injection hv384_0 with hva_ hvn_ hvc_
             rw [hva_] at ge384_0
             rw [hvc_] at ul384_0
             have HL384_0 := jM (show Kd.V k39 39 _ w.heap.size _ _ (rd_L21 t370 x13_2) from Kd.V_mk ul384_0 ge384_0)
             clear hva_ hvn_ hvc_ ge384_0 ul384_0 hcc384 hce384
             have HR384_0 := jM hi384_0
             have HC384_0 := jM hl384_0
             clear hi384_0 hl384_0
             replace p384 := eq_true p384
             replace q384 := eq_true q384
             refine start_ (n := 28) (S := fun w' => w'.cell? ⟨gb369, 0, none⟩ = some (.slice (some ad380) t362.length co18) ∧ w'.cell? ⟨gb369, 1, none⟩ = some (.slice Ao21 t365.length co21) ∧ w'.cell? ⟨gb377, 0, none⟩ = some (.slice (some ad384) t370.length co25) ∧ w'.cell? ⟨gb377, 1, none⟩ = some (.slice Ao29 t373.length co29) ∧ w'.cell? (ad380.add (x13_2).toNat) = some (.slice A380_0 (rd_L15 t362 x13_2).length c380_0) ∧ w'.cell? (ad384.add (x13_2).toNat) = some (.slice A384_0 (rd_L21 t370 x13_2).length c384_0)) (ds := []) (tf 0 28) (by kernel_rfl) rfl rfl ⟨(jC BK369.out 0).trans rfl, (jC BK369.out 1).trans rfl, (jC BK377.out 0).trans rfl, (jC BK377.out 1).trans rfl, hx380_0, hx384_0⟩ (fun hHeld => ?_); refine with_tabW sl14_StatesBuild.tab14 sl14_StatesBuild.bits14 (fun HT_ HW_ => ?_)
             generalize wr.drew = w58 at HO_370000 HO_370001 HO_378000 HO_378001 BK359 BK369 BK377 HB HL380_0 HL384_0 HR380_0 HR384_0 hx380_0 hx384_0 hHeld ⊢
             refine pU (i:=0) (N:=some 61) (tf 1 27) HT_ ?_
             refine pU (i:=2) (N:=some 63) #[true, false, true, false, false, false, false, false, false, false, false, false, false, false, false, false, false, false, false, false, false, false, false, false, false, false, false, false] HT_ ?_
             refine pU (i:=6) (N:=some 67) #[true, false, true, false, false, false, true, false, false, false, false, false, false, false, false, false, false, false, false, false, false, false, false, false, false, false, false, false] HT_ ?_
             refine pU (i:=8) (N:=some 69) #[true, false, true, false, false, false, true, false, true, false, false, false, false, false, false, false, false, false, false, false, false, false, false, false, false, false, false, false] HT_ ?_
             refine tU (i:=1) (N:=some 62) #[true, true, true, false, false, false, true, false, true, false, false, false, false, false, false, false, false, false, false, false, false, false, false, false, false, false, false, false] HT_ HW_ hHeld ?_
             refine pU (i:=3) (N:=some 64) #[true, true, true, true, false, false, true, false, true, false, false, false, false, false, false, false, false, false, false, false, false, false, false, false, false, false, false, false] HT_ ?_
             refine tU (i:=4) (N:=some 65) #[true, true, true, true, true, false, true, false, true, false, false, false, false, false, false, false, false, false, false, false, false, false, false, false, false, false, false, false] HT_ HW_ hHeld ?_
             refine tU (i:=7) (N:=some 68) #[true, true, true, true, true, false, true, true, true, false, false, false, false, false, false, false, false, false, false, false, false, false, false, false, false, false, false, false] HT_ HW_ hHeld ?_
             refine pU (i:=9) (N:=some 70) #[true, true, true, true, true, false, true, true, true, true, false, false, false, false, false, false, false, false, false, false, false, false, false, false, false, false, false, false] HT_ ?_
             refine tU (i:=10) (N:=some 71) #[true, true, true, true, true, false, true, true, true, true, true, false, false, false, false, false, false, false, false, false, false, false, false, false, false, false, false, false] HT_ HW_ hHeld ?_
             refine one_ (i := 5) (N := some 66) (tf 11 17) rfl rfl (one_of HT_.out (by kernel_rfl)) (by decide) (fun K hK => ?_)
             refine goes_ Tryd.func14 (by kernel_rfl) rfl #[.slice A380_0 (rd_L15 t362 x13_2).length c380_0] (by rfl) rfl rfl tM ?_
             with_reducible refine (sl14_Row.calls k2 _ _ (rd_L15 t362 x13_2) t381 _ ?side1 ?side2 A49.out).mono ?_
             (case side1 => exact tC (by repeat (first | (with_reducible exact HR380_0.out) | (with_reducible refine Kd.C_alloc ?_ _) | (with_reducible refine Kd.C_drewN ?_ _) | (with_reducible refine Kd.C_drew ?_) | exact HR380_0.out)))
             (case side2 => exact HC380_0.out)
             rintro e w59 ⟨v382, rfl, ho0, hb⟩
             have HS4_ := (hb.cell (jL _ _ (hHeld.2.2.2.2.1))).trans (hHeld.2.2.2.2.1)
             have HS5_ := (hb.cell (jL _ _ (hHeld.2.2.2.2.2))).trans (hHeld.2.2.2.2.2)
             refine ⟨_, rfl, ?_⟩
             have n0_ := jM (Kd.N_elder' (tN HO_370000.out) (Kd.R_base ho0) hb)
             have n1_ := jM (Kd.N_elder' (tN HO_370001.out) (Kd.R_base ho0) hb)
             have n2_ := jM (Kd.N_elder' (tN HO_378000.out) (Kd.R_base ho0) hb)
             have n3_ := jM (Kd.N_elder' (tN HO_378001.out) (Kd.R_base ho0) hb)
             have n4_ := jM (Kd.V_elder' (by (with_reducible repeat (first | apply jt | apply ju | apply jv)); exact HL380_0.out) (Kd.R_base ho0) hb)
             have n5_ := jM (Kd.V_elder' (by (with_reducible repeat (first | apply jt | apply ju | apply jv)); exact HL384_0.out) (Kd.R_base ho0) hb)
             have n6_ := jM (Kd.R_lower ho0 (below_size (by repeat (first | (with_reducible first | exact HB.out | apply jA | apply jN | apply jD | refine jS ?_ GE359.out | refine jS ?_ GE369.out | refine jS ?_ GE377.out) | exact HB.out))))
             have n7_ := jM (jW (g := gb359) (o := .cells #[.slice A0_0 l0_0.length c0_0, .slice A0_1 l0_1.length c0_1, .slice A0_2 l0_2.length c0_2, .slice A0_3 l0_3.length c0_3, .int .i64 a0_4] 27 (0, 0)) (tK BK359.out) hb)
             have n8_ := jM (jW (g := gb369) (o := .cells #[.slice (some ad380) t362.length co18, .slice Ao21 t365.length co21] 49 (0, 0)) (tK BK369.out) hb)
             have n9_ := jM (jW (g := gb377) (o := .cells #[.slice (some ad384) t370.length co25, .slice Ao29 t373.length co29] 55 (0, 0)) (tK BK377.out) hb)
             have n10_ := jM (jB (by repeat (first | (with_reducible exact HR380_0.out) | (with_reducible refine Kd.C_alloc ?_ _) | (with_reducible refine Kd.C_drewN ?_ _) | (with_reducible refine Kd.C_drew ?_) | exact HR380_0.out)) hb)
             have n11_ := jM (jB (by repeat (first | (with_reducible exact HR384_0.out) | (with_reducible refine Kd.C_alloc ?_ _) | (with_reducible refine Kd.C_drewN ?_ _) | (with_reducible refine Kd.C_drew ?_) | exact HR384_0.out)) hb)
             have n12_ := jM (jT (by repeat (first | (with_reducible first | exact HB.out | apply jA | apply jN | apply jD | refine jS ?_ GE359.out | refine jS ?_ GE369.out | refine jS ?_ GE377.out) | exact HB.out)) hb)
             clear HO_370000 HO_370001 HO_378000 HO_378001 HL380_0 HL384_0 BK359 BK369 BK377 HR380_0 HR384_0 HB
             have HO_370000 := n0_
             have HO_370001 := n1_
             have HO_378000 := n2_
             have HO_378001 := n3_
             have HL380_0 := n4_
             have HL384_0 := n5_
             have HO383 := n6_
             have BK359 := n7_
             have BK369 := n8_
             have BK377 := n9_
             have HR380_0 := n10_
             have HR384_0 := n11_
             have HB := n12_
             clear n0_ n1_ n2_ n3_ n4_ n5_ n6_ n7_ n8_ n9_ n10_ n11_ n12_
             (try clear hb)
             (try clear hb2)
             (try clear hk)
             (try clear hi)
             (try clear ho0)
             obtain ⟨Ao60, co60, eo60⟩ := Kd.R_slice HO383.out
             (first | subst eo60 | (injection eo60 with f1_ f2_ f3_; have f4_ := f1_.symm; have f5_ := f3_.symm; clear f1_ f2_ f3_; subst f4_; subst f5_))
             refine hK.out _ _ ⟨(jC BK369.out 0).trans rfl, (jC BK369.out 1).trans rfl, (jC BK377.out 0).trans rfl, (jC BK377.out 1).trans rfl, HS4_, HS5_⟩ (fun hHeld => ?_)
             clear hK K
             refine nU (N:=some 66) ?_
             refine one_ (i := 11) (N := some 72) (tf 12 16) rfl rfl (one_of HT_.out (by kernel_rfl)) (by decide) (fun K hK => ?_)
             refine goes_ Tryd.func17 (by kernel_rfl) rfl #[.slice Ao60 t381.length co60, .slice A384_0 (rd_L21 t370 x13_2).length c384_0] (by rfl) rfl rfl tM ?_
             with_reducible refine (sr14_Row.calls k2 _ _ t381 _ _ (rd_L21 t370 x13_2) false _ ?side1 ?side2 ?side3 ?side4 A51.out).mono ?_
             (case side1 => exact tC (Kd.R_reads' HO383.out).2.2)
             (case side2 => exact (Kd.R_reads' HO383.out).2.1)
             (case side3 => exact tC (by repeat (first | (with_reducible exact HR384_0.out) | (with_reducible refine Kd.C_alloc ?_ _) | (with_reducible refine Kd.C_drewN ?_ _) | (with_reducible refine Kd.C_drew ?_) | exact HR384_0.out)))
             (case side4 => exact HC384_0.out)
             rintro e w' ⟨rfl, ⟨nd, rfl⟩⟩
             refine ⟨_, rfl, ?_⟩
             refine hK.out _ _ ⟨(jC BK369.out 0).trans rfl, (jC BK369.out 1).trans rfl, (jC BK377.out 0).trans rfl, (jC BK377.out 1).trans rfl, hHeld.2.2.2.2.1, hHeld.2.2.2.2.2⟩ (fun hHeld => ?_)
             clear hK K
             refine nU (N:=some 72) ?_
             refine pU (i:=12) (N:=some 73) (tf 13 15) HT_ ?_
             refine pU (i:=13) (N:=some 74) (tf 14 14) HT_ ?_
             refine pV (i:=14) (N:=some 75) (tf 15 13) HT_ ?_
             refine pV (i:=15) (N:=some 76) (tf 16 12) HT_ ?_
             refine pV (i:=16) (N:=some 77) (tf 17 11) HT_ ?_
             refine pV (i:=17) (N:=some 78) (tf 18 10) HT_ ?_
             refine pV (i:=18) (N:=some 79) (tf 19 9) HT_ ?_
             refine pV (i:=19) (N:=some 80) (tf 20 8) HT_ ?_
             refine pV (i:=20) (N:=some 81) (tf 21 7) HT_ ?_
             refine pV (i:=21) (N:=some 82) (tf 22 6) HT_ ?_
             refine pV (i:=22) (N:=some 83) (tf 23 5) HT_ ?_
             refine pV (i:=23) (N:=some 84) (tf 24 4) HT_ ?_
             refine pV (i:=24) (N:=some 85) (tf 25 3) HT_ ?_
             refine pV (i:=25) (N:=some 86) (tf 26 2) HT_ ?_
             refine pV (i:=26) (N:=some 87) (tf 27 1) HT_ ?_
             refine pU (i:=27) (N:=some 88) (tf 28 0) HT_ ?_
             refine done_ (done_of HT_.out (by kernel_rfl)) ?_
             try go_wp2
             go_meet
             case rel => exact ⟨_, (true), tZ, H', ⟨by have := HJ9.out; have := HK2.out; first | omega | exact Nat.le_refl _⟩, ⟨by (with_reducible repeat (first | apply jn | apply jo | apply jp)); exact Kd.N_mono HO_370000.out (fun _ hk => ⟨hk.1.1, ⟨hk.1.2.1, ⟨hk.1.2.2.1, ⟨hk.1.2.2.2.1, ⟨hk.1.2.2.2.2.1, hk.1.2.2.2.2.2⟩⟩⟩⟩⟩)⟩, ⟨by (with_reducible repeat (first | apply jn | apply jo | apply jp)); exact Kd.N_mono HO_370001.out (fun _ hk => ⟨hk.1.1, ⟨hk.1.2.1, ⟨hk.1.2.2.1, ⟨hk.1.2.2.2.1, ⟨hk.1.2.2.2.2.1, hk.1.2.2.2.2.2⟩⟩⟩⟩⟩)⟩, ⟨by (with_reducible repeat (first | apply jn | apply jo | apply jp)); exact Kd.N_mono HO_378000.out (fun _ hk => ⟨hk.1.1, ⟨hk.1.2.1, ⟨hk.1.2.2.1, ⟨hk.1.2.2.2.1, ⟨hk.1.2.2.2.2.1, hk.1.2.2.2.2.2⟩⟩⟩⟩⟩)⟩, ⟨by (with_reducible repeat (first | apply jn | apply jo | apply jp)); exact Kd.N_mono HO_378001.out (fun _ hk => ⟨hk.1.1, ⟨hk.1.2.1, ⟨hk.1.2.2.1, ⟨hk.1.2.2.2.1, ⟨hk.1.2.2.2.2.1, hk.1.2.2.2.2.2⟩⟩⟩⟩⟩)⟩, ⟨tK BK359.out⟩, ⟨tK BK369.out⟩, ⟨tK BK377.out⟩, ⟨by repeat (first | (with_reducible first | exact HB.out | apply jA | apply jN | apply jD | refine jS ?_ GE359.out | refine jS ?_ GE369.out | refine jS ?_ GE377.out) | exact HB.out)⟩⟩
           ·rw [if_neg c50] at H
            exact absurd H (by simp)
          ·rw [if_neg c48] at H
           exact absurd H (by simp)
         case rest =>
          clear HC44
          try clear c1
          try clear p2
          try clear c3
          try clear p3
          try clear q3
          try clear hx3
          try clear c4
          try clear c5
          try clear c14
          try clear c17
          try clear c38
          try clear p38
          try clear q38
          try clear hx38
          try clear c48
          try clear c50
          try clear c52
          try clear c53
          try clear c54
          try clear hx380_0
          try clear hx384_0
          try clear p380
          try clear p384
          try clear q380
          try clear q384
          obtain ⟨kq, x88_43, rfl, HA, HJ43, HO_370000, HO_370001, HO_378000, HO_378001, BK359, BK369, BK377, HB⟩ := hcut
          cases kq with
          | zero => exact absurd HA.out (by simp [sl14_StatesBuild.j2])
          | succ kj43 =>
           have H := HA.out
           clear HA
           simp only [sl14_StatesBuild.j2] at H
           by_cases c61 : x88_43 = true
           ·subst c61
            have H1 : (some false) = some r := by rw [if_pos rfl] at H; exact H
            clear H
            have H := H1
            clear H1
            exact absurd ((Option.some.inj H).trans HT.out) (by decide)
           ·replace c61 := Bool.eq_false_iff.mpr c61
            subst c61
            have H1 : (sl14_StatesBuild.l1 kj43 a1 a2 true x13_2 0 l0_0 l0_1 l0_2 l0_3 a0_4 t362 t365 t370 t373) = some r := by rw [if_neg (show ¬ (false = true) by decide)] at H; exact H
            clear H
            have H := H1
            clear H1
            have H' := jM H
            clear H
            go_wp2
            go_loopg [14] kj43 (fun kq v14 w' => ∃ (x14_4 : Int), v14 = .int .i64 x14_4 ∧ Aside0 (sl14_StatesBuild.l1 kq a1 a2 true x13_2 x14_4 l0_0 l0_1 l0_2 l0_3 a0_4 t362 t365 t370 t373 = some r) ∧ Aside0 (kq ≤ kj43) ∧ Aside0 (Kd.N (Kd.slice 37 k37) 28 w' w.heap.size (fun k_ => some k_ ≠ ((.slice Ao21 t365.length co21) : Value).ownBlock ∧ some k_ ≠ ((.slice Ao25 t370.length co25) : Value).ownBlock ∧ some k_ ≠ ((.slice Ao29 t373.length co29) : Value).ownBlock ∧ k_ ≠ gb359 ∧ k_ ≠ gb369 ∧ k_ ≠ gb377) (.slice Ao18 t362.length co18) t362) ∧ Aside0 (Kd.N (Kd.slice 3 (Kd.int .i64)) 58 w' w.heap.size (fun k_ => some k_ ≠ ((.slice Ao18 t362.length co18) : Value).ownBlock ∧ some k_ ≠ ((.slice Ao25 t370.length co25) : Value).ownBlock ∧ some k_ ≠ ((.slice Ao29 t373.length co29) : Value).ownBlock ∧ k_ ≠ gb359 ∧ k_ ≠ gb369 ∧ k_ ≠ gb377) (.slice Ao21 t365.length co21) t365) ∧ Aside0 (Kd.N (Kd.slice 39 k39) 32 w' w.heap.size (fun k_ => some k_ ≠ ((.slice Ao18 t362.length co18) : Value).ownBlock ∧ some k_ ≠ ((.slice Ao21 t365.length co21) : Value).ownBlock ∧ some k_ ≠ ((.slice Ao29 t373.length co29) : Value).ownBlock ∧ k_ ≠ gb359 ∧ k_ ≠ gb369 ∧ k_ ≠ gb377) (.slice Ao25 t370.length co25) t370) ∧ Aside0 (Kd.N (Kd.slice 3 (Kd.int .i64)) 58 w' w.heap.size (fun k_ => some k_ ≠ ((.slice Ao18 t362.length co18) : Value).ownBlock ∧ some k_ ≠ ((.slice Ao21 t365.length co21) : Value).ownBlock ∧ some k_ ≠ ((.slice Ao25 t370.length co25) : Value).ownBlock ∧ k_ ≠ gb359 ∧ k_ ≠ gb369 ∧ k_ ≠ gb377) (.slice Ao29 t373.length co29) t373) ∧ Aside0 (w'.heap[gb359]? = some (.cells #[(.slice A0_0 l0_0.length c0_0), (.slice A0_1 l0_1.length c0_1), (.slice A0_2 l0_2.length c0_2), (.slice A0_3 l0_3.length c0_3), .int .i64 a0_4] 27 (0, 0))) ∧ Aside0 (w'.heap[gb369]? = some (.cells #[(.slice Ao18 t362.length co18), (.slice Ao21 t365.length co21)] 49 (0, 0))) ∧ Aside0 (w'.heap[gb377]? = some (.cells #[(.slice Ao25 t370.length co25), (.slice Ao29 t373.length co29)] 55 (0, 0))) ∧ Aside0 (Below w.heap.size w w'))
            case atStart => exact ⟨(0), tZ, H', ⟨Nat.le_refl _⟩, ⟨tN HO_370000.out⟩, ⟨tN HO_370001.out⟩, ⟨tN HO_378000.out⟩, ⟨tN HO_378001.out⟩, ⟨tK BK359.out⟩, ⟨tK BK369.out⟩, ⟨tK BK377.out⟩, ⟨by repeat (first | (with_reducible first | exact HB.out | apply jA | apply jN | apply jD | refine jS ?_ GE359.out | refine jS ?_ GE369.out | refine jS ?_ GE377.out) | exact HB.out)⟩⟩
            case round =>
             clear H'
             try clear c1
             try clear p2
             try clear c3
             try clear p3
             try clear q3
             try clear hx3
             try clear c4
             try clear c5
             try clear c6
             try clear c14
             try clear c17
             try clear c38
             try clear p38
             try clear q38
             try clear hx38
             try clear c48
             try clear c50
             try clear c52
             try clear c53
             try clear c54
             try clear c61
             try clear hx380_0
             try clear hx384_0
             try clear p2
             try clear p3
             try clear p38
             try clear p380
             try clear p384
             try clear q3
             try clear q38
             try clear q380
             try clear q384
             obtain ⟨x14_4, rfl, HA, HK4, HO_370000, HO_370001, HO_378000, HO_378001, BK359, BK369, BK377, HB⟩ := hrel
             cases gk with
             | zero => exact absurd HA.out (by simp [sl14_StatesBuild.l1])
             | succ k4 =>
              have H := HA.out
              clear HA
              simp only [sl14_StatesBuild.l1] at H
              by_cases c62 : 0 ≤ x13_2
              ·rw [if_pos c62] at H
               have c62b0 : decide (0 ≤ x13_2) = true := decide_eq_true c62
               clear c62
               by_cases c63 : x13_2 < (t365.length : Int)
               ·rw [if_pos c63] at H
                have c63b0 : decide (x13_2 < (t365.length : Int)) = true := decide_eq_true c63
                clear c63
                by_cases c64 : x14_4 < ((rd_L17 t365 x13_2).length : Int)
                ·rw [if_pos c64] at H
                 have c64b0 : decide (x14_4 < ((rd_L17 t365 x13_2).length : Int)) = true := decide_eq_true c64
                 clear c64
                 by_cases c65 : 0 ≤ x14_4
                 ·rw [if_pos c65] at H
                  have c65b0 : decide (0 ≤ x14_4) = true := decide_eq_true c65
                  clear c65
                  by_cases c66 : x13_2 < (t373.length : Int)
                  ·rw [if_pos c66] at H
                   have c66b0 : decide (x13_2 < (t373.length : Int)) = true := decide_eq_true c66
                   clear c66
                   by_cases c67 : x14_4 < ((rd_L17 t373 x13_2).length : Int)
                   ·rw [if_pos c67] at H
                    have c67b0 : decide (x14_4 < ((rd_L17 t373 x13_2).length : Int)) = true := decide_eq_true c67
                    clear c67
                    by_cases c68 : (rd (rd_L17 t365 x13_2) x14_4) = (rd (rd_L17 t373 x13_2) x14_4)
                    ·rw [if_pos c68] at H
                     have c68b0 : ((rd (rd_L17 t365 x13_2) x14_4) == (rd (rd_L17 t373 x13_2) x14_4)) = true := beq_iff_eq.mpr c68
                     have c68b1 : ((rd (rd_L17 t365 x13_2) x14_4) != (rd (rd_L17 t373 x13_2) x14_4)) = false := bne_eq_false_iff_eq.mpr c68
                     clear c68
                     have H' := jM H
                     clear H
                     have hnb69 := NB369_359.out
                     have hnc69 := NB359_369.out
                     have hnb70 := NB369_377.out
                     have hnc70 := NB377_369.out
                     have hcz71_0 : wr.cell? ⟨gb369, 0, none⟩ = some (.slice Ao18 t362.length co18) := (jC BK369.out 0).trans rfl
                     have hcz71_1 : wr.cell? ⟨gb369, 1, none⟩ = some (.slice Ao21 t365.length co21) := (jC BK369.out 1).trans rfl
                     have hfz71_0 := jF BK369.out 0
                     have hfz71_1 := jF BK369.out 1
                     have p388 : 0 ≤ (x13_2 : Int) := of_decide_eq_true tD
                     have q388 : x13_2 < (t365.length : Int) := of_decide_eq_true tD
                     obtain ⟨ad388, A388_0, c388_0, e388, hx388_0, hl388_0, hi388_0⟩ := at_L17 (Kd.N_reads' HO_370001.out).2.2 x13_2 p388 q388
                     cases e388
                     obtain ⟨ce388, hce388, hMe388, hcc388⟩ := Kd.N_get HO_370001.out [] x13_2 p388 (by first | exact q388 | exact of_decide_eq_true tD | (have e_ := (Kd.N_reads' HO_370001.out).1; omega))
                     obtain ⟨ua388_0, uc388_0, rfl, ul388_0, ge388_0⟩ := Kd.FK_slice_open hMe388
                     have hv388_0 := hcc388 0 _ rfl
                     rw [Nat.add_zero, show ((Kd.slice 3 (Kd.int .i64))).sz = 1 from rfl, Nat.mul_one] at hv388_0
                     replace hv388_0 := Option.some.inj (hv388_0.symm.trans hx388_0)
                     injection hv388_0 with hva_ hvn_ hvc_
                     rw [hva_] at ge388_0
                     rw [hvc_] at ul388_0
                     have HL388_0 := jM (show Kd.V (Kd.int .i64) 3 _ w.heap.size _ _ (rd_L17 t365 x13_2) from Kd.V_mk ul388_0 ge388_0)
                     clear hva_ hvn_ hvc_ ge388_0 ul388_0 hcc388 hce388
                     have HR388_0 := jM hi388_0
                     have HC388_0 := jM hl388_0
                     clear hi388_0 hl388_0
                     replace p388 := eq_true p388
                     replace q388 := eq_true q388
                     try go_wp2
                     have n0_ := jM (jp HO_370000.out)
                     have n1_ := jM (jp HO_370001.out)
                     have n2_ := jM (jp HO_378000.out)
                     have n3_ := jM (jp HO_378001.out)
                     have n4_ := jM (jv HL388_0.out)
                     have n5_ := jM (jZ BK359.out)
                     have n6_ := jM (jZ BK369.out)
                     have n7_ := jM (jZ BK377.out)
                     have n8_ := jM (Kd.C_drew HR388_0.out)
                     have n9_ := jM (jD HB.out)
                     clear HO_370000 HO_370001 HO_378000 HO_378001 HL388_0 BK359 BK369 BK377 HR388_0 HB
                     have HO_370000 := n0_
                     have HO_370001 := n1_
                     have HO_378000 := n2_
                     have HO_378001 := n3_
                     have HL388_0 := n4_
                     have BK359 := n5_
                     have BK369 := n6_
                     have BK377 := n7_
                     have HR388_0 := n8_
                     have HB := n9_
                     clear n0_ n1_ n2_ n3_ n4_ n5_ n6_ n7_ n8_ n9_
                     have p389 : 0 ≤ (x13_2 : Int) := of_decide_eq_true tD
                     have q389 : x13_2 < (t365.length : Int) := of_decide_eq_true tD
                     obtain ⟨ad389, A389_0, c389_0, e389, hx389_0, hl389_0, hi389_0⟩ := at_L17 (Kd.N_reads' HO_370001.out).2.2 x13_2 p389 q389
                     obtain rfl : ad388 = ad389 := (by injection e389)
                     obtain ⟨ce389, hce389, hMe389, hcc389⟩ := Kd.N_get HO_370001.out [] x13_2 p389 (by first | exact q389 | exact of_decide_eq_true tD | (have e_ := (Kd.N_reads' HO_370001.out).1; omega))
                     obtain ⟨ua389_0, uc389_0, rfl, ul389_0, ge389_0⟩ := Kd.FK_slice_open hMe389
                     have hv389_0 := hcc389 0 _ rfl
                     rw [Nat.add_zero, show ((Kd.slice 3 (Kd.int .i64))).sz = 1 from rfl, Nat.mul_one] at hv389_0
                     replace hv389_0 := Option.some.inj (hv389_0.symm.trans hx389_0)
                     injection hv389_0 with hva_ hvn_ hvc_
                     rw [hva_] at ge389_0
                     rw [hvc_] at ul389_0
                     have HL389_0 := jM (show Kd.V (Kd.int .i64) 3 _ w.heap.size _ _ (rd_L17 t365 x13_2) from Kd.V_mk ul389_0 ge389_0)
                     clear hva_ hvn_ hvc_ ge389_0 ul389_0 hcc389 hce389
                     have HR389_0 := jM hi389_0
                     have HC389_0 := jM hl389_0
                     clear hi389_0 hl389_0
                     replace p389 := eq_true p389
                     replace q389 := eq_true q389
                     have p390 : 0 ≤ (x14_4 : Int) := of_decide_eq_true tD
                     have q390 : x14_4 < ((rd_L17 t365 x13_2).length : Int) := of_decide_eq_true tD
                     obtain ⟨ad390, e390, hx390_0⟩ := Kd.at_int (by repeat (first | (with_reducible exact HR389_0.out) | (with_reducible refine Kd.C_alloc ?_ _) | (with_reducible refine Kd.C_drewN ?_ _) | (with_reducible refine Kd.C_drew ?_) | exact HR389_0.out)) x14_4 p390 q390
                     cases e390
                     replace p390 := eq_true p390
                     replace q390 := eq_true q390
                     have p391 : 0 ≤ (x13_2 : Int) := of_decide_eq_true tD
                     have q391 : x13_2 < (t373.length : Int) := of_decide_eq_true tD
                     obtain ⟨ad391, A391_0, c391_0, e391, hx391_0, hl391_0, hi391_0⟩ := at_L17 (Kd.N_reads' HO_378001.out).2.2 x13_2 p391 q391
                     cases e391
                     obtain ⟨ce391, hce391, hMe391, hcc391⟩ := Kd.N_get HO_378001.out [] x13_2 p391 (by first | exact q391 | exact of_decide_eq_true tD | (have e_ := (Kd.N_reads' HO_378001.out).1; omega))
                     obtain ⟨ua391_0, uc391_0, rfl, ul391_0, ge391_0⟩ := Kd.FK_slice_open hMe391
                     have hv391_0 := hcc391 0 _ rfl
                     rw [Nat.add_zero, show ((Kd.slice 3 (Kd.int .i64))).sz = 1 from rfl, Nat.mul_one] at hv391_0
                     replace hv391_0 := Option.some.inj (hv391_0.symm.trans hx391_0)
                     injection hv391_0 with hva_ hvn_ hvc_
                     rw [hva_] at ge391_0
                     rw [hvc_] at ul391_0
                     have HL391_0 := jM (show Kd.V (Kd.int .i64) 3 _ w.heap.size _ _ (rd_L17 t373 x13_2) from Kd.V_mk ul391_0 ge391_0)
                     clear hva_ hvn_ hvc_ ge391_0 ul391_0 hcc391 hce391
                     have HR391_0 := jM hi391_0
                     have HC391_0 := jM hl391_0
                     clear hi391_0 hl391_0
                     replace p391 := eq_true p391
                     replace q391 := eq_true q391
                     have p392 : 0 ≤ (x14_4 : Int) := of_decide_eq_true tD
                     have q392 : x14_4 < ((rd_L17 t373 x13_2).length : Int) := of_decide_eq_true tD
                     obtain ⟨ad392, e392, hx392_0⟩ := Kd.at_int (by repeat (first | (with_reducible exact HR391_0.out) | (with_reducible refine Kd.C_alloc ?_ _) | (with_reducible refine Kd.C_drewN ?_ _) | (with_reducible refine Kd.C_drew ?_) | exact HR391_0.out)) x14_4 p392 q392
                     cases e392
                     replace p392 := eq_true p392
                     replace q392 := eq_true q392
                     refine start_ (n := 17) (S := fun w' => w'.cell? ⟨gb369, 0, none⟩ = some (.slice Ao18 t362.length co18) ∧ w'.cell? ⟨gb369, 1, none⟩ = some (.slice (some ad388) t365.length co21) ∧ w'.cell? ⟨gb377, 0, none⟩ = some (.slice Ao25 t370.length co25) ∧ w'.cell? ⟨gb377, 1, none⟩ = some (.slice (some ad391) t373.length co29) ∧ w'.cell? (ad388.add (x13_2).toNat) = some (.slice (some ad390) (rd_L17 t365 x13_2).length c389_0) ∧ w'.cell? (ad390.add (x14_4).toNat) = some (.int .i64 (rd (rd_L17 t365 x13_2) x14_4)) ∧ w'.cell? (ad391.add (x13_2).toNat) = some (.slice (some ad392) (rd_L17 t373 x13_2).length c391_0) ∧ w'.cell? (ad392.add (x14_4).toNat) = some (.int .i64 (rd (rd_L17 t373 x13_2) x14_4))) (ds := []) (tf 0 17) (by kernel_rfl) rfl rfl ⟨(jC BK369.out 0).trans rfl, (jC BK369.out 1).trans rfl, (jC BK377.out 0).trans rfl, (jC BK377.out 1).trans rfl, hx389_0, hx390_0, hx391_0, hx392_0⟩ (fun hHeld => ?_); refine with_tabW sl14_StatesBuild.tab19 sl14_StatesBuild.bits19 (fun HT_ HW_ => ?_)
                     generalize wr.drew = w72 at HO_370000 HO_370001 HO_378000 HO_378001 HL388_0 BK359 BK369 BK377 HR388_0 HB HL389_0 HL391_0 HR389_0 HR391_0 hx389_0 hx390_0 hx391_0 hx392_0 hHeld ⊢
                     refine pU (i:=0) (N:=some 99) (tf 1 16) HT_ ?_
                     refine pU (i:=2) (N:=some 101) #[true, false, true, false, false, false, false, false, false, false, false, false, false, false, false, false, false] HT_ ?_
                     refine pU (i:=5) (N:=some 104) #[true, false, true, false, false, true, false, false, false, false, false, false, false, false, false, false, false] HT_ ?_
                     refine pU (i:=8) (N:=some 107) #[true, false, true, false, false, true, false, false, true, false, false, false, false, false, false, false, false] HT_ ?_
                     refine pU (i:=10) (N:=some 109) #[true, false, true, false, false, true, false, false, true, false, true, false, false, false, false, false, false] HT_ ?_
                     refine pU (i:=13) (N:=some 112) #[true, false, true, false, false, true, false, false, true, false, true, false, false, true, false, false, false] HT_ ?_
                     refine tU (i:=1) (N:=some 100) #[true, true, true, false, false, true, false, false, true, false, true, false, false, true, false, false, false] HT_ HW_ hHeld ?_
                     refine pU (i:=3) (N:=some 102) #[true, true, true, true, false, true, false, false, true, false, true, false, false, true, false, false, false] HT_ ?_
                     refine tU (i:=4) (N:=some 103) #[true, true, true, true, true, true, false, false, true, false, true, false, false, true, false, false, false] HT_ HW_ hHeld ?_
                     refine pU (i:=6) (N:=some 105) #[true, true, true, true, true, true, true, false, true, false, true, false, false, true, false, false, false] HT_ ?_
                     refine tU (i:=7) (N:=some 106) #[true, true, true, true, true, true, true, true, true, false, true, false, false, true, false, false, false] HT_ HW_ hHeld ?_
                     refine tU (i:=9) (N:=some 108) #[true, true, true, true, true, true, true, true, true, true, true, false, false, true, false, false, false] HT_ HW_ hHeld ?_
                     refine pU (i:=11) (N:=some 110) #[true, true, true, true, true, true, true, true, true, true, true, true, false, true, false, false, false] HT_ ?_
                     refine tU (i:=12) (N:=some 111) (tf 14 3) HT_ HW_ hHeld ?_
                     refine pU (i:=14) (N:=some 113) (tf 15 2) HT_ ?_
                     refine tU (i:=15) (N:=some 114) (tf 16 1) HT_ HW_ hHeld ?_
                     refine pU (i:=16) (N:=some 115) (tf 17 0) HT_ ?_
                     refine done_ (done_of HT_.out (by kernel_rfl)) ?_
                     try go_wp2
                     go_roundg k4
                     case measure => have := HJ9.out; have := HK2.out; have := HJ43.out; have := HK4.out; omega
                     case rel => exact ⟨(wrap64 (x14_4 + 1)), tZ, H', ⟨by have := HJ9.out; have := HK2.out; have := HJ43.out; have := HK4.out; omega⟩, ⟨tN HO_370000.out⟩, ⟨tN HO_370001.out⟩, ⟨tN HO_378000.out⟩, ⟨tN HO_378001.out⟩, ⟨tK BK359.out⟩, ⟨tK BK369.out⟩, ⟨tK BK377.out⟩, ⟨by repeat (first | (with_reducible first | exact HB.out | apply jA | apply jN | apply jD | refine jS ?_ GE359.out | refine jS ?_ GE369.out | refine jS ?_ GE377.out) | exact HB.out)⟩⟩
                    ·rw [if_neg c68] at H
                     have c68b0 : ((rd (rd_L17 t365 x13_2) x14_4) == (rd (rd_L17 t373 x13_2) x14_4)) = false := beq_eq_false_iff_ne.mpr c68
                     have c68b1 : ((rd (rd_L17 t365 x13_2) x14_4) != (rd (rd_L17 t373 x13_2) x14_4)) = true := bne_iff_ne.mpr c68
                     exact absurd ((Option.some.inj H).trans HT.out) (by decide)
                   ·rw [if_neg c67] at H
                    exact absurd H (by simp)
                  ·rw [if_neg c66] at H
                   exact absurd H (by simp)
                 ·rw [if_neg c65] at H
                  exact absurd H (by simp)
                ·rw [if_neg c64] at H
                 have c64b0 : decide (x14_4 < ((rd_L17 t365 x13_2).length : Int)) = false := decide_eq_false c64
                 clear c64
                 have H' := jM H
                 clear H
                 have hnb73 := NB369_359.out
                 have hnc73 := NB359_369.out
                 have hnb74 := NB369_377.out
                 have hnc74 := NB377_369.out
                 have hcz75_0 : wr.cell? ⟨gb369, 0, none⟩ = some (.slice Ao18 t362.length co18) := (jC BK369.out 0).trans rfl
                 have hcz75_1 : wr.cell? ⟨gb369, 1, none⟩ = some (.slice Ao21 t365.length co21) := (jC BK369.out 1).trans rfl
                 have hfz75_0 := jF BK369.out 0
                 have hfz75_1 := jF BK369.out 1
                 have p388 : 0 ≤ (x13_2 : Int) := of_decide_eq_true tD
                 have q388 : x13_2 < (t365.length : Int) := of_decide_eq_true tD
                 obtain ⟨ad388, A388_0, c388_0, e388, hx388_0, hl388_0, hi388_0⟩ := at_L17 (Kd.N_reads' HO_370001.out).2.2 x13_2 p388 q388
                 cases e388
                 obtain ⟨ce388, hce388, hMe388, hcc388⟩ := Kd.N_get HO_370001.out [] x13_2 p388 (by first | exact q388 | exact of_decide_eq_true tD | (have e_ := (Kd.N_reads' HO_370001.out).1; omega))
                 obtain ⟨ua388_0, uc388_0, rfl, ul388_0, ge388_0⟩ := Kd.FK_slice_open hMe388
                 have hv388_0 := hcc388 0 _ rfl
                 rw [Nat.add_zero, show ((Kd.slice 3 (Kd.int .i64))).sz = 1 from rfl, Nat.mul_one] at hv388_0
                 replace hv388_0 := Option.some.inj (hv388_0.symm.trans hx388_0)
                 injection hv388_0 with hva_ hvn_ hvc_
                 rw [hva_] at ge388_0
                 rw [hvc_] at ul388_0
                 have HL388_0 := jM (show Kd.V (Kd.int .i64) 3 _ w.heap.size _ _ (rd_L17 t365 x13_2) from Kd.V_mk ul388_0 ge388_0)
                 clear hva_ hvn_ hvc_ ge388_0 ul388_0 hcc388 hce388
                 have HR388_0 := jM hi388_0
                 have HC388_0 := jM hl388_0
                 clear hi388_0 hl388_0
                 replace p388 := eq_true p388
                 replace q388 := eq_true q388
                 go_wp2
                 go_roundg k4
                 case measure => have := HJ9.out; have := HK2.out; have := HJ43.out; have := HK4.out; omega
                 case rel => exact ⟨(wrap64 (x13_2 + 1)), tZ, H', ⟨by have := HJ9.out; have := HK2.out; have := HJ43.out; have := HK4.out; omega⟩, ⟨tN HO_370000.out⟩, ⟨tN HO_370001.out⟩, ⟨tN HO_378000.out⟩, ⟨tN HO_378001.out⟩, ⟨tK BK359.out⟩, ⟨tK BK369.out⟩, ⟨tK BK377.out⟩, ⟨by repeat (first | (with_reducible first | exact HB.out | apply jA | apply jN | apply jD | refine jS ?_ GE359.out | refine jS ?_ GE369.out | refine jS ?_ GE377.out) | exact HB.out)⟩⟩
               ·rw [if_neg c63] at H
                exact absurd H (by simp)
              ·rw [if_neg c62] at H
               exact absurd H (by simp)
        ·rw [if_neg c43] at H
         have c43b0 : decide (x13_2 < (t362.length : Int)) = false := decide_eq_false c43
         clear c43
         replace H : ((states_Go.f l0_0 l0_1 l0_2 l0_3 a0_4 t362 t365 a1 a2).bind fun t378 => ((sr14_Go.f l0_0 l0_1 l0_2 l0_3 a0_4 t370 t373 a1 a2).bind fun t379 => (some (t378 == t379)))) = some r := by first | (rw [if_pos rfl] at H; exact H) | (rw [if_pos trivial] at H; exact H)
         replace H := Option.bind_eq_some_iff.mp H
         obtain ⟨t378, A760, H⟩ := H
         replace H : ((sr14_Go.f l0_0 l0_1 l0_2 l0_3 a0_4 t370 t373 a1 a2).bind fun t379 => (some (t378 == t379))) = some r := H
         have A76 := jM A760
         clear A760
         replace H := Option.bind_eq_some_iff.mp H
         obtain ⟨t379, A770, H⟩ := H
         replace H : (some (t378 == t379)) = some r := H
         have A77 := jM A770
         clear A770
         obtain rfl := Option.some.inj H
         have hnb78 := NB369_359.out
         have hnc78 := NB359_369.out
         have hnb79 := NB369_377.out
         have hnc79 := NB377_369.out
         have hcz80_0 : wr.cell? ⟨gb369, 0, none⟩ = some (.slice Ao18 t362.length co18) := (jC BK369.out 0).trans rfl
         have hcz80_1 : wr.cell? ⟨gb369, 1, none⟩ = some (.slice Ao21 t365.length co21) := (jC BK369.out 1).trans rfl
         have hfz80_0 := jF BK369.out 0
         have hfz80_1 := jF BK369.out 1
         try go_wp2
         have n0_ := jM (jp HO_370000.out)
         have n1_ := jM (jp HO_370001.out)
         have n2_ := jM (jp HO_378000.out)
         have n3_ := jM (jp HO_378001.out)
         have n4_ := jM (jZ BK359.out)
         have n5_ := jM (jZ BK369.out)
         have n6_ := jM (jZ BK377.out)
         have n7_ := jM (jD HB.out)
         clear HO_370000 HO_370001 HO_378000 HO_378001 BK359 BK369 BK377 HB
         have HO_370000 := n0_
         have HO_370001 := n1_
         have HO_378000 := n2_
         have HO_378001 := n3_
         have BK359 := n4_
         have BK369 := n5_
         have BK377 := n6_
         have HB := n7_
         clear n0_ n1_ n2_ n3_ n4_ n5_ n6_ n7_
         refine start_ (n := 15) (S := fun w' => w'.cell? ⟨gb359, 0, none⟩ = some (.slice A0_0 l0_0.length c0_0) ∧ w'.cell? ⟨gb359, 1, none⟩ = some (.slice A0_1 l0_1.length c0_1) ∧ w'.cell? ⟨gb359, 2, none⟩ = some (.slice A0_2 l0_2.length c0_2) ∧ w'.cell? ⟨gb359, 3, none⟩ = some (.slice A0_3 l0_3.length c0_3) ∧ w'.cell? ⟨gb359, 4, none⟩ = some (.int .i64 a0_4) ∧ w'.cell? ⟨gb369, 0, none⟩ = some (.slice Ao18 t362.length co18) ∧ w'.cell? ⟨gb369, 1, none⟩ = some (.slice Ao21 t365.length co21) ∧ w'.cell? ⟨gb377, 0, none⟩ = some (.slice Ao25 t370.length co25) ∧ w'.cell? ⟨gb377, 1, none⟩ = some (.slice Ao29 t373.length co29)) (ds := []) (tf 0 15) (by kernel_rfl) rfl rfl ⟨(jC BK359.out 0).trans rfl, (jC BK359.out 1).trans rfl, (jC BK359.out 2).trans rfl, (jC BK359.out 3).trans rfl, (jC BK359.out 4).trans rfl, (jC BK369.out 0).trans rfl, (jC BK369.out 1).trans rfl, (jC BK377.out 0).trans rfl, (jC BK377.out 1).trans rfl⟩ (fun hHeld => ?_); refine with_tabW sl14_StatesBuild.tab21 sl14_StatesBuild.bits21 (fun HT_ HW_ => ?_)
         generalize wr.drew = w81 at HO_370000 HO_370001 HO_378000 HO_378001 BK359 BK369 BK377 HB hHeld ⊢
         refine pU (i:=0) (N:=some 116) (tf 1 14) HT_ ?_
         refine pU (i:=1) (N:=some 117) (tf 2 13) HT_ ?_
         refine pU (i:=4) (N:=some 120) #[true, true, false, false, true, false, false, false, false, false, false, false, false, false, false] HT_ ?_
         refine pU (i:=5) (N:=some 121) #[true, true, false, false, true, true, false, false, false, false, false, false, false, false, false] HT_ ?_
         refine pU (i:=9) (N:=some 125) #[true, true, false, false, true, true, false, false, false, true, false, false, false, false, false] HT_ ?_
         refine pU (i:=10) (N:=some 126) #[true, true, false, false, true, true, false, false, false, true, true, false, false, false, false] HT_ ?_
         refine tU (i:=2) (N:=some 118) #[true, true, true, false, true, true, false, false, false, true, true, false, false, false, false] HT_ HW_ hHeld ?_
         refine tU (i:=3) (N:=some 119) #[true, true, true, true, true, true, false, false, false, true, true, false, false, false, false] HT_ HW_ hHeld ?_
         refine tU (i:=7) (N:=some 123) #[true, true, true, true, true, true, false, true, false, true, true, false, false, false, false] HT_ HW_ hHeld ?_
         refine tU (i:=8) (N:=some 124) #[true, true, true, true, true, true, false, true, true, true, true, false, false, false, false] HT_ HW_ hHeld ?_
         refine one_ (i := 6) (N := some 122) (tf 11 4) rfl rfl (one_of HT_.out (by kernel_rfl)) (by decide) (fun K hK => ?_)
         refine goes_ Tryd.func25 (by kernel_rfl) rfl #[.agg #[.slice A0_0 l0_0.length c0_0, .slice A0_1 l0_1.length c0_1, .slice A0_2 l0_2.length c0_2, .slice A0_3 l0_3.length c0_3, .int .i64 a0_4], .agg #[.slice Ao18 t362.length co18, .slice Ao21 t365.length co21], .int .i64 a1, .int .i64 a2] (by rfl) rfl rfl tM ?_
         with_reducible refine (states_Go.calls _ _ l0_0 _ _ l0_1 _ _ l0_2 _ _ l0_3 a0_4 _ _ t362 _ _ t365 a1 a2 t378 _ ?side1 ?side2 ?side3 ?side4 ?side5 ?side6 ?side7 ?side8 ?side9 ?side10 ?side11 ?side12 A76.out).mono ?_
         (case side1 => exact tC (jB HR0_0.out HB.out))
         (case side2 => exact HC0_0.out)
         (case side3 => exact tC (jB HR0_1.out HB.out))
         (case side4 => exact HC0_1.out)
         (case side5 => exact tC (jB HR0_2.out HB.out))
         (case side6 => exact HC0_2.out)
         (case side7 => exact tC (jB HR0_3.out HB.out))
         (case side8 => exact HC0_3.out)
         (case side9 => exact tC (Kd.N_reads' HO_370000.out).2.2)
         (case side10 => exact (Kd.N_reads' HO_370000.out).2.1)
         (case side11 => exact tC (Kd.N_reads' HO_370001.out).2.2)
         (case side12 => exact (Kd.N_reads' HO_370001.out).2.1)
         rintro e w82 ⟨rfl, hb⟩
         refine ⟨_, rfl, ?_⟩
         have n0_ := jM (Kd.N_below (tN HO_370000.out) hb)
         have n1_ := jM (Kd.N_below (tN HO_370001.out) hb)
         have n2_ := jM (Kd.N_below (tN HO_378000.out) hb)
         have n3_ := jM (Kd.N_below (tN HO_378001.out) hb)
         have n4_ := jM (jW (g := gb359) (o := .cells #[.slice A0_0 l0_0.length c0_0, .slice A0_1 l0_1.length c0_1, .slice A0_2 l0_2.length c0_2, .slice A0_3 l0_3.length c0_3, .int .i64 a0_4] 27 (0, 0)) (tK BK359.out) hb)
         have n5_ := jM (jW (g := gb369) (o := .cells #[.slice Ao18 t362.length co18, .slice Ao21 t365.length co21] 49 (0, 0)) (tK BK369.out) hb)
         have n6_ := jM (jW (g := gb377) (o := .cells #[.slice Ao25 t370.length co25, .slice Ao29 t373.length co29] 55 (0, 0)) (tK BK377.out) hb)
         have n7_ := jM (jT (by repeat (first | (with_reducible first | exact HB.out | apply jA | apply jN | apply jD | refine jS ?_ GE359.out | refine jS ?_ GE369.out | refine jS ?_ GE377.out) | exact HB.out)) hb)
         clear HO_370000 HO_370001 HO_378000 HO_378001 BK359 BK369 BK377 HB
         have HO_370000 := n0_
         have HO_370001 := n1_
         have HO_378000 := n2_
         have HO_378001 := n3_
         have BK359 := n4_
         have BK369 := n5_
         have BK377 := n6_
         have HB := n7_
         clear n0_ n1_ n2_ n3_ n4_ n5_ n6_ n7_
         (try clear hb)
         (try clear hb2)
         (try clear hk)
         (try clear hi)
         refine hK.out _ _ ⟨(jC BK359.out 0).trans rfl, (jC BK359.out 1).trans rfl, (jC BK359.out 2).trans rfl, (jC BK359.out 3).trans rfl, (jC BK359.out 4).trans rfl, (jC BK369.out 0).trans rfl, (jC BK369.out 1).trans rfl, (jC BK377.out 0).trans rfl, (jC BK377.out 1).trans rfl⟩ (fun hHeld => ?_)
         clear hK K
         refine nU (N:=some 122) ?_
         refine one_ (i := 11) (N := some 127) (tf 12 3) rfl rfl (one_of HT_.out (by kernel_rfl)) (by decide) (fun K hK => ?_)
         refine goes_ Tryd.func26 (by kernel_rfl) rfl #[.agg #[.slice A0_0 l0_0.length c0_0, .slice A0_1 l0_1.length c0_1, .slice A0_2 l0_2.length c0_2, .slice A0_3 l0_3.length c0_3, .int .i64 a0_4], .agg #[.slice Ao25 t370.length co25, .slice Ao29 t373.length co29], .int .i64 a1, .int .i64 a2] (by rfl) rfl rfl tM ?_
         with_reducible refine (sr14_Go.calls _ _ l0_0 _ _ l0_1 _ _ l0_2 _ _ l0_3 a0_4 _ _ t370 _ _ t373 a1 a2 t379 _ ?side1 ?side2 ?side3 ?side4 ?side5 ?side6 ?side7 ?side8 ?side9 ?side10 ?side11 ?side12 A77.out).mono ?_
         (case side1 => exact tC (jB HR0_0.out HB.out))
         (case side2 => exact HC0_0.out)
         (case side3 => exact tC (jB HR0_1.out HB.out))
         (case side4 => exact HC0_1.out)
         (case side5 => exact tC (jB HR0_2.out HB.out))
         (case side6 => exact HC0_2.out)
         (case side7 => exact tC (jB HR0_3.out HB.out))
         (case side8 => exact HC0_3.out)
         (case side9 => exact tC (Kd.N_reads' HO_378000.out).2.2)
         (case side10 => exact (Kd.N_reads' HO_378000.out).2.1)
         (case side11 => exact tC (Kd.N_reads' HO_378001.out).2.2)
         (case side12 => exact (Kd.N_reads' HO_378001.out).2.1)
         rintro e w83 ⟨rfl, hb⟩
         refine ⟨_, rfl, ?_⟩
         have n0_ := jM (Kd.N_below (tN HO_370000.out) hb)
         have n1_ := jM (Kd.N_below (tN HO_370001.out) hb)
         have n2_ := jM (Kd.N_below (tN HO_378000.out) hb)
         have n3_ := jM (Kd.N_below (tN HO_378001.out) hb)
         have n4_ := jM (jW (g := gb359) (o := .cells #[.slice A0_0 l0_0.length c0_0, .slice A0_1 l0_1.length c0_1, .slice A0_2 l0_2.length c0_2, .slice A0_3 l0_3.length c0_3, .int .i64 a0_4] 27 (0, 0)) (tK BK359.out) hb)
         have n5_ := jM (jW (g := gb369) (o := .cells #[.slice Ao18 t362.length co18, .slice Ao21 t365.length co21] 49 (0, 0)) (tK BK369.out) hb)
         have n6_ := jM (jW (g := gb377) (o := .cells #[.slice Ao25 t370.length co25, .slice Ao29 t373.length co29] 55 (0, 0)) (tK BK377.out) hb)
         have n7_ := jM (jT (by repeat (first | (with_reducible first | exact HB.out | apply jA | apply jN | apply jD | refine jS ?_ GE359.out | refine jS ?_ GE369.out | refine jS ?_ GE377.out) | exact HB.out)) hb)
         clear HO_370000 HO_370001 HO_378000 HO_378001 BK359 BK369 BK377 HB
         have HO_370000 := n0_
         have HO_370001 := n1_
         have HO_378000 := n2_
         have HO_378001 := n3_
         have BK359 := n4_
         have BK369 := n5_
         have BK377 := n6_
         have HB := n7_
         clear n0_ n1_ n2_ n3_ n4_ n5_ n6_ n7_
         (try clear hb)
         (try clear hb2)
         (try clear hk)
         (try clear hi)
         refine hK.out _ _ ⟨(jC BK359.out 0).trans rfl, (jC BK359.out 1).trans rfl, (jC BK359.out 2).trans rfl, (jC BK359.out 3).trans rfl, (jC BK359.out 4).trans rfl, (jC BK369.out 0).trans rfl, (jC BK369.out 1).trans rfl, (jC BK377.out 0).trans rfl, (jC BK377.out 1).trans rfl⟩ (fun hHeld => ?_)
         clear hK K
         refine nU (N:=some 127) ?_
         refine pU (i:=12) (N:=some 128) (tf 13 2) HT_ ?_
         refine pU (i:=13) (N:=some 129) (tf 14 1) HT_ ?_
         refine pU (i:=14) (N:=some 6) (tf 15 0) HT_ ?_
         refine done_ (done_of HT_.out (by kernel_rfl)) ?_
         try go_wp2
         go_ret
         exact ⟨by first | rfl | (simp [errW_none, errW_some] <;> rfl) | (simp [*, errW_none, errW_some] <;> rfl), by repeat (first | (with_reducible first | exact HB.out | apply jA | apply jN | apply jD | refine jS ?_ GE359.out | refine jS ?_ GE369.out | refine jS ?_ GE377.out) | exact HB.out)⟩
  ·replace c7 := Bool.eq_false_iff.mpr c7
   subst c7
   have H1 : (some true) = some r := by rw [if_neg (show ¬ (false = true) by decide)] at H; exact H
   clear H
   have H := H1
   clear H1
   obtain rfl := Option.some.inj H
   go_enter Tryd.func4, Tryd.ntmps4
   go_wp2_with (first | ((with_reducible refine gate_dst (N := 3) rfl ?_); (try (refine gate_guard (by rfl) ?_; dsimp only)); refine box_event ?hg (N := 3) ?hd (cs := #[.slice A0_0 l0_0.length c0_0, .slice A0_1 l0_1.length c0_1, .slice A0_2 l0_2.length c0_2, .slice A0_3 l0_3.length c0_3, .int .i64 a0_4]) (t := 27) ?hr ?_; (case hd => rfl); (case hg => rfl); (case hr => first | (go_simp; done) | (go_simp; rfl)); intro gb359 hg w84 hbox hb; have n0_ := jM (jT (tB HB.out) hb); have n1_ := jM (hbox); have n2_ := jM ((by rw [hg]; exact (below_size (tB HB.out)) : w.heap.size ≤ gb359)); have n3_ := jM ((by rw [hg]; exact (below_size (tB HB.out)) : w.heap.size ≤ gb359)); clear HB; have HB := n0_; have BK359 := n1_; have GW359 := n2_; have GE359 := n3_; clear n0_ n1_ n2_ n3_; clear hb hbox hg) | ((with_reducible refine gate_callee (f := 12) rfl ?_); refine goesL_ (some 15) rfl rfl Tryd.func12 (by kernel_rfl) rfl #[] rfl tM ?_; (with_reducible refine (sl14_works.calls  true _ ?side1 ?side2 A4.out).mono ?_); (case side1 => exact GTab.below HG.out (by repeat (first | (with_reducible first | exact HB.out | apply jA | apply jN | apply jD | refine jS ?_ GE359.out) | exact HB.out))); (case side2 => rfl); rintro e w85 ⟨rfl, hb⟩; refine ⟨_, rfl, ?_⟩; have n0_ := jM (jW (g := gb359) (o := .cells #[.slice A0_0 l0_0.length c0_0, .slice A0_1 l0_1.length c0_1, .slice A0_2 l0_2.length c0_2, .slice A0_3 l0_3.length c0_3, .int .i64 a0_4] 27 (0, 0)) (tK BK359.out) hb); have n1_ := jM (jT (by repeat (first | (with_reducible first | exact HB.out | apply jA | apply jN | apply jD | refine jS ?_ GE359.out) | exact HB.out)) hb); clear BK359; clear HB; have BK359 := n0_; have HB := n1_; clear n0_ n1_; (try clear hb); (try clear hb2); (try clear hk); (try clear hi); have hcz86_0 : w85.cell? ⟨gb359, 0, none⟩ = some (.slice A0_0 l0_0.length c0_0) := (jC BK359.out 0).trans rfl; have hcz86_1 : w85.cell? ⟨gb359, 1, none⟩ = some (.slice A0_1 l0_1.length c0_1) := (jC BK359.out 1).trans rfl; have hcz86_2 : w85.cell? ⟨gb359, 2, none⟩ = some (.slice A0_2 l0_2.length c0_2) := (jC BK359.out 2).trans rfl; have hcz86_3 : w85.cell? ⟨gb359, 3, none⟩ = some (.slice A0_3 l0_3.length c0_3) := (jC BK359.out 3).trans rfl; have hcz86_4 : w85.cell? ⟨gb359, 4, none⟩ = some (.int .i64 a0_4) := (jC BK359.out 4).trans rfl; have hfz86_0 := jF BK359.out 0; have hfz86_1 := jF BK359.out 1; have hfz86_2 := jF BK359.out 2; have hfz86_3 := jF BK359.out 3; have hfz86_4 := jF BK359.out 4) | ((with_reducible refine gate_callee (f := 22) rfl ?_); refine goesL_ (some 19) rfl rfl Tryd.func22 (by kernel_rfl) rfl #[.agg #[.slice A0_0 l0_0.length c0_0, .slice A0_1 l0_1.length c0_1, .slice A0_2 l0_2.length c0_2, .slice A0_3 l0_3.length c0_3, .int .i64 a0_4]] rfl tM ?_; (with_reducible refine (sl14_Little.calls k _ _ l0_0 _ _ l0_1 _ _ l0_2 _ _ l0_3 a0_4 false _ ?side1 ?side2 ?side3 ?side4 ?side5 ?side6 ?side7 ?side8 A6.out).mono ?_); (case side1 => exact tC (jB HR0_0.out HB.out)); (case side2 => exact HC0_0.out); (case side3 => exact tC (jB HR0_1.out HB.out)); (case side4 => exact HC0_1.out); (case side5 => exact tC (jB HR0_2.out HB.out)); (case side6 => exact HC0_2.out); (case side7 => exact tC (jB HR0_3.out HB.out)); (case side8 => exact HC0_3.out); rintro e w87 ⟨rfl, hb⟩; refine ⟨_, rfl, ?_⟩; have n0_ := jM (jW (g := gb359) (o := .cells #[.slice A0_0 l0_0.length c0_0, .slice A0_1 l0_1.length c0_1, .slice A0_2 l0_2.length c0_2, .slice A0_3 l0_3.length c0_3, .int .i64 a0_4] 27 (0, 0)) (tK BK359.out) hb); have n1_ := jM (jT (by repeat (first | (with_reducible first | exact HB.out | apply jA | apply jN | apply jD | refine jS ?_ GE359.out) | exact HB.out)) hb); clear BK359; clear HB; have BK359 := n0_; have HB := n1_; clear n0_ n1_; (try clear hb); (try clear hb2); (try clear hk); (try clear hi)))
   go_ret
   exact ⟨by first | rfl | (simp [errW_none, errW_some] <;> rfl) | (simp [*, errW_none, errW_some] <;> rfl), by repeat (first | (with_reducible first | exact HB.out | apply jA | apply jN | apply jD | refine jS ?_ GE359.out) | exact HB.out)⟩
 ·replace c5 := Bool.eq_false_iff.mpr c5
  subst c5
  have H1 : (some false) = some r := by rw [if_neg (show ¬ (false = true) by decide)] at H; exact H
  clear H
  have H := H1
  clear H1
  exact absurd ((Option.some.inj H).trans HT.out) (by decide)

end Go.Proofs.YtclollnicbcooaaDoor.P
end

section
namespace Go.Proofs.YtclollnicbcooaaDoor.Open
open Go Go.RowKit Go.ChangeShapes Go.WideShapes Go.Deep Go.Proofs.YtclollnicbcooaaDoorW.PrintWords

/-- What reads as data of type t is told by the kind d; 'wf': what is known of its numbers and texts. -/
structure Opens (P : Program) (t : TypeId) {α : Type} (d : Kd α) (wf : α → Prop) : Prop where
 sz : P.cellsOf t = d.sz
 down : ∀ {H : Type} {enc : TypeId × Value → H} {w : World} {base : Nat} {spare : Nat → Bool} {held : Bool} {fuel : Nat} {cs : List Value} {x : DataW H × List MemPlace},
  DataW.trod enc P w base spare held fuel t cs = some x → ∃ a : α, d.K w a cs ∧ wf a

variable {P : Program} {t e : TypeId} {α β : Type}

theorem opens_int {k : IntKind} (hc : P.cellsOf t = 1) (ht : P.underlying t = some (.int k)) : Opens P t (Kd.int k) (fun n => (Lit.int k n).wf = true) :=
 ⟨hc, fun h => by
  obtain ⟨n, rfl, _, hw⟩ := DataW.trod_int ht h
  exact ⟨n, rfl, hw⟩⟩
theorem opens_bool (hc : P.cellsOf t = 1) (ht : P.underlying t = some .bool) : Opens P t Kd.bool (fun _ => True) :=
 ⟨hc, fun h => by
  obtain ⟨b, rfl, _⟩ := DataW.trod_bool ht h
  exact ⟨b, rfl, trivial⟩⟩
theorem opens_string (hc : P.cellsOf t = 1) (ht : P.underlying t = some .string) : Opens P t Kd.string (fun s => s.size ≤ maxLen) :=
 ⟨hc, fun h => by
  obtain ⟨s, rfl, _, hs⟩ := DataW.trod_string ht h
  exact ⟨s, rfl, hs⟩⟩

theorem cells_at {w : World} {base n : Nat} {a : Addr} {cs : List Value} (h : w.cells? base a n = some cs) : cs.length = n ∧ ∀ i u, cs[i]? = some u → w.cell? (a.add i) = some u := by
 unfold World.cells? at h
 split at h
 ·have hl := mapM_some_length h
  rw [List.length_range] at hl
  refine ⟨hl, fun i u hu => ?_⟩
  have hi : i < n := by rw [← hl]; exact (List.getElem?_eq_some_iff.1 hu).1
  have := mapM_some_get h i i (by simp [hi])
  rw [this, hu]
 ·cases h

/-- A slice's elements, by the element's law. -/
theorem opens_slice {d : Kd α} {wf : α → Prop} (hc : P.cellsOf t = 1) (ht : P.underlying t = some (.slice e)) (he : Opens P e d wf) : Opens P t (Kd.slice e d) (fun xs => xs.length ≤ 9223372036854775807 ∧ ∀ x ∈ xs, wf x) :=
 ⟨hc, fun {H enc w base spare held fuel cs x} h => by
  rcases open_slice ht h with ⟨rfl, _⟩ | ⟨a, len, cap, m, n, D, Pl, rfl, hb, hl, hm, hmd, _, hel⟩
  ·exact ⟨[], ⟨none, 0, rfl, Nat.le_refl _, rfl, Nat.zero_le _, fun h => absurd h (Nat.lt_irrefl 0)⟩, Nat.zero_le _, fun x hx => by cases hx⟩
  ·have hlm : len ≤ m := by rw [hmd]; split <;> omega
   have hex : ∀ i, i < len → ∃ y : α, ∃ cs', w.cells? base (a.add (i * P.cellsOf e)) (P.cellsOf e) = some cs' ∧ d.K w y cs' ∧ wf y := fun i hi => by
    obtain ⟨cs', h1, h2⟩ := hel i (by omega)
    obtain ⟨y, hk, hw⟩ := he.down h2
    exact ⟨y, cs', h1, hk, hw⟩
   obtain ⟨f, hf⟩ : ∃ f : (i : Nat) → i < len → α, ∀ i hi, ∃ cs', w.cells? base (a.add (i * P.cellsOf e)) (P.cellsOf e) = some cs' ∧ d.K w (f i hi) cs' ∧ wf (f i hi) :=
    ⟨fun i hi => Classical.choose (hex i hi), fun i hi => Classical.choose_spec (hex i hi)⟩
   let xs : List α := List.ofFn (fun i : Fin len => f i.1 i.2)
   have hxl : xs.length = len := by simp [xs]
   refine ⟨xs, ⟨some a, cap, by rw [hxl], by rw [hxl]; exact hl, rfl, by rw [hxl]; unfold maxLen at hm; omega, fun _ => ⟨a, rfl, fun j p hj => ?_⟩⟩, by rw [hxl]; unfold maxLen at hm; omega, fun x hx => ?_⟩
   ·have hjl : j < len := by rw [← hxl]; exact (List.getElem?_eq_some_iff.1 hj).1
    obtain ⟨cs', h1, h2, _⟩ := hf j hjl
    have hp : p = f j hjl := by
     have := (List.getElem?_eq_some_iff.1 hj).2
     rw [← this]
     simp [xs]
    subst hp
    refine ⟨cs', d.K_len h2, h2, fun i u hu => ?_⟩
    have h3 := (cells_at h1).2 i u hu
    rw [Deep.add_add, he.sz] at h3
    exact h3
   ·obtain ⟨i, rfl⟩ := (List.mem_ofFn).1 hx
    exact (hf i.1 i.2).elim fun _ h => h.2.2⟩

/-- A struct's fields from one on. -/
structure OpensFs (P : Program) (fs : List Field) (off : Nat) {α : Type} (d : Kd α) (wf : α → Prop) : Prop where
 down : ∀ {H : Type} {enc : TypeId × Value → H} {w : World} {base : Nat} {spare : Nat → Bool} {held : Bool} {n : Nat} {cs : List Value}, cs.length = off + d.sz →
  (∀ f ∈ fs, ∃ y : DataW H × List MemPlace, DataW.trod enc P w base spare held n f.type ((cs.drop f.offset).take (P.cellsOf f.type)) = some y) → ∃ a : α, d.K w a (cs.drop off) ∧ wf a

theorem fields_one {f : Field} {off : Nat} {d : Kd α} {wf : α → Prop} (ho : f.offset = off) (hf : Opens P f.type d wf) : OpensFs P [f] off d wf :=
 ⟨fun {H enc w base spare held n cs} hl h => by
  obtain ⟨y, hy⟩ := h f (List.mem_singleton.2 rfl)
  rw [ho, hf.sz, List.take_of_length_le (by rw [List.length_drop]; omega)] at hy
  exact hf.down hy⟩
theorem fields_cons {f : Field} {fs : List Field} {off : Nat} {d : Kd α} {d' : Kd β} {wf : α → Prop} {wf' : β → Prop} (ho : f.offset = off) (hf : Opens P f.type d wf) (hr : OpensFs P fs (off + d.sz) d' wf') :
  OpensFs P (f :: fs) off (Kd.pair d d') (fun x => wf x.1 ∧ wf' x.2) :=
 ⟨fun {H enc w base spare held n cs} hl h => by
  have hl' : cs.length = off + (d.sz + d'.sz) := hl
  obtain ⟨y, hy⟩ := h f List.mem_cons_self
  rw [ho, hf.sz] at hy
  obtain ⟨a, ka, wa⟩ := hf.down hy
  obtain ⟨b, kb, wb⟩ := hr.down (by omega) (fun g hg => h g (List.mem_cons_of_mem _ hg))
  refine ⟨(a, b), ⟨_, _, ?_, ka, kb⟩, wa, wb⟩
  rw [← List.drop_drop, List.take_append_drop]⟩

theorem opens_struct {fs : Array Field} {d : Kd α} {wf : α → Prop} {f : β → α} (g : α → β) (hfg : ∀ a, f (g a) = a) (hc : P.cellsOf t = d.sz) (ht : P.underlying t = some (.struct fs)) (hf : OpensFs P fs.toList 0 d wf) :
  Opens P t (Kd.iso d f) (fun b => wf (f b)) :=
 ⟨hc, fun h => by
  obtain ⟨xs, n, rfl, _, hl, hx, hel⟩ := DataW.trod_struct ht h
  obtain ⟨a, ka, wa⟩ := hf.down (by rw [hl, hc]; simp) (fun q hq => by
   obtain ⟨i, hi, rfl⟩ := List.getElem_of_mem hq
   have h1 := hel i (fs.toList[i]) (by simp)
   have hi2 : i < xs.length := by rw [hx]; simpa using hi
   exact ⟨xs[i], by rw [h1]; exact List.getElem?_eq_getElem hi2⟩)
  exact ⟨g a, by show d.K _ (f (g a)) _; rw [hfg]; simpa using ka, by rw [hfg]; exact wa⟩⟩

/-- An array of two. -/
theorem opens_two {d : Kd α} {wf : α → Prop} {f : β → α × α} (g : α × α → β) (hfg : ∀ a, f (g a) = a) (hc : P.cellsOf t = d.sz + d.sz) (ht : P.underlying t = some (.array 2 e)) (he : Opens P e d wf) :
  Opens P t (Kd.iso (Kd.pair d d) f) (fun b => wf (f b).1 ∧ wf (f b).2) :=
 ⟨hc, fun {H enc w base spare held fuel cs x} h => by
  obtain ⟨xs, n, rfl, _, hl, hx, hel⟩ := DataW.trod_array ht h
  have h0 := hel 0 (by omega)
  have h1 := hel 1 (by omega)
  rw [List.getElem?_eq_getElem (by omega)] at h0 h1
  rw [he.sz] at h0 h1
  rw [Nat.zero_mul, List.drop_zero] at h0
  rw [Nat.one_mul, List.take_of_length_le (by rw [List.length_drop]; omega)] at h1
  obtain ⟨a, ka, wa⟩ := he.down h0
  obtain ⟨b, kb, wb⟩ := he.down h1
  refine ⟨g (a, b), ?_, by rw [hfg]; exact ⟨wa, wb⟩⟩
  show (Kd.pair d d).K w (f (g (a, b))) cs
  rw [hfg]
  exact ⟨_, _, (List.take_append_drop _ _).symm, ka, kb⟩⟩

/-- A value of more cells than one is written out. -/
theorem agg_of {v : Value} {cs : List Value} (h : v.cells.toList = cs) (hl : cs.length ≠ 1) : v = .agg cs.toArray := by
 subst h
 cases v <;> first | rfl | exact absurd rfl hl

end Go.Proofs.YtclollnicbcooaaDoor.Open
end

section
namespace Go.Proofs.YtclollnicbcooaaDoor.P
open Go.RowKit Go.Proofs.YtclollnicbcooaaDoor.Open Go.Proofs.YtclollnicbcooaaDoorW.PrintWords
def wf82 (x : S82) : Prop := (x.f0.size ≤ maxLen) ∧ ((x.f1.size ≤ maxLen) ∧ ((True) ∧ (((Lit.int .i64 x.f3).wf = true))))
theorem opens82 : Opens Tryd.prog 82 k82 wf82 := opens_struct (fun a => ⟨a.1, a.2.1, a.2.2.1, a.2.2.2⟩) (fun _ => rfl) (by kernel_rfl) Tryd.underlying82 (fields_cons rfl (opens_string (by kernel_rfl) Tryd.underlying9) (fields_cons rfl (opens_string (by kernel_rfl) Tryd.underlying9) (fields_cons rfl (opens_bool (by kernel_rfl) Tryd.underlying4) (fields_one rfl (opens_int (by kernel_rfl) Tryd.underlying3)))))
def wf101 (x : S101) : Prop := ((Lit.int .i64 x.f0).wf = true) ∧ (((Lit.int .i64 x.f1).wf = true))
theorem opens101 : Opens Tryd.prog 101 k101 wf101 := opens_two (fun a => ⟨a.1, a.2⟩) (fun _ => rfl) (by kernel_rfl) Tryd.underlying101 (opens_int (by kernel_rfl) Tryd.underlying3)
def wf64 (x : S64) : Prop := (x.f0.size ≤ maxLen) ∧ (((Lit.int .i64 x.f1).wf = true) ∧ ((x.f2.length ≤ 9223372036854775807 ∧ ∀ y ∈ x.f2, (Lit.int .i64 y).wf = true) ∧ (((Lit.int .i64 x.f3).wf = true))))
theorem opens64 : Opens Tryd.prog 64 k64 wf64 := opens_struct (fun a => ⟨a.1, a.2.1, a.2.2.1, a.2.2.2⟩) (fun _ => rfl) (by kernel_rfl) Tryd.underlying64 (fields_cons rfl (opens_string (by kernel_rfl) Tryd.underlying9) (fields_cons rfl (opens_int (by kernel_rfl) Tryd.underlying3) (fields_cons rfl (opens_slice (by kernel_rfl) Tryd.underlying62 (opens_int (by kernel_rfl) Tryd.underlying29)) (fields_one rfl (opens_int (by kernel_rfl) Tryd.underlying3)))))
def wf27 (x : S27) : Prop := (x.f0.length ≤ 9223372036854775807 ∧ ∀ y ∈ x.f0, wf82 y) ∧ ((x.f1.length ≤ 9223372036854775807 ∧ ∀ y ∈ x.f1, wf101 y) ∧ ((x.f2.length ≤ 9223372036854775807 ∧ ∀ y ∈ x.f2, y.size ≤ maxLen) ∧ ((x.f3.length ≤ 9223372036854775807 ∧ ∀ y ∈ x.f3, wf64 y) ∧ (((Lit.int .i64 x.f4).wf = true)))))
theorem opens27 : Opens Tryd.prog 27 k27 wf27 := opens_struct (fun a => ⟨a.1, a.2.1, a.2.2.1, a.2.2.2.1, a.2.2.2.2⟩) (fun _ => rfl) (by kernel_rfl) Tryd.underlying27 (fields_cons rfl (opens_slice (by kernel_rfl) Tryd.underlying22 opens82) (fields_cons rfl (opens_slice (by kernel_rfl) Tryd.underlying23 opens101) (fields_cons rfl (opens_slice (by kernel_rfl) Tryd.underlying24 (opens_string (by kernel_rfl) Tryd.underlying9)) (fields_cons rfl (opens_slice (by kernel_rfl) Tryd.underlying25 opens64) (fields_one rfl (opens_int (by kernel_rfl) Tryd.underlying3))))))
def wf37 (x : S37) : Prop := ((Lit.int .i64 x.f0).wf = true) ∧ (((Lit.int .i64 x.f1).wf = true))
end Go.Proofs.YtclollnicbcooaaDoor.P
end
