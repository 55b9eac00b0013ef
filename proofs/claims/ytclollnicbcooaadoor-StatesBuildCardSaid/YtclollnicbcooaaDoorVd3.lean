/- Texts of this claim put together: Px10, Px12, Px13, Px14. -/
import Derived.Test.YtclollnicbcooaaDoorVd0
import Derived.Test.YtclollnicbcooaaDoorVd2
set_option linter.unusedVariables false
set_option linter.unusedSimpArgs false
set_option linter.unusedSectionVars false
section
namespace Go.Proofs.YtclollnicbcooaaDoor.P
open Go.RowKit Go.Proofs.YtclollnicbcooaaDoorW.PrintWords Go.Proofs.YtclollnicbcooaaDoorW.PrintLast Go.Proofs.YtclollnicbcooaaDoorW.PrintMore
attribute [local go_sem] max2_int min2_int max_two min_two max_three min_three max_four min_four

/-! ### sr14_Behind: function 16 -/
def sr14_Behind.f (l0_0 : List (S82)) (l0_1 : List (S101)) (l0_2 : List ByteArray) (l0_3 : List (S64)) (a0_4 : Int) (a1_0 : Int) (a1_1 : Int) : Option (Int × Bool) := (sr14_Is.f l0_0 l0_1 l0_2 l0_3 a0_4 a1_0 a1_1).bind fun t226 => (if t226 = true then ((sr14_Right.f l0_0 l0_1 l0_2 l0_3 a0_4 a1_0).bind fun t227 => (if a1_1 ≥ (t227.length : Int) then (some (0, false)) else ((sr14_Right.f l0_0 l0_1 l0_2 l0_3 a0_4 a1_0).bind fun t230 => (if 0 ≤ a1_1 then (if a1_1 < (t230.length : Int) then (some (rd t230 a1_1, true)) else (none)) else (none))))) else (some (0, false)))
def sr14_Behind.T1 : Bool × List (List Nat × List Nat) := (true, [([], []), ([], []), ([0, 1], [0, 1]), ([2], [2]), ([3, 2], [3]), ([4], [4]), ([5, 4], [4, 5]), ([4], [4]), ([4], [4]), ([8, 4], [4, 8]), ([7, 9, 4, 4], [4, 7, 9]), ([10, 4], [4, 10]), ([6, 11, 4], [4, 6, 11]), ([4, 12], [4, 12])])
def sr14_Behind.B1 : List Nat := [0, 0, 3, 7, 15, 31, 63, 31, 31, 287, 927, 1951, 4095, 8191]
theorem sr14_Behind.tab1 : rtab .any (opsOf Tryd.f16 1) = sr14_Behind.T1 := by kernel_rfl
theorem sr14_Behind.bits1 : waitsOk sr14_Behind.T1.2 sr14_Behind.B1 = true := by kernel_rfl
def sr14_Behind.T3 : Bool × List (List Nat × List Nat) := (true, [([], []), ([], []), ([1], [1]), ([0, 2], [0, 2]), ([], []), ([4], [4]), ([3, 5], [3, 5]), ([6], [6]), ([7, 3, 0, 1, 2, 3, 4, 5, 6, 7], [7]), ([8, 0, 1, 2, 3, 4, 5, 6, 7, 8], [])])
def sr14_Behind.B3 : List Nat := [0, 0, 2, 7, 0, 16, 63, 127, 255, 511]
set_option maxHeartbeats 8000000 in
set_option maxRecDepth 100000 in
theorem sr14_Behind.calls (A0_0 : Option Addr) (c0_0 : Nat) (l0_0 : List (S82)) (A0_1 : Option Addr) (c0_1 : Nat) (l0_1 : List (S101)) (A0_2 : Option Addr) (c0_2 : Nat) (l0_2 : List ByteArray) (A0_3 : Option Addr) (c0_3 : Nat) (l0_3 : List (S64)) (a0_4 : Int) (a1_0 : Int) (a1_1 : Int) (r1 : Int) (r2 : Bool) (w : World) (hr0_0 : Kd.C k82 w A0_0 l0_0.length l0_0) (hc0_0 : l0_0.length ≤ c0_0) (hr0_1 : Kd.C k101 w A0_1 l0_1.length l0_1) (hc0_1 : l0_1.length ≤ c0_1) (hr0_2 : Kd.C Kd.string w A0_2 l0_2.length l0_2) (hc0_2 : l0_2.length ≤ c0_2) (hr0_3 : Kd.C k64 w A0_3 l0_3.length l0_3) (hc0_3 : l0_3.length ≤ c0_3) (h : sr14_Behind.f l0_0 l0_1 l0_2 l0_3 a0_4 a1_0 a1_1 = some (r1, r2)) :
  Calls Tryd.prog 16 #[.agg #[.slice A0_0 l0_0.length c0_0, .slice A0_1 l0_1.length c0_1, .slice A0_2 l0_2.length c0_2, .slice A0_3 l0_3.length c0_3, .int .i64 a0_4], .agg #[.int .i64 a1_0, .int .i64 a1_1]] w fun e w' => e = .returned (.tuple #[.int .i64 r1, .bool r2]) ∧ Below w.heap.size w w' := by
 have hu27 := Tryd.underlying27
 have hu39 := Tryd.underlying39
 have HR0_0 := jM hr0_0
 have HC0_0 := jM hc0_0
 clear hr0_0 hc0_0
 have HR0_1 := jM hr0_1
 have HC0_1 := jM hc0_1
 clear hr0_1 hc0_1
 have HR0_2 := jM hr0_2
 have HC0_2 := jM hc0_2
 clear hr0_2 hc0_2
 have HR0_3 := jM hr0_3
 have HC0_3 := jM hc0_3
 clear hr0_3 hc0_3
 have HB := jM (Below.refl w.heap.size w)
 have H : ((sr14_Is.f l0_0 l0_1 l0_2 l0_3 a0_4 a1_0 a1_1).bind fun t226 => (if t226 = true then ((sr14_Right.f l0_0 l0_1 l0_2 l0_3 a0_4 a1_0).bind fun t227 => (if a1_1 ≥ (t227.length : Int) then (some (0, false)) else ((sr14_Right.f l0_0 l0_1 l0_2 l0_3 a0_4 a1_0).bind fun t230 => (if 0 ≤ a1_1 then (if a1_1 < (t230.length : Int) then (some (rd t230 a1_1, true)) else (none)) else (none))))) else (some (0, false)))) = some (r1, r2) := h
 clear h
 replace H := Option.bind_eq_some_iff.mp H
 obtain ⟨t226, A30, H⟩ := H
 replace H : (if t226 = true then ((sr14_Right.f l0_0 l0_1 l0_2 l0_3 a0_4 a1_0).bind fun t227 => (if a1_1 ≥ (t227.length : Int) then (some (0, false)) else ((sr14_Right.f l0_0 l0_1 l0_2 l0_3 a0_4 a1_0).bind fun t230 => (if 0 ≤ a1_1 then (if a1_1 < (t230.length : Int) then (some (rd t230 a1_1, true)) else (none)) else (none))))) else (some (0, false))) = some (r1, r2) := H
 have A3 := jM A30
 clear A30
 by_cases c4 : t226 = true
 ·subst c4
  have H1 : ((sr14_Right.f l0_0 l0_1 l0_2 l0_3 a0_4 a1_0).bind fun t227 => (if a1_1 ≥ (t227.length : Int) then (some (0, false)) else ((sr14_Right.f l0_0 l0_1 l0_2 l0_3 a0_4 a1_0).bind fun t230 => (if 0 ≤ a1_1 then (if a1_1 < (t230.length : Int) then (some (rd t230 a1_1, true)) else (none)) else (none))))) = some (r1, r2) := by rw [if_pos rfl] at H; exact H
  clear H
  have H := H1
  clear H1
  replace H := Option.bind_eq_some_iff.mp H
  obtain ⟨t227, A50, H⟩ := H
  replace H : (if a1_1 ≥ (t227.length : Int) then (some (0, false)) else ((sr14_Right.f l0_0 l0_1 l0_2 l0_3 a0_4 a1_0).bind fun t230 => (if 0 ≤ a1_1 then (if a1_1 < (t230.length : Int) then (some (rd t230 a1_1, true)) else (none)) else (none)))) = some (r1, r2) := H
  have A5 := jM A50
  clear A50
  by_cases c6 : a1_1 ≥ (t227.length : Int)
  ·rw [if_pos c6] at H
   have c6b0 : decide ((t227.length : Int) ≤ a1_1) = true := decide_eq_true c6
   clear c6
   simp only [Option.some.injEq, Prod.mk.injEq] at H
   obtain ⟨rfl, rfl⟩ := H
   go_enter Tryd.func16, Tryd.ntmps16
   try go_wp2_with (first | ((with_reducible refine gate_dst (N := 2) rfl ?_); (try (refine gate_guard (by rfl) ?_; dsimp only)); refine box_event ?hg (N := 2) ?hd (cs := #[.slice A0_0 l0_0.length c0_0, .slice A0_1 l0_1.length c0_1, .slice A0_2 l0_2.length c0_2, .slice A0_3 l0_3.length c0_3, .int .i64 a0_4]) (t := 27) ?hr ?_; (case hd => rfl); (case hg => rfl); (case hr => first | (go_simp; done) | (go_simp; rfl)); intro gb224 hg w7 hbox hb; have n0_ := jM (jT (tB HB.out) hb); have n1_ := jM (hbox); have n2_ := jM ((by rw [hg]; exact (below_size (tB HB.out)) : w.heap.size ≤ gb224)); have n3_ := jM ((by rw [hg]; exact (below_size (tB HB.out)) : w.heap.size ≤ gb224)); clear HB; have HB := n0_; have BK224 := n1_; have GW224 := n2_; have GE224 := n3_; clear n0_ n1_ n2_ n3_; clear hb hbox hg) | ((with_reducible refine gate_dst (N := 3) rfl ?_); (try (refine gate_guard (by rfl) ?_; dsimp only)); refine box_event ?hg (N := 3) ?hd (cs := #[.int .i64 a1_0, .int .i64 a1_1]) (t := 39) ?hr ?_; (case hd => rfl); (case hg => rfl); (case hr => first | (go_simp; done) | (go_simp; rfl)); intro gb225 hg w8 hbox hb; have n0_ := jM (jW (g := gb224) (o := .cells #[.slice A0_0 l0_0.length c0_0, .slice A0_1 l0_1.length c0_1, .slice A0_2 l0_2.length c0_2, .slice A0_3 l0_3.length c0_3, .int .i64 a0_4] 27 (0, 0)) (tK BK224.out) hb); have n1_ := jM (jT (by repeat (first | (with_reducible first | exact HB.out | apply jA | apply jN | apply jD | refine jS ?_ GE224.out) | exact HB.out)) hb); have n2_ := jM (hbox); have n3_ := jM ((by rw [hg]; exact (below_size (by repeat (first | (with_reducible first | exact HB.out | apply jA | apply jN | apply jD | refine jS ?_ GE224.out) | exact HB.out))) : w.heap.size ≤ gb225)); have n4_ := jM ((by rw [hg]; exact (below_size (by repeat (first | (with_reducible first | exact HB.out | apply jA | apply jN | apply jD | refine jS ?_ GE224.out) | exact HB.out))) : w.heap.size ≤ gb225)); have n5_ := jM ((by rw [hg]; exact Nat.ne_of_lt (blk_lt (g := gb224) (o := .cells #[.slice A0_0 l0_0.length c0_0, .slice A0_1 l0_1.length c0_1, .slice A0_2 l0_2.length c0_2, .slice A0_3 l0_3.length c0_3, .int .i64 a0_4] 27 (0, 0)) (tK BK224.out)) : gb224 ≠ gb225)); have n6_ := jM ((by rw [hg]; exact Nat.ne_of_gt (blk_lt (g := gb224) (o := .cells #[.slice A0_0 l0_0.length c0_0, .slice A0_1 l0_1.length c0_1, .slice A0_2 l0_2.length c0_2, .slice A0_3 l0_3.length c0_3, .int .i64 a0_4] 27 (0, 0)) (tK BK224.out)) : gb225 ≠ gb224)); clear BK224; clear HB; have BK224 := n0_; have HB := n1_; have BK225 := n2_; have GW225 := n3_; have GE225 := n4_; have NB224_225 := n5_; have NB225_224 := n6_; clear n0_ n1_ n2_ n3_ n4_ n5_ n6_; clear hb hbox hg))
   have n0_ := jM (jZ BK224.out)
   have n1_ := jM (jZ BK225.out)
   have n2_ := jM (jD HB.out)
   clear BK224 BK225 HB
   have BK224 := n0_
   have BK225 := n1_
   have HB := n2_
   clear n0_ n1_ n2_
   refine start_ (n := 14) (S := fun w' => w'.cell? ⟨gb224, 0, none⟩ = some (.slice A0_0 l0_0.length c0_0) ∧ w'.cell? ⟨gb224, 1, none⟩ = some (.slice A0_1 l0_1.length c0_1) ∧ w'.cell? ⟨gb224, 2, none⟩ = some (.slice A0_2 l0_2.length c0_2) ∧ w'.cell? ⟨gb224, 3, none⟩ = some (.slice A0_3 l0_3.length c0_3) ∧ w'.cell? ⟨gb224, 4, none⟩ = some (.int .i64 a0_4) ∧ w'.cell? ⟨gb225, 0, none⟩ = some (.int .i64 a1_0) ∧ w'.cell? ⟨gb225, 1, none⟩ = some (.int .i64 a1_1)) (ds := []) (tf 0 14) (by kernel_rfl) rfl rfl ⟨(jC BK224.out 0).trans rfl, (jC BK224.out 1).trans rfl, (jC BK224.out 2).trans rfl, (jC BK224.out 3).trans rfl, (jC BK224.out 4).trans rfl, (jC BK225.out 0).trans rfl, (jC BK225.out 1).trans rfl⟩ (fun hHeld => ?_); refine with_tabW sr14_Behind.tab1 sr14_Behind.bits1 (fun HT_ HW_ => ?_)
   generalize w8.drew = w9 at BK224 BK225 HB hHeld ⊢
   refine tU (i:=0) (N:=some 6) (tf 1 13) HT_ HW_ hHeld ?_
   refine tU (i:=1) (N:=some 7) (tf 2 12) HT_ HW_ hHeld ?_
   refine one_ (i := 2) (N := some 8) (tf 3 11) rfl rfl (one_of HT_.out (by kernel_rfl)) (by decide) (fun K hK => ?_)
   refine goes_ Tryd.func36 (by kernel_rfl) rfl #[.agg #[.slice A0_0 l0_0.length c0_0, .slice A0_1 l0_1.length c0_1, .slice A0_2 l0_2.length c0_2, .slice A0_3 l0_3.length c0_3, .int .i64 a0_4], .agg #[.int .i64 a1_0, .int .i64 a1_1]] (by rfl) rfl rfl tM ?_
   with_reducible refine (sr14_Is.calls _ _ l0_0 _ _ l0_1 _ _ l0_2 _ _ l0_3 a0_4 a1_0 a1_1 true _ ?side1 ?side2 ?side3 ?side4 ?side5 ?side6 ?side7 ?side8 A3.out).mono ?_
   (case side1 => exact tC (jB HR0_0.out HB.out))
   (case side2 => exact HC0_0.out)
   (case side3 => exact tC (jB HR0_1.out HB.out))
   (case side4 => exact HC0_1.out)
   (case side5 => exact tC (jB HR0_2.out HB.out))
   (case side6 => exact HC0_2.out)
   (case side7 => exact tC (jB HR0_3.out HB.out))
   (case side8 => exact HC0_3.out)
   rintro e w10 ⟨rfl, hb⟩
   refine ⟨_, rfl, ?_⟩
   have n0_ := jM (jW (g := gb224) (o := .cells #[.slice A0_0 l0_0.length c0_0, .slice A0_1 l0_1.length c0_1, .slice A0_2 l0_2.length c0_2, .slice A0_3 l0_3.length c0_3, .int .i64 a0_4] 27 (0, 0)) (tK BK224.out) hb)
   have n1_ := jM (jW (g := gb225) (o := .cells #[.int .i64 a1_0, .int .i64 a1_1] 39 (0, 0)) (tK BK225.out) hb)
   have n2_ := jM (jT (by repeat (first | (with_reducible first | exact HB.out | apply jA | apply jN | apply jD | refine jS ?_ GE224.out | refine jS ?_ GE225.out) | exact HB.out)) hb)
   clear BK224 BK225 HB
   have BK224 := n0_
   have BK225 := n1_
   have HB := n2_
   clear n0_ n1_ n2_
   (try clear hb)
   (try clear hb2)
   (try clear hk)
   (try clear hi)
   refine hK.out _ _ ⟨(jC BK224.out 0).trans rfl, (jC BK224.out 1).trans rfl, (jC BK224.out 2).trans rfl, (jC BK224.out 3).trans rfl, (jC BK224.out 4).trans rfl, (jC BK225.out 0).trans rfl, (jC BK225.out 1).trans rfl⟩ (fun hHeld => ?_)
   clear hK K
   refine nU (N:=some 8) ?_
   refine pU (i:=3) (N:=some 9) (tf 4 10) HT_ ?_
   refine pU (i:=4) (N:=some 10) (tf 5 9) HT_ ?_
   refine pU (i:=5) (N:=some 11) (tf 6 8) HT_ ?_
   refine pU (i:=8) (N:=some 14) #[true, true, true, true, true, true, false, false, true, false, false, false, false, false] HT_ ?_
   refine tU (i:=6) (N:=some 12) #[true, true, true, true, true, true, true, false, true, false, false, false, false, false] HT_ HW_ hHeld ?_
   refine tU (i:=7) (N:=some 13) (tf 9 5) HT_ HW_ hHeld ?_
   refine tU (i:=9) (N:=some 15) (tf 10 4) HT_ HW_ hHeld ?_
   refine one_ (i := 10) (N := some 16) (tf 11 3) rfl rfl (one_of HT_.out (by kernel_rfl)) (by decide) (fun K hK => ?_)
   refine goes_ Tryd.func37 (by kernel_rfl) rfl #[.agg #[.slice A0_0 l0_0.length c0_0, .slice A0_1 l0_1.length c0_1, .slice A0_2 l0_2.length c0_2, .slice A0_3 l0_3.length c0_3, .int .i64 a0_4], .int .i64 a1_0] (by rfl) rfl rfl tM ?_
   with_reducible refine (sr14_Right.calls _ _ l0_0 _ _ l0_1 _ _ l0_2 (fun k_ => k_ < w.heap.size) _ _ l0_3 a0_4 a1_0 t227 _ ?side1 ?side2 ?side3 ?side4 ?side5 ?side6 ?side7 A5.out).mono ?_
   (case side1 => exact tC (jB HR0_0.out HB.out))
   (case side2 => exact HC0_0.out)
   (case side3 => exact tC (jB HR0_1.out HB.out))
   (case side4 => exact HC0_1.out)
   (case side5 => exact tC (jB HR0_2.out HB.out))
   (case side6 => exact HC0_2.out)
   (case side7 => exact Kd.V_mk HC0_3.out (Kd.F_below (Kd.C_F k64_heap HR0_3.out) (by repeat (first | (with_reducible first | exact HB.out | apply jA | apply jN | apply jD | refine jS ?_ GE224.out | refine jS ?_ GE225.out) | exact HB.out))))
   rintro e w11 ⟨v228, rfl, ho0, hb⟩
   refine ⟨_, rfl, ?_⟩
   have n0_ := jM (Kd.V_lower (Kd.V_mono (ok' := fun k_ => k_ ≠ gb224 ∧ k_ ≠ gb225) ho0 (fun k_ hk_ => ⟨Or.elim hk_ (fun hs_ => fun e_ => Nat.not_le.2 hs_ (by rw [e_]; exact GW224.out)) (fun hn_ => (Kd.freshB (g := gb224) (o := .cells #[.slice A0_0 l0_0.length c0_0, .slice A0_1 l0_1.length c0_1, .slice A0_2 l0_2.length c0_2, .slice A0_3 l0_3.length c0_3, .int .i64 a0_4] 27 (0, 0)) (tK BK224.out) k_ hn_)), Or.elim hk_ (fun hs_ => fun e_ => Nat.not_le.2 hs_ (by rw [e_]; exact GW225.out)) (fun hn_ => (Kd.freshB (g := gb225) (o := .cells #[.int .i64 a1_0, .int .i64 a1_1] 39 (0, 0)) (tK BK225.out) k_ hn_))⟩)) (below_size (by repeat (first | (with_reducible first | exact HB.out | apply jA | apply jN | apply jD | refine jS ?_ GE224.out | refine jS ?_ GE225.out) | exact HB.out))))
   have n1_ := jM (jW (g := gb224) (o := .cells #[.slice A0_0 l0_0.length c0_0, .slice A0_1 l0_1.length c0_1, .slice A0_2 l0_2.length c0_2, .slice A0_3 l0_3.length c0_3, .int .i64 a0_4] 27 (0, 0)) (tK BK224.out) hb)
   have n2_ := jM (jW (g := gb225) (o := .cells #[.int .i64 a1_0, .int .i64 a1_1] 39 (0, 0)) (tK BK225.out) hb)
   have n3_ := jM (jT (by repeat (first | (with_reducible first | exact HB.out | apply jA | apply jN | apply jD | refine jS ?_ GE224.out | refine jS ?_ GE225.out) | exact HB.out)) hb)
   clear BK224 BK225 HB
   have HO229 := n0_
   have BK224 := n1_
   have BK225 := n2_
   have HB := n3_
   clear n0_ n1_ n2_ n3_
   (try clear hb)
   (try clear hb2)
   (try clear hk)
   (try clear hi)
   (try clear ho0)
   obtain ⟨Ao12, co12, eo12⟩ := Kd.V_slice HO229.out
   (first | subst eo12 | (injection eo12 with f1_ f2_ f3_; have f4_ := f1_.symm; have f5_ := f3_.symm; clear f1_ f2_ f3_; subst f4_; subst f5_))
   refine hK.out _ _ ⟨(jC BK224.out 0).trans rfl, (jC BK224.out 1).trans rfl, (jC BK224.out 2).trans rfl, (jC BK224.out 3).trans rfl, (jC BK224.out 4).trans rfl, (jC BK225.out 0).trans rfl, (jC BK225.out 1).trans rfl⟩ (fun hHeld => ?_)
   clear hK K
   refine nU (N:=some 16) ?_
   refine pU (i:=11) (N:=some 17) (tf 12 2) HT_ ?_
   refine pU (i:=12) (N:=some 18) (tf 13 1) HT_ ?_
   refine pU (i:=13) (N:=some 19) (tf 14 0) HT_ ?_
   refine done_ (done_of HT_.out (by kernel_rfl)) ?_
   try go_wp2
   go_ret2
   exact ⟨by first | rfl | (simp [errW_none, errW_some] <;> rfl) | (simp [*, errW_none, errW_some] <;> rfl), by repeat (first | (with_reducible first | exact HB.out | apply jA | apply jN | apply jD | refine jS ?_ GE224.out | refine jS ?_ GE225.out) | exact HB.out)⟩
  ·rw [if_neg c6] at H
   have c6b0 : decide ((t227.length : Int) ≤ a1_1) = false := decide_eq_false c6
   clear c6
   replace H := Option.bind_eq_some_iff.mp H
   obtain ⟨t230, A130, H⟩ := H
   replace H : (if 0 ≤ a1_1 then (if a1_1 < (t230.length : Int) then (some (rd t230 a1_1, true)) else (none)) else (none)) = some (r1, r2) := H
   have A13 := jM A130
   clear A130
   by_cases c14 : 0 ≤ a1_1
   ·rw [if_pos c14] at H
    have c14b0 : decide (0 ≤ a1_1) = true := decide_eq_true c14
    clear c14
    by_cases c15 : a1_1 < (t230.length : Int)
    ·rw [if_pos c15] at H
     have c15b0 : decide (a1_1 < (t230.length : Int)) = true := decide_eq_true c15
     clear c15
     simp only [Option.some.injEq, Prod.mk.injEq] at H
     obtain ⟨rfl, rfl⟩ := H
     go_enter Tryd.func16, Tryd.ntmps16
     try go_wp2_with (first | ((with_reducible refine gate_dst (N := 2) rfl ?_); (try (refine gate_guard (by rfl) ?_; dsimp only)); refine box_event ?hg (N := 2) ?hd (cs := #[.slice A0_0 l0_0.length c0_0, .slice A0_1 l0_1.length c0_1, .slice A0_2 l0_2.length c0_2, .slice A0_3 l0_3.length c0_3, .int .i64 a0_4]) (t := 27) ?hr ?_; (case hd => rfl); (case hg => rfl); (case hr => first | (go_simp; done) | (go_simp; rfl)); intro gb224 hg w16 hbox hb; have n0_ := jM (jT (tB HB.out) hb); have n1_ := jM (hbox); have n2_ := jM ((by rw [hg]; exact (below_size (tB HB.out)) : w.heap.size ≤ gb224)); have n3_ := jM ((by rw [hg]; exact (below_size (tB HB.out)) : w.heap.size ≤ gb224)); clear HB; have HB := n0_; have BK224 := n1_; have GW224 := n2_; have GE224 := n3_; clear n0_ n1_ n2_ n3_; clear hb hbox hg) | ((with_reducible refine gate_dst (N := 3) rfl ?_); (try (refine gate_guard (by rfl) ?_; dsimp only)); refine box_event ?hg (N := 3) ?hd (cs := #[.int .i64 a1_0, .int .i64 a1_1]) (t := 39) ?hr ?_; (case hd => rfl); (case hg => rfl); (case hr => first | (go_simp; done) | (go_simp; rfl)); intro gb225 hg w17 hbox hb; have n0_ := jM (jW (g := gb224) (o := .cells #[.slice A0_0 l0_0.length c0_0, .slice A0_1 l0_1.length c0_1, .slice A0_2 l0_2.length c0_2, .slice A0_3 l0_3.length c0_3, .int .i64 a0_4] 27 (0, 0)) (tK BK224.out) hb); have n1_ := jM (jT (by repeat (first | (with_reducible first | exact HB.out | apply jA | apply jN | apply jD | refine jS ?_ GE224.out) | exact HB.out)) hb); have n2_ := jM (hbox); have n3_ := jM ((by rw [hg]; exact (below_size (by repeat (first | (with_reducible first | exact HB.out | apply jA | apply jN | apply jD | refine jS ?_ GE224.out) | exact HB.out))) : w.heap.size ≤ gb225)); have n4_ := jM ((by rw [hg]; exact (below_size (by repeat (first | (with_reducible first | exact HB.out | apply jA | apply jN | apply jD | refine jS ?_ GE224.out) | exact HB.out))) : w.heap.size ≤ gb225)); have n5_ := jM ((by rw [hg]; exact Nat.ne_of_lt (blk_lt (g := gb224) (o := .cells #[.slice A0_0 l0_0.length c0_0, .slice A0_1 l0_1.length c0_1, .slice A0_2 l0_2.length c0_2, .slice A0_3 l0_3.length c0_3, .int .i64 a0_4] 27 (0, 0)) (tK BK224.out)) : gb224 ≠ gb225)); have n6_ := jM ((by rw [hg]; exact Nat.ne_of_gt (blk_lt (g := gb224) (o := .cells #[.slice A0_0 l0_0.length c0_0, .slice A0_1 l0_1.length c0_1, .slice A0_2 l0_2.length c0_2, .slice A0_3 l0_3.length c0_3, .int .i64 a0_4] 27 (0, 0)) (tK BK224.out)) : gb225 ≠ gb224)); clear BK224; clear HB; have BK224 := n0_; have HB := n1_; have BK225 := n2_; have GW225 := n3_; have GE225 := n4_; have NB224_225 := n5_; have NB225_224 := n6_; clear n0_ n1_ n2_ n3_ n4_ n5_ n6_; clear hb hbox hg))
     have n0_ := jM (jZ BK224.out)
     have n1_ := jM (jZ BK225.out)
     have n2_ := jM (jD HB.out)
     clear BK224 BK225 HB
     have BK224 := n0_
     have BK225 := n1_
     have HB := n2_
     clear n0_ n1_ n2_
     refine start_ (n := 14) (S := fun w' => w'.cell? ⟨gb224, 0, none⟩ = some (.slice A0_0 l0_0.length c0_0) ∧ w'.cell? ⟨gb224, 1, none⟩ = some (.slice A0_1 l0_1.length c0_1) ∧ w'.cell? ⟨gb224, 2, none⟩ = some (.slice A0_2 l0_2.length c0_2) ∧ w'.cell? ⟨gb224, 3, none⟩ = some (.slice A0_3 l0_3.length c0_3) ∧ w'.cell? ⟨gb224, 4, none⟩ = some (.int .i64 a0_4) ∧ w'.cell? ⟨gb225, 0, none⟩ = some (.int .i64 a1_0) ∧ w'.cell? ⟨gb225, 1, none⟩ = some (.int .i64 a1_1)) (ds := []) (tf 0 14) (by kernel_rfl) rfl rfl ⟨(jC BK224.out 0).trans rfl, (jC BK224.out 1).trans rfl, (jC BK224.out 2).trans rfl, (jC BK224.out 3).trans rfl, (jC BK224.out 4).trans rfl, (jC BK225.out 0).trans rfl, (jC BK225.out 1).trans rfl⟩ (fun hHeld => ?_); refine with_tabW sr14_Behind.tab1 sr14_Behind.bits1 (fun HT_ HW_ => ?_)
     generalize w17.drew = w18 at BK224 BK225 HB hHeld ⊢
     refine tU (i:=0) (N:=some 6) (tf 1 13) HT_ HW_ hHeld ?_
     refine tU (i:=1) (N:=some 7) (tf 2 12) HT_ HW_ hHeld ?_
     refine one_ (i := 2) (N := some 8) (tf 3 11) rfl rfl (one_of HT_.out (by kernel_rfl)) (by decide) (fun K hK => ?_)
     refine goes_ Tryd.func36 (by kernel_rfl) rfl #[.agg #[.slice A0_0 l0_0.length c0_0, .slice A0_1 l0_1.length c0_1, .slice A0_2 l0_2.length c0_2, .slice A0_3 l0_3.length c0_3, .int .i64 a0_4], .agg #[.int .i64 a1_0, .int .i64 a1_1]] (by rfl) rfl rfl tM ?_
     with_reducible refine (sr14_Is.calls _ _ l0_0 _ _ l0_1 _ _ l0_2 _ _ l0_3 a0_4 a1_0 a1_1 true _ ?side1 ?side2 ?side3 ?side4 ?side5 ?side6 ?side7 ?side8 A3.out).mono ?_
     (case side1 => exact tC (jB HR0_0.out HB.out))
     (case side2 => exact HC0_0.out)
     (case side3 => exact tC (jB HR0_1.out HB.out))
     (case side4 => exact HC0_1.out)
     (case side5 => exact tC (jB HR0_2.out HB.out))
     (case side6 => exact HC0_2.out)
     (case side7 => exact tC (jB HR0_3.out HB.out))
     (case side8 => exact HC0_3.out)
     rintro e w19 ⟨rfl, hb⟩
     refine ⟨_, rfl, ?_⟩
     have n0_ := jM (jW (g := gb224) (o := .cells #[.slice A0_0 l0_0.length c0_0, .slice A0_1 l0_1.length c0_1, .slice A0_2 l0_2.length c0_2, .slice A0_3 l0_3.length c0_3, .int .i64 a0_4] 27 (0, 0)) (tK BK224.out) hb)
     have n1_ := jM (jW (g := gb225) (o := .cells #[.int .i64 a1_0, .int .i64 a1_1] 39 (0, 0)) (tK BK225.out) hb)
     have n2_ := jM (jT (by repeat (first | (with_reducible first | exact HB.out | apply jA | apply jN | apply jD | refine jS ?_ GE224.out | refine jS ?_ GE225.out) | exact HB.out)) hb)
     clear BK224 BK225 HB
     have BK224 := n0_
     have BK225 := n1_
     have HB := n2_
     clear n0_ n1_ n2_
     (try clear hb)
     (try clear hb2)
     (try clear hk)
     (try clear hi)
     refine hK.out _ _ ⟨(jC BK224.out 0).trans rfl, (jC BK224.out 1).trans rfl, (jC BK224.out 2).trans rfl, (jC BK224.out 3).trans rfl, (jC BK224.out 4).trans rfl, (jC BK225.out 0).trans rfl, (jC BK225.out 1).trans rfl⟩ (fun hHeld => ?_)
     clear hK K
     refine nU (N:=some 8) ?_
     refine pU (i:=3) (N:=some 9) (tf 4 10) HT_ ?_
     refine pU (i:=4) (N:=some 10) (tf 5 9) HT_ ?_
     refine pU (i:=5) (N:=some 11) (tf 6 8) HT_ ?_
     refine pU (i:=8) (N:=some 14) #[true, true, true, true, true, true, false, false, true, false, false, false, false, false] HT_ ?_
     refine tU (i:=6) (N:=some 12) #[true, true, true, true, true, true, true, false, true, false, false, false, false, false] HT_ HW_ hHeld ?_
     refine tU (i:=7) (N:=some 13) (tf 9 5) HT_ HW_ hHeld ?_
     refine tU (i:=9) (N:=some 15) (tf 10 4) HT_ HW_ hHeld ?_
     refine one_ (i := 10) (N := some 16) (tf 11 3) rfl rfl (one_of HT_.out (by kernel_rfl)) (by decide) (fun K hK => ?_)
     refine goes_ Tryd.func37 (by kernel_rfl) rfl #[.agg #[.slice A0_0 l0_0.length c0_0, .slice A0_1 l0_1.length c0_1, .slice A0_2 l0_2.length c0_2, .slice A0_3 l0_3.length c0_3, .int .i64 a0_4], .int .i64 a1_0] (by rfl) rfl rfl tM ?_
     with_reducible refine (sr14_Right.calls _ _ l0_0 _ _ l0_1 _ _ l0_2 (fun k_ => k_ < w.heap.size) _ _ l0_3 a0_4 a1_0 t227 _ ?side1 ?side2 ?side3 ?side4 ?side5 ?side6 ?side7 A5.out).mono ?_
     (case side1 => exact tC (jB HR0_0.out HB.out))
     (case side2 => exact HC0_0.out)
     (case side3 => exact tC (jB HR0_1.out HB.out))
     (case side4 => exact HC0_1.out)
     (case side5 => exact tC (jB HR0_2.out HB.out))
     (case side6 => exact HC0_2.out)
     (case side7 => exact Kd.V_mk HC0_3.out (Kd.F_below (Kd.C_F k64_heap HR0_3.out) (by repeat (first | (with_reducible first | exact HB.out | apply jA | apply jN | apply jD | refine jS ?_ GE224.out | refine jS ?_ GE225.out) | exact HB.out))))
     rintro e w20 ⟨v228, rfl, ho0, hb⟩
     refine ⟨_, rfl, ?_⟩
     have n0_ := jM (Kd.V_lower (Kd.V_mono (ok' := fun k_ => k_ ≠ gb224 ∧ k_ ≠ gb225) ho0 (fun k_ hk_ => ⟨Or.elim hk_ (fun hs_ => fun e_ => Nat.not_le.2 hs_ (by rw [e_]; exact GW224.out)) (fun hn_ => (Kd.freshB (g := gb224) (o := .cells #[.slice A0_0 l0_0.length c0_0, .slice A0_1 l0_1.length c0_1, .slice A0_2 l0_2.length c0_2, .slice A0_3 l0_3.length c0_3, .int .i64 a0_4] 27 (0, 0)) (tK BK224.out) k_ hn_)), Or.elim hk_ (fun hs_ => fun e_ => Nat.not_le.2 hs_ (by rw [e_]; exact GW225.out)) (fun hn_ => (Kd.freshB (g := gb225) (o := .cells #[.int .i64 a1_0, .int .i64 a1_1] 39 (0, 0)) (tK BK225.out) k_ hn_))⟩)) (below_size (by repeat (first | (with_reducible first | exact HB.out | apply jA | apply jN | apply jD | refine jS ?_ GE224.out | refine jS ?_ GE225.out) | exact HB.out))))
     have n1_ := jM (jW (g := gb224) (o := .cells #[.slice A0_0 l0_0.length c0_0, .slice A0_1 l0_1.length c0_1, .slice A0_2 l0_2.length c0_2, .slice A0_3 l0_3.length c0_3, .int .i64 a0_4] 27 (0, 0)) (tK BK224.out) hb)
     have n2_ := jM (jW (g := gb225) (o := .cells #[.int .i64 a1_0, .int .i64 a1_1] 39 (0, 0)) (tK BK225.out) hb)
     have n3_ := jM (jT (by repeat (first | (with_reducible first | exact HB.out | apply jA | apply jN | apply jD | refine jS ?_ GE224.out | refine jS ?_ GE225.out) | exact HB.out)) hb)
     clear BK224 BK225 HB
     have HO229 := n0_
     have BK224 := n1_
     have BK225 := n2_
     have HB := n3_
     clear n0_ n1_ n2_ n3_
     (try clear hb)
     (try clear hb2)
     (try clear hk)
     (try clear hi)
     (try clear ho0)
     obtain ⟨Ao21, co21, eo21⟩ := Kd.V_slice HO229.out
     (first | subst eo21 | (injection eo21 with f1_ f2_ f3_; have f4_ := f1_.symm; have f5_ := f3_.symm; clear f1_ f2_ f3_; subst f4_; subst f5_))
     refine hK.out _ _ ⟨(jC BK224.out 0).trans rfl, (jC BK224.out 1).trans rfl, (jC BK224.out 2).trans rfl, (jC BK224.out 3).trans rfl, (jC BK224.out 4).trans rfl, (jC BK225.out 0).trans rfl, (jC BK225.out 1).trans rfl⟩ (fun hHeld => ?_)
     clear hK K
     refine nU (N:=some 16) ?_
     refine pU (i:=11) (N:=some 17) (tf 12 2) HT_ ?_
     refine pU (i:=12) (N:=some 18) (tf 13 1) HT_ ?_
     refine pU (i:=13) (N:=some 19) (tf 14 0) HT_ ?_
     refine done_ (done_of HT_.out (by kernel_rfl)) ?_
     try go_wp2
     have x0 := jC BK224.out 0
     have x1 := jC BK224.out 1
     have x2 := jC BK224.out 2
     have x3 := jC BK224.out 3
     have x4 := jC BK224.out 4
     have v0 := jC BK225.out 0
     have v1 := jC BK225.out 1
     simp only [List.getElem?_toArray, List.getElem?_cons_zero, List.getElem?_cons_succ] at x0 x1 x2 x3 x4 v0 v1
     have hlt : a1_1 < (t230.length : Int) := of_decide_eq_true c15b0
     have hge : 0 ≤ a1_1 := of_decide_eq_true c14b0
     go_region_with (go_at_call 37; (with_reducible refine (sr14_Right.calls _ _ l0_0 _ _ l0_1 _ _ l0_2 (fun k_ => k_ < w.heap.size) _ _ l0_3 a0_4 a1_0 t230 _ (jB HR0_0.out (by repeat (first | exact HB.out | apply jD | apply jN))) HC0_0.out (jB HR0_1.out (by repeat (first | exact HB.out | apply jD | apply jN))) HC0_1.out (jB HR0_2.out (by repeat (first | exact HB.out | apply jD | apply jN))) HC0_2.out (Kd.V_mk HC0_3.out (Kd.F_below (Kd.C_F k64_heap HR0_3.out) (by repeat (first | exact HB.out | apply jD | apply jN)))) A13.out).mono ?_); rintro e wz ⟨v231, rfl, ho0, hb⟩; obtain ⟨Ao24, co24, eo24⟩ := Kd.V_slice ho0; subst eo24; obtain ⟨ad233, e233, hx233_0⟩ := Kd.at_int (Kd.V_reads' ho0).2.2 a1_1 hge hlt; cases e233; have y224 := jW (g := gb224) (o := .cells #[.slice A0_0 l0_0.length c0_0, .slice A0_1 l0_1.length c0_1, .slice A0_2 l0_2.length c0_2, .slice A0_3 l0_3.length c0_3, .int .i64 a0_4] 27 (0, 0)) (by repeat (first | exact BK224.out | refine jZ ?_ | refine jY ?_ _)) hb; have y225 := jW (g := gb225) (o := .cells #[.int .i64 a1_0, .int .i64 a1_1] 39 (0, 0)) (by repeat (first | exact BK225.out | refine jZ ?_ | refine jY ?_ _)) hb; have y0 := jC y224 0; have y1 := jC y224 1; have y2 := jC y224 2; have y3 := jC y224 3; have y4 := jC y224 4; have z0 := jC y225 0; have z1 := jC y225 1; have HB2 := jM (jT (by repeat (first | exact HB.out | apply jD | apply jN)) hb); clear hb ho0 y224 y225)
     all_goals go_wp2_with fail
     all_goals go_ret2
     all_goals exact ⟨rfl, by repeat (first | exact HB2.out | apply jD | apply jN)⟩
    ·rw [if_neg c15] at H
     exact absurd H (by simp)
   ·rw [if_neg c14] at H
    exact absurd H (by simp)
 ·replace c4 := Bool.eq_false_iff.mpr c4
  subst c4
  have H1 : (some (0, false)) = some (r1, r2) := by rw [if_neg (show ¬ (false = true) by decide)] at H; exact H
  clear H
  have H := H1
  clear H1
  simp only [Option.some.injEq, Prod.mk.injEq] at H
  obtain ⟨rfl, rfl⟩ := H
  go_enter Tryd.func16, Tryd.ntmps16
  try go_wp2_with (first | ((with_reducible refine gate_dst (N := 2) rfl ?_); (try (refine gate_guard (by rfl) ?_; dsimp only)); refine box_event ?hg (N := 2) ?hd (cs := #[.slice A0_0 l0_0.length c0_0, .slice A0_1 l0_1.length c0_1, .slice A0_2 l0_2.length c0_2, .slice A0_3 l0_3.length c0_3, .int .i64 a0_4]) (t := 27) ?hr ?_; (case hd => rfl); (case hg => rfl); (case hr => first | (go_simp; done) | (go_simp; rfl)); intro gb224 hg w25 hbox hb; have n0_ := jM (jT (tB HB.out) hb); have n1_ := jM (hbox); have n2_ := jM ((by rw [hg]; exact (below_size (tB HB.out)) : w.heap.size ≤ gb224)); have n3_ := jM ((by rw [hg]; exact (below_size (tB HB.out)) : w.heap.size ≤ gb224)); clear HB; have HB := n0_; have BK224 := n1_; have GW224 := n2_; have GE224 := n3_; clear n0_ n1_ n2_ n3_; clear hb hbox hg) | ((with_reducible refine gate_dst (N := 3) rfl ?_); (try (refine gate_guard (by rfl) ?_; dsimp only)); refine box_event ?hg (N := 3) ?hd (cs := #[.int .i64 a1_0, .int .i64 a1_1]) (t := 39) ?hr ?_; (case hd => rfl); (case hg => rfl); (case hr => first | (go_simp; done) | (go_simp; rfl)); intro gb225 hg w26 hbox hb; have n0_ := jM (jW (g := gb224) (o := .cells #[.slice A0_0 l0_0.length c0_0, .slice A0_1 l0_1.length c0_1, .slice A0_2 l0_2.length c0_2, .slice A0_3 l0_3.length c0_3, .int .i64 a0_4] 27 (0, 0)) (tK BK224.out) hb); have n1_ := jM (jT (by repeat (first | (with_reducible first | exact HB.out | apply jA | apply jN | apply jD | refine jS ?_ GE224.out) | exact HB.out)) hb); have n2_ := jM (hbox); have n3_ := jM ((by rw [hg]; exact (below_size (by repeat (first | (with_reducible first | exact HB.out | apply jA | apply jN | apply jD | refine jS ?_ GE224.out) | exact HB.out))) : w.heap.size ≤ gb225)); have n4_ := jM ((by rw [hg]; exact (below_size (by repeat (first | (with_reducible first | exact HB.out | apply jA | apply jN | apply jD | refine jS ?_ GE224.out) | exact HB.out))) : w.heap.size ≤ gb225)); have n5_ := jM ((by rw [hg]; exact Nat.ne_of_lt (blk_lt (g := gb224) (o := .cells #[.slice A0_0 l0_0.length c0_0, .slice A0_1 l0_1.length c0_1, .slice A0_2 l0_2.length c0_2, .slice A0_3 l0_3.length c0_3, .int .i64 a0_4] 27 (0, 0)) (tK BK224.out)) : gb224 ≠ gb225)); have n6_ := jM ((by rw [hg]; exact Nat.ne_of_gt (blk_lt (g := gb224) (o := .cells #[.slice A0_0 l0_0.length c0_0, .slice A0_1 l0_1.length c0_1, .slice A0_2 l0_2.length c0_2, .slice A0_3 l0_3.length c0_3, .int .i64 a0_4] 27 (0, 0)) (tK BK224.out)) : gb225 ≠ gb224)); clear BK224; clear HB; have BK224 := n0_; have HB := n1_; have BK225 := n2_; have GW225 := n3_; have GE225 := n4_; have NB224_225 := n5_; have NB225_224 := n6_; clear n0_ n1_ n2_ n3_ n4_ n5_ n6_; clear hb hbox hg))
  have n0_ := jM (jZ BK224.out)
  have n1_ := jM (jZ BK225.out)
  have n2_ := jM (jD HB.out)
  clear BK224 BK225 HB
  have BK224 := n0_
  have BK225 := n1_
  have HB := n2_
  clear n0_ n1_ n2_
  refine start_ (n := 14) (S := fun w' => w'.cell? ⟨gb224, 0, none⟩ = some (.slice A0_0 l0_0.length c0_0) ∧ w'.cell? ⟨gb224, 1, none⟩ = some (.slice A0_1 l0_1.length c0_1) ∧ w'.cell? ⟨gb224, 2, none⟩ = some (.slice A0_2 l0_2.length c0_2) ∧ w'.cell? ⟨gb224, 3, none⟩ = some (.slice A0_3 l0_3.length c0_3) ∧ w'.cell? ⟨gb224, 4, none⟩ = some (.int .i64 a0_4) ∧ w'.cell? ⟨gb225, 0, none⟩ = some (.int .i64 a1_0) ∧ w'.cell? ⟨gb225, 1, none⟩ = some (.int .i64 a1_1)) (ds := []) (tf 0 14) (by kernel_rfl) rfl rfl ⟨(jC BK224.out 0).trans rfl, (jC BK224.out 1).trans rfl, (jC BK224.out 2).trans rfl, (jC BK224.out 3).trans rfl, (jC BK224.out 4).trans rfl, (jC BK225.out 0).trans rfl, (jC BK225.out 1).trans rfl⟩ (fun hHeld => ?_); refine with_tabW sr14_Behind.tab1 sr14_Behind.bits1 (fun HT_ HW_ => ?_)
  generalize w26.drew = w27 at BK224 BK225 HB hHeld ⊢
  refine tU (i:=0) (N:=some 6) (tf 1 13) HT_ HW_ hHeld ?_
  refine tU (i:=1) (N:=some 7) (tf 2 12) HT_ HW_ hHeld ?_
  refine one_ (i := 2) (N := some 8) (tf 3 11) rfl rfl (one_of HT_.out (by kernel_rfl)) (by decide) (fun K hK => ?_)
  refine goes_ Tryd.func36 (by kernel_rfl) rfl #[.agg #[.slice A0_0 l0_0.length c0_0, .slice A0_1 l0_1.length c0_1, .slice A0_2 l0_2.length c0_2, .slice A0_3 l0_3.length c0_3, .int .i64 a0_4], .agg #[.int .i64 a1_0, .int .i64 a1_1]] (by rfl) rfl rfl tM ?_
  with_reducible refine (sr14_Is.calls _ _ l0_0 _ _ l0_1 _ _ l0_2 _ _ l0_3 a0_4 a1_0 a1_1 false _ ?side1 ?side2 ?side3 ?side4 ?side5 ?side6 ?side7 ?side8 A3.out).mono ?_
  (case side1 => exact tC (jB HR0_0.out HB.out))
  (case side2 => exact HC0_0.out)
  (case side3 => exact tC (jB HR0_1.out HB.out))
  (case side4 => exact HC0_1.out)
  (case side5 => exact tC (jB HR0_2.out HB.out))
  (case side6 => exact HC0_2.out)
  (case side7 => exact tC (jB HR0_3.out HB.out))
  (case side8 => exact HC0_3.out)
  rintro e w28 ⟨rfl, hb⟩
  refine ⟨_, rfl, ?_⟩
  have n0_ := jM (jW (g := gb224) (o := .cells #[.slice A0_0 l0_0.length c0_0, .slice A0_1 l0_1.length c0_1, .slice A0_2 l0_2.length c0_2, .slice A0_3 l0_3.length c0_3, .int .i64 a0_4] 27 (0, 0)) (tK BK224.out) hb)
  have n1_ := jM (jW (g := gb225) (o := .cells #[.int .i64 a1_0, .int .i64 a1_1] 39 (0, 0)) (tK BK225.out) hb)
  have n2_ := jM (jT (by repeat (first | (with_reducible first | exact HB.out | apply jA | apply jN | apply jD | refine jS ?_ GE224.out | refine jS ?_ GE225.out) | exact HB.out)) hb)
  clear BK224 BK225 HB
  have BK224 := n0_
  have BK225 := n1_
  have HB := n2_
  clear n0_ n1_ n2_
  (try clear hb)
  (try clear hb2)
  (try clear hk)
  (try clear hi)
  refine hK.out _ _ ⟨(jC BK224.out 0).trans rfl, (jC BK224.out 1).trans rfl, (jC BK224.out 2).trans rfl, (jC BK224.out 3).trans rfl, (jC BK224.out 4).trans rfl, (jC BK225.out 0).trans rfl, (jC BK225.out 1).trans rfl⟩ (fun hHeld => ?_)
  clear hK K
  refine nU (N:=some 8) ?_
  refine pU (i:=3) (N:=some 9) (tf 4 10) HT_ ?_
  refine pU (i:=4) (N:=some 10) (tf 5 9) HT_ ?_
  refine pV (i:=5) (N:=some 11) (tf 6 8) HT_ ?_
  refine pV (i:=6) (N:=some 12) (tf 7 7) HT_ ?_
  refine pV (i:=7) (N:=some 13) (tf 8 6) HT_ ?_
  refine pV (i:=8) (N:=some 14) (tf 9 5) HT_ ?_
  refine pV (i:=9) (N:=some 15) (tf 10 4) HT_ ?_
  refine pV (i:=10) (N:=some 16) (tf 11 3) HT_ ?_
  refine pV (i:=11) (N:=some 17) (tf 12 2) HT_ ?_
  refine pV (i:=12) (N:=some 18) (tf 13 1) HT_ ?_
  refine pU (i:=13) (N:=some 19) (tf 14 0) HT_ ?_
  refine done_ (done_of HT_.out (by kernel_rfl)) ?_
  try go_wp2
  go_ret2
  exact ⟨by first | rfl | (simp [errW_none, errW_some] <;> rfl) | (simp [*, errW_none, errW_some] <;> rfl), by repeat (first | (with_reducible first | exact HB.out | apply jA | apply jN | apply jD | refine jS ?_ GE224.out | refine jS ?_ GE225.out) | exact HB.out)⟩

end Go.Proofs.YtclollnicbcooaaDoor.P
end

section
namespace Go.Proofs.YtclollnicbcooaaDoor.P
open Go.RowKit Go.Proofs.YtclollnicbcooaaDoorW.PrintWords Go.Proofs.YtclollnicbcooaaDoorW.PrintLast Go.Proofs.YtclollnicbcooaaDoorW.PrintMore
attribute [local go_sem] max2_int min2_int max_two min_two max_three min_three max_four min_four

/-! ### sr14_rising: function 40 -/
mutual
def sr14_rising.l0 : Nat → List (S39) → List (S39) → Int → Option ((List (S39)))
 | 0, _, _, _ => none
 | k + 1, x0, x3, x4 => if x4 < (x0.length : Int) then (sr14_rising.l1 k x0 x3 x4 (-1) 0) else (some x3)
def sr14_rising.l1 : Nat → List (S39) → List (S39) → Int → Int → Int → Option ((List (S39)))
 | 0, _, _, _, _, _ => none
 | k + 1, x0, x3, x4, x5, x6 => if x6 < (x0.length : Int) then (if 0 ≤ x6 then ((sr14_has.f k x3 ((rd_T39 x0 x6).f0) ((rd_T39 x0 x6).f1)).bind fun t245 => (if t245 = true then (sr14_rising.l1 k x0 x3 x4 x5 (wrap64 (x6 + 1))) else (if x5 < 0 then (sr14_rising.l1 k x0 x3 x4 x6 (wrap64 (x6 + 1))) else (if 0 ≤ x5 then (if x5 < (x0.length : Int) then ((sr14_less.f ((rd_T39 x0 x6).f0) ((rd_T39 x0 x6).f1) ((rd_T39 x0 x5).f0) ((rd_T39 x0 x5).f1)).bind fun t248 => (if t248 = true then (sr14_rising.l1 k x0 x3 x4 x6 (wrap64 (x6 + 1))) else (sr14_rising.l1 k x0 x3 x4 x5 (wrap64 (x6 + 1))))) else (none)) else (none))))) else (none)) else (if x5 ≥ 0 then (if 0 ≤ x5 then (if x5 < (x0.length : Int) then (if x3.length < 8796093022208 then (sr14_rising.l0 k x0 (x3 ++ [(⟨(rd_T39 x0 x5).f0, (rd_T39 x0 x5).f1⟩ : S39)]) (wrap64 (x4 + 1))) else (none)) else (none)) else (none)) else (sr14_rising.l0 k x0 x3 (wrap64 (x4 + 1))))
end
def sr14_rising.f (k : Nat) (l0 : List (S39)) : Option ((List (S39))) := sr14_rising.l0 k l0 ([] : List (S39)) 0
def sr14_rising.T9 : Bool × List (List Nat × List Nat) := (true, [([], []), ([], []), ([], []), ([1, 2], [1, 2]), ([3], [3]), ([0, 4], [0, 4]), ([5], [5]), ([6, 5], [6]), ([7], [7]), ([8, 7], [7, 8]), ([9, 7, 7], [7, 9]), ([10], [10]), ([10], [10]), ([11, 12, 10], [10, 11, 12]), ([13, 10], [10, 13]), ([10], [10]), ([10], [10]), ([15, 16, 10], [10, 15, 16]), ([17, 10], [10, 17]), ([14, 18, 10, 10], [10, 14, 18]), ([10, 19, 7], [7, 10, 19]), ([7, 20], [7, 20])])
def sr14_rising.B9 : List Nat := [0, 0, 0, 6, 14, 31, 63, 127, 255, 511, 1023, 2047, 2047, 8191, 16383, 2047, 2047, 100351, 231423, 524287, 1048575, 2097151]
theorem sr14_rising.tab9 : rtab .any (opsOf Tryd.f40 9) = sr14_rising.T9 := by kernel_rfl
theorem sr14_rising.bits9 : waitsOk sr14_rising.T9.2 sr14_rising.B9 = true := by kernel_rfl
set_option maxHeartbeats 8000000 in
set_option maxRecDepth 100000 in
theorem sr14_rising.calls (k : Nat) (A0 : Option Addr) (c0 : Nat) (l0 : List (S39)) (r : List (S39)) (w : World) (hr0 : Kd.C k39 w A0 l0.length l0) (hc0 : l0.length ≤ c0) (h : sr14_rising.f k l0 = some r) :
  Calls Tryd.prog 40 #[.slice A0 l0.length c0] w fun e w' => ∃ v0_ : Value, e = .returned (v0_) ∧ Kd.R k39 39 w' w.heap.size (fun _ => True) v0_ r ∧ Below w.heap.size w w' := by
 have hu39 := Tryd.underlying39
 have HR0 := jM hr0
 have HC0 := jM hc0
 clear hr0 hc0
 have HB := jM (Below.refl w.heap.size w)
 have H : (sr14_rising.l0 k l0 ([] : List (S39)) 0) = some r := h
 clear h
 have H' := jM H
 clear H
 go_enter Tryd.func40, Tryd.ntmps40
 go_wp2
 go_loopg [3, 4] k (fun kq v3 v4 w' => ∃ (x3_1 : List (S39)) (x4_1 : Int), v4 = .int .i64 x4_1 ∧ Aside0 (sr14_rising.l0 kq l0 x3_1 x4_1 = some r) ∧ Aside0 (kq ≤ k) ∧ Aside0 (Kd.R k39 39 w' w.heap.size (fun _ => True) v3 x3_1) ∧ Aside0 (Below w.heap.size w w'))
 case atStart => exact ⟨(([] : List (S39))), (0), tZ, H', ⟨Nat.le_refl _⟩, ⟨by first | exact Kd.R_nil _ _ _ _ _ | exact Kd.N_nil _ _ _ _ _ | exact Kd.V_nil _ _ _ _ _ | exact Kd.Q_nil _ _ _ _ _ | exact Kd.S_nil _ _ _ _ _⟩, ⟨tB HB.out⟩⟩
 case round =>
  clear H'
  obtain ⟨x3_1, x4_1, rfl, HA, HK1, HO_3, HB⟩ := hrel
  cases gk with
  | zero => exact absurd HA.out (by simp [sr14_rising.l0])
  | succ k1 =>
   have H := HA.out
   clear HA
   simp only [sr14_rising.l0] at H
   by_cases c2 : x4_1 < (l0.length : Int)
   ·rw [if_pos c2] at H
    have c2b0 : decide (x4_1 < (l0.length : Int)) = true := decide_eq_true c2
    clear c2
    have H' := jM H
    clear H
    go_wp2
    go_loopg [5, 6] k1 (fun kq v5 v6 w' => ∃ (x5_2 : Int) (x6_2 : Int), v5 = .int .i64 x5_2 ∧ v6 = .int .i64 x6_2 ∧ Aside0 (sr14_rising.l1 kq l0 x3_1 x4_1 x5_2 x6_2 = some r) ∧ Aside0 (kq ≤ k1) ∧ Aside0 (Kd.R k39 39 w' w.heap.size (fun _ => True) u3 x3_1) ∧ Aside0 (Below w.heap.size w w'))
    case atStart => exact ⟨((-1)), (0), tZ, tZ, H', ⟨Nat.le_refl _⟩, ⟨tR HO_3.out⟩, ⟨tB HB.out⟩⟩
    case round =>
     clear H'
     try clear c2
     try clear c2b0
     try clear p2
     obtain ⟨x5_2, x6_2, rfl, rfl, HA, HK2, HO_3, HB⟩ := hrel
     cases gk with
     | zero => exact absurd HA.out (by simp [sr14_rising.l1])
     | succ k2 =>
      have H := HA.out
      clear HA
      simp only [sr14_rising.l1] at H
      by_cases c3 : x6_2 < (l0.length : Int)
      ·rw [if_pos c3] at H
       have c3b0 : decide (x6_2 < (l0.length : Int)) = true := decide_eq_true c3
       clear c3
       by_cases c4 : 0 ≤ x6_2
       ·rw [if_pos c4] at H
        have c4b0 : decide (0 ≤ x6_2) = true := decide_eq_true c4
        clear c4
        replace H := Option.bind_eq_some_iff.mp H
        obtain ⟨t245, A50, H⟩ := H
        replace H : (if t245 = true then (sr14_rising.l1 k2 l0 x3_1 x4_1 x5_2 (wrap64 (x6_2 + 1))) else (if x5_2 < 0 then (sr14_rising.l1 k2 l0 x3_1 x4_1 x6_2 (wrap64 (x6_2 + 1))) else (if 0 ≤ x5_2 then (if x5_2 < (l0.length : Int) then ((sr14_less.f ((rd_T39 l0 x6_2).f0) ((rd_T39 l0 x6_2).f1) ((rd_T39 l0 x5_2).f0) ((rd_T39 l0 x5_2).f1)).bind fun t248 => (if t248 = true then (sr14_rising.l1 k2 l0 x3_1 x4_1 x6_2 (wrap64 (x6_2 + 1))) else (sr14_rising.l1 k2 l0 x3_1 x4_1 x5_2 (wrap64 (x6_2 + 1))))) else (none)) else (none)))) = some r := H
        have A5 := jM A50
        clear A50
        by_cases c6 : t245 = true
        ·subst c6
         have H1 : (sr14_rising.l1 k2 l0 x3_1 x4_1 x5_2 (wrap64 (x6_2 + 1))) = some r := by rw [if_pos rfl] at H; exact H
         clear H
         have H := H1
         clear H1
         have H' := jM H
         clear H
         try go_wp2
         have n0_ := jM (Kd.R_drew HO_3.out)
         have n1_ := jM (jD HB.out)
         clear HO_3 HB
         have HO_3 := n0_
         have HB := n1_
         clear n0_ n1_
         have p244 : 0 ≤ (x6_2 : Int) := of_decide_eq_true tD
         have q244 : x6_2 < (l0.length : Int) := of_decide_eq_true tD
         obtain ⟨ad244, e244, hx244_0, hx244_1⟩ := at_T39 HR0.out x6_2 p244 q244
         have hw244_1 := hx244_1
         have hw244_0 := hx244_0
         cases e244
         replace hx244_0 := (HB.out.cell (jL w _ hx244_0)).trans hx244_0
         replace hx244_1 := (HB.out.cell (jL w _ hx244_1)).trans hx244_1
         replace p244 := eq_true p244
         replace q244 := eq_true q244
         obtain ⟨Ao8, co8, eo8⟩ := Kd.R_slice HO_3.out
         (first | subst eo8 | (injection eo8 with f1_ f2_ f3_; have f4_ := f1_.symm; have f5_ := f3_.symm; clear f1_ f2_ f3_; subst f4_; subst f5_))
         refine start_ (n := 22) (S := fun w' => w'.cell? (ad244.add ((x6_2).toNat * 2)) = some (.int .i64 ((rd_T39 l0 x6_2).f0)) ∧ w'.cell? ⟨(ad244.add ((x6_2).toNat * 2)).block, (ad244.add ((x6_2).toNat * 2)).off + 1, none⟩ = some (.int .i64 ((rd_T39 l0 x6_2).f1))) (ds := []) (tf 0 22) (by kernel_rfl) rfl rfl ⟨((HB.out.cell (jL w _ hw244_0)).trans hw244_0), ((HB.out.cell (jL w _ hw244_1)).trans hw244_1)⟩ (fun hHeld => ?_); refine with_tabW sr14_rising.tab9 sr14_rising.bits9 (fun HT_ HW_ => ?_)
         generalize wr.drew = w7 at HO_3 HB hx244_0 hx244_1 hHeld ⊢
         refine pU (i:=0) (N:=some 19) (tf 1 21) HT_ ?_
         refine pU (i:=1) (N:=some 20) (tf 2 20) HT_ ?_
         refine pU (i:=2) (N:=some 21) (tf 3 19) HT_ ?_
         refine pU (i:=3) (N:=some 22) (tf 4 18) HT_ ?_
         refine tU (i:=4) (N:=some 23) (tf 5 17) HT_ HW_ hHeld ?_
         refine one_ (i := 5) (N := some 24) (tf 6 16) rfl rfl (one_of HT_.out (by kernel_rfl)) (by decide) (fun K hK => ?_)
         refine goes_ Tryd.func39 (by kernel_rfl) rfl #[.slice Ao8 x3_1.length co8, .agg #[.int .i64 ((rd_T39 l0 x6_2).f0), .int .i64 ((rd_T39 l0 x6_2).f1)]] (by rfl) rfl rfl tM ?_
         with_reducible refine (sr14_has.calls k2 _ _ x3_1 ((rd_T39 l0 x6_2).f0) ((rd_T39 l0 x6_2).f1) true _ ?side1 ?side2 A5.out).mono ?_
         (case side1 => exact tC (Kd.R_reads' HO_3.out).2.2)
         (case side2 => exact (Kd.R_reads' HO_3.out).2.1)
         rintro e w9 ⟨rfl, hb⟩
         refine ⟨_, rfl, ?_⟩
         have n0_ := jM (Kd.R_below (tR HO_3.out) hb)
         have n1_ := jM (jT (tB HB.out) hb)
         clear HO_3 HB
         have HO_3 := n0_
         have HB := n1_
         clear n0_ n1_
         (try clear hb)
         (try clear hb2)
         (try clear hk)
         (try clear hi)
         refine hK.out _ _ ⟨((HB.out.cell (jL w _ hw244_0)).trans hw244_0), ((HB.out.cell (jL w _ hw244_1)).trans hw244_1)⟩ (fun hHeld => ?_)
         clear hK K
         refine nU (N:=some 24) ?_
         refine pU (i:=6) (N:=some 25) (tf 7 15) HT_ ?_
         refine pU (i:=7) (N:=some 26) (tf 8 14) HT_ ?_
         refine pV (i:=8) (N:=some 27) (tf 9 13) HT_ ?_
         refine pV (i:=9) (N:=some 28) (tf 10 12) HT_ ?_
         refine pV (i:=10) (N:=some 29) (tf 11 11) HT_ ?_
         refine pV (i:=11) (N:=some 30) (tf 12 10) HT_ ?_
         refine pV (i:=12) (N:=some 31) (tf 13 9) HT_ ?_
         refine pV (i:=13) (N:=some 32) (tf 14 8) HT_ ?_
         refine pV (i:=14) (N:=some 33) (tf 15 7) HT_ ?_
         refine pV (i:=15) (N:=some 34) (tf 16 6) HT_ ?_
         refine pV (i:=16) (N:=some 35) (tf 17 5) HT_ ?_
         refine pV (i:=17) (N:=some 36) (tf 18 4) HT_ ?_
         refine pV (i:=18) (N:=some 37) (tf 19 3) HT_ ?_
         refine pV (i:=19) (N:=some 38) (tf 20 2) HT_ ?_
         refine pV (i:=20) (N:=some 39) (tf 21 1) HT_ ?_
         refine pU (i:=21) (N:=some 40) (tf 22 0) HT_ ?_
         refine done_ (done_of HT_.out (by kernel_rfl)) ?_
         try go_wp2
         go_roundg k2
         case measure => have := HK1.out; have := HK2.out; omega
         case rel => exact ⟨(x5_2), (wrap64 (x6_2 + 1)), tZ, tZ, H', ⟨by have := HK1.out; have := HK2.out; omega⟩, ⟨tR HO_3.out⟩, ⟨tB HB.out⟩⟩
        ·replace c6 := Bool.eq_false_iff.mpr c6
         subst c6
         have H1 : (if x5_2 < 0 then (sr14_rising.l1 k2 l0 x3_1 x4_1 x6_2 (wrap64 (x6_2 + 1))) else (if 0 ≤ x5_2 then (if x5_2 < (l0.length : Int) then ((sr14_less.f ((rd_T39 l0 x6_2).f0) ((rd_T39 l0 x6_2).f1) ((rd_T39 l0 x5_2).f0) ((rd_T39 l0 x5_2).f1)).bind fun t248 => (if t248 = true then (sr14_rising.l1 k2 l0 x3_1 x4_1 x6_2 (wrap64 (x6_2 + 1))) else (sr14_rising.l1 k2 l0 x3_1 x4_1 x5_2 (wrap64 (x6_2 + 1))))) else (none)) else (none))) = some r := by rw [if_neg (show ¬ (false = true) by decide)] at H; exact H
         clear H
         have H := H1
         clear H1
         by_cases c10 : x5_2 < 0
         ·rw [if_pos c10] at H
          have c10b0 : decide (x5_2 < 0) = true := decide_eq_true c10
          clear c10
          have H' := jM H
          clear H
          try go_wp2
          have n0_ := jM (Kd.R_drew HO_3.out)
          have n1_ := jM (jD HB.out)
          clear HO_3 HB
          have HO_3 := n0_
          have HB := n1_
          clear n0_ n1_
          have p244 : 0 ≤ (x6_2 : Int) := of_decide_eq_true tD
          have q244 : x6_2 < (l0.length : Int) := of_decide_eq_true tD
          obtain ⟨ad244, e244, hx244_0, hx244_1⟩ := at_T39 HR0.out x6_2 p244 q244
          have hw244_1 := hx244_1
          have hw244_0 := hx244_0
          cases e244
          replace hx244_0 := (HB.out.cell (jL w _ hx244_0)).trans hx244_0
          replace hx244_1 := (HB.out.cell (jL w _ hx244_1)).trans hx244_1
          replace p244 := eq_true p244
          replace q244 := eq_true q244
          obtain ⟨Ao12, co12, eo12⟩ := Kd.R_slice HO_3.out
          (first | subst eo12 | (injection eo12 with f1_ f2_ f3_; have f4_ := f1_.symm; have f5_ := f3_.symm; clear f1_ f2_ f3_; subst f4_; subst f5_))
          refine start_ (n := 22) (S := fun w' => w'.cell? (ad244.add ((x6_2).toNat * 2)) = some (.int .i64 ((rd_T39 l0 x6_2).f0)) ∧ w'.cell? ⟨(ad244.add ((x6_2).toNat * 2)).block, (ad244.add ((x6_2).toNat * 2)).off + 1, none⟩ = some (.int .i64 ((rd_T39 l0 x6_2).f1))) (ds := []) (tf 0 22) (by kernel_rfl) rfl rfl ⟨((HB.out.cell (jL w _ hw244_0)).trans hw244_0), ((HB.out.cell (jL w _ hw244_1)).trans hw244_1)⟩ (fun hHeld => ?_); refine with_tabW sr14_rising.tab9 sr14_rising.bits9 (fun HT_ HW_ => ?_)
          generalize wr.drew = w11 at HO_3 HB hx244_0 hx244_1 hHeld ⊢
          refine pU (i:=0) (N:=some 19) (tf 1 21) HT_ ?_
          refine pU (i:=1) (N:=some 20) (tf 2 20) HT_ ?_
          refine pU (i:=2) (N:=some 21) (tf 3 19) HT_ ?_
          refine pU (i:=3) (N:=some 22) (tf 4 18) HT_ ?_
          refine tU (i:=4) (N:=some 23) (tf 5 17) HT_ HW_ hHeld ?_
          refine one_ (i := 5) (N := some 24) (tf 6 16) rfl rfl (one_of HT_.out (by kernel_rfl)) (by decide) (fun K hK => ?_)
          refine goes_ Tryd.func39 (by kernel_rfl) rfl #[.slice Ao12 x3_1.length co12, .agg #[.int .i64 ((rd_T39 l0 x6_2).f0), .int .i64 ((rd_T39 l0 x6_2).f1)]] (by rfl) rfl rfl tM ?_
          with_reducible refine (sr14_has.calls k2 _ _ x3_1 ((rd_T39 l0 x6_2).f0) ((rd_T39 l0 x6_2).f1) false _ ?side1 ?side2 A5.out).mono ?_
          (case side1 => exact tC (Kd.R_reads' HO_3.out).2.2)
          (case side2 => exact (Kd.R_reads' HO_3.out).2.1)
          rintro e w13 ⟨rfl, hb⟩
          refine ⟨_, rfl, ?_⟩
          have n0_ := jM (Kd.R_below (tR HO_3.out) hb)
          have n1_ := jM (jT (tB HB.out) hb)
          clear HO_3 HB
          have HO_3 := n0_
          have HB := n1_
          clear n0_ n1_
          (try clear hb)
          (try clear hb2)
          (try clear hk)
          (try clear hi)
          refine hK.out _ _ ⟨((HB.out.cell (jL w _ hw244_0)).trans hw244_0), ((HB.out.cell (jL w _ hw244_1)).trans hw244_1)⟩ (fun hHeld => ?_)
          clear hK K
          refine nU (N:=some 24) ?_
          refine pU (i:=6) (N:=some 25) (tf 7 15) HT_ ?_
          refine pU (i:=7) (N:=some 26) (tf 8 14) HT_ ?_
          refine pU (i:=8) (N:=some 27) (tf 9 13) HT_ ?_
          refine pU (i:=9) (N:=some 28) (tf 10 12) HT_ ?_
          refine pU (i:=10) (N:=some 29) (tf 11 11) HT_ ?_
          refine pV (i:=11) (N:=some 30) (tf 12 10) HT_ ?_
          refine pV (i:=12) (N:=some 31) (tf 13 9) HT_ ?_
          refine pV (i:=13) (N:=some 32) (tf 14 8) HT_ ?_
          refine pV (i:=14) (N:=some 33) (tf 15 7) HT_ ?_
          refine pV (i:=15) (N:=some 34) (tf 16 6) HT_ ?_
          refine pV (i:=16) (N:=some 35) (tf 17 5) HT_ ?_
          refine pV (i:=17) (N:=some 36) (tf 18 4) HT_ ?_
          refine pV (i:=18) (N:=some 37) (tf 19 3) HT_ ?_
          refine pV (i:=19) (N:=some 38) (tf 20 2) HT_ ?_
          refine pU (i:=20) (N:=some 39) (tf 21 1) HT_ ?_
          refine pU (i:=21) (N:=some 40) (tf 22 0) HT_ ?_
          refine done_ (done_of HT_.out (by kernel_rfl)) ?_
          try go_wp2
          go_roundg k2
          case measure => have := HK1.out; have := HK2.out; omega
          case rel => exact ⟨(x6_2), (wrap64 (x6_2 + 1)), tZ, tZ, H', ⟨by have := HK1.out; have := HK2.out; omega⟩, ⟨tR HO_3.out⟩, ⟨tB HB.out⟩⟩
         ·rw [if_neg c10] at H
          have c10b0 : decide (x5_2 < 0) = false := decide_eq_false c10
          clear c10
          by_cases c14 : 0 ≤ x5_2
          ·rw [if_pos c14] at H
           have c14b0 : decide (0 ≤ x5_2) = true := decide_eq_true c14
           clear c14
           by_cases c15 : x5_2 < (l0.length : Int)
           ·rw [if_pos c15] at H
            have c15b0 : decide (x5_2 < (l0.length : Int)) = true := decide_eq_true c15
            clear c15
            replace H := Option.bind_eq_some_iff.mp H
            obtain ⟨t248, A160, H⟩ := H
            replace H : (if t248 = true then (sr14_rising.l1 k2 l0 x3_1 x4_1 x6_2 (wrap64 (x6_2 + 1))) else (sr14_rising.l1 k2 l0 x3_1 x4_1 x5_2 (wrap64 (x6_2 + 1)))) = some r := H
            have A16 := jM A160
            clear A160
            by_cases c17 : t248 = true
            ·subst c17
             have H1 : (sr14_rising.l1 k2 l0 x3_1 x4_1 x6_2 (wrap64 (x6_2 + 1))) = some r := by rw [if_pos rfl] at H; exact H
             clear H
             have H := H1
             clear H1
             have H' := jM H
             clear H
             try go_wp2
             have n0_ := jM (Kd.R_drew HO_3.out)
             have n1_ := jM (jD HB.out)
             clear HO_3 HB
             have HO_3 := n0_
             have HB := n1_
             clear n0_ n1_
             have p244 : 0 ≤ (x6_2 : Int) := of_decide_eq_true tD
             have q244 : x6_2 < (l0.length : Int) := of_decide_eq_true tD
             obtain ⟨ad244, e244, hx244_0, hx244_1⟩ := at_T39 HR0.out x6_2 p244 q244
             have hw244_1 := hx244_1
             have hw244_0 := hx244_0
             cases e244
             replace hx244_0 := (HB.out.cell (jL w _ hx244_0)).trans hx244_0
             replace hx244_1 := (HB.out.cell (jL w _ hx244_1)).trans hx244_1
             replace p244 := eq_true p244
             replace q244 := eq_true q244
             obtain ⟨Ao19, co19, eo19⟩ := Kd.R_slice HO_3.out
             (first | subst eo19 | (injection eo19 with f1_ f2_ f3_; have f4_ := f1_.symm; have f5_ := f3_.symm; clear f1_ f2_ f3_; subst f4_; subst f5_))
             have p246 : 0 ≤ (x6_2 : Int) := of_decide_eq_true tD
             have q246 : x6_2 < (l0.length : Int) := of_decide_eq_true tD
             obtain ⟨ad246, e246, hx246_0, hx246_1⟩ := at_T39 HR0.out x6_2 p246 q246
             have hw246_1 := hx246_1
             have hw246_0 := hx246_0
             obtain rfl : ad244 = ad246 := (by injection e246)
             replace hx246_0 := (HB.out.cell (jL w _ hx246_0)).trans hx246_0
             replace hx246_1 := (HB.out.cell (jL w _ hx246_1)).trans hx246_1
             replace p246 := eq_true p246
             replace q246 := eq_true q246
             have p247 : 0 ≤ (x5_2 : Int) := of_decide_eq_true tD
             have q247 : x5_2 < (l0.length : Int) := of_decide_eq_true tD
             obtain ⟨ad247, e247, hx247_0, hx247_1⟩ := at_T39 HR0.out x5_2 p247 q247
             have hw247_1 := hx247_1
             have hw247_0 := hx247_0
             obtain rfl : ad244 = ad247 := (by injection e247)
             replace hx247_0 := (HB.out.cell (jL w _ hx247_0)).trans hx247_0
             replace hx247_1 := (HB.out.cell (jL w _ hx247_1)).trans hx247_1
             replace p247 := eq_true p247
             replace q247 := eq_true q247
             refine start_ (n := 22) (S := fun w' => w'.cell? (ad244.add ((x6_2).toNat * 2)) = some (.int .i64 ((rd_T39 l0 x6_2).f0)) ∧ w'.cell? ⟨(ad244.add ((x6_2).toNat * 2)).block, (ad244.add ((x6_2).toNat * 2)).off + 1, none⟩ = some (.int .i64 ((rd_T39 l0 x6_2).f1)) ∧ w'.cell? (ad244.add ((x6_2).toNat * 2)) = some (.int .i64 ((rd_T39 l0 x6_2).f0)) ∧ w'.cell? ⟨(ad244.add ((x6_2).toNat * 2)).block, (ad244.add ((x6_2).toNat * 2)).off + 1, none⟩ = some (.int .i64 ((rd_T39 l0 x6_2).f1)) ∧ w'.cell? (ad244.add ((x5_2).toNat * 2)) = some (.int .i64 ((rd_T39 l0 x5_2).f0)) ∧ w'.cell? ⟨(ad244.add ((x5_2).toNat * 2)).block, (ad244.add ((x5_2).toNat * 2)).off + 1, none⟩ = some (.int .i64 ((rd_T39 l0 x5_2).f1))) (ds := []) (tf 0 22) (by kernel_rfl) rfl rfl ⟨((HB.out.cell (jL w _ hw244_0)).trans hw244_0), ((HB.out.cell (jL w _ hw244_1)).trans hw244_1), ((HB.out.cell (jL w _ hw246_0)).trans hw246_0), ((HB.out.cell (jL w _ hw246_1)).trans hw246_1), ((HB.out.cell (jL w _ hw247_0)).trans hw247_0), ((HB.out.cell (jL w _ hw247_1)).trans hw247_1)⟩ (fun hHeld => ?_); refine with_tabW sr14_rising.tab9 sr14_rising.bits9 (fun HT_ HW_ => ?_)
             generalize wr.drew = w18 at HO_3 HB hx244_0 hx244_1 hx246_0 hx246_1 hx247_0 hx247_1 hHeld ⊢
             refine pU (i:=0) (N:=some 19) (tf 1 21) HT_ ?_
             refine pU (i:=1) (N:=some 20) (tf 2 20) HT_ ?_
             refine pU (i:=2) (N:=some 21) (tf 3 19) HT_ ?_
             refine pU (i:=3) (N:=some 22) (tf 4 18) HT_ ?_
             refine tU (i:=4) (N:=some 23) (tf 5 17) HT_ HW_ hHeld ?_
             refine one_ (i := 5) (N := some 24) (tf 6 16) rfl rfl (one_of HT_.out (by kernel_rfl)) (by decide) (fun K hK => ?_)
             refine goes_ Tryd.func39 (by kernel_rfl) rfl #[.slice Ao19 x3_1.length co19, .agg #[.int .i64 ((rd_T39 l0 x6_2).f0), .int .i64 ((rd_T39 l0 x6_2).f1)]] (by rfl) rfl rfl tM ?_
             with_reducible refine (sr14_has.calls k2 _ _ x3_1 ((rd_T39 l0 x6_2).f0) ((rd_T39 l0 x6_2).f1) false _ ?side1 ?side2 A5.out).mono ?_
             (case side1 => exact tC (Kd.R_reads' HO_3.out).2.2)
             (case side2 => exact (Kd.R_reads' HO_3.out).2.1)
             rintro e w20 ⟨rfl, hb⟩
             refine ⟨_, rfl, ?_⟩
             have n0_ := jM (Kd.R_below (tR HO_3.out) hb)
             have n1_ := jM (jT (tB HB.out) hb)
             clear HO_3 HB
             have HO_3 := n0_
             have HB := n1_
             clear n0_ n1_
             (try clear hb)
             (try clear hb2)
             (try clear hk)
             (try clear hi)
             refine hK.out _ _ ⟨((HB.out.cell (jL w _ hw244_0)).trans hw244_0), ((HB.out.cell (jL w _ hw244_1)).trans hw244_1), ((HB.out.cell (jL w _ hw246_0)).trans hw246_0), ((HB.out.cell (jL w _ hw246_1)).trans hw246_1), ((HB.out.cell (jL w _ hw247_0)).trans hw247_0), ((HB.out.cell (jL w _ hw247_1)).trans hw247_1)⟩ (fun hHeld => ?_)
             clear hK K
             refine nU (N:=some 24) ?_
             refine pU (i:=6) (N:=some 25) (tf 7 15) HT_ ?_
             refine pU (i:=7) (N:=some 26) (tf 8 14) HT_ ?_
             refine pU (i:=8) (N:=some 27) (tf 9 13) HT_ ?_
             refine pU (i:=9) (N:=some 28) (tf 10 12) HT_ ?_
             refine pU (i:=10) (N:=some 29) (tf 11 11) HT_ ?_
             refine pU (i:=11) (N:=some 30) (tf 12 10) HT_ ?_
             refine pU (i:=12) (N:=some 31) (tf 13 9) HT_ ?_
             refine pU (i:=13) (N:=some 32) (tf 14 8) HT_ ?_
             refine pU (i:=15) (N:=some 34) #[true, true, true, true, true, true, true, true, true, true, true, true, true, true, false, true, false, false, false, false, false, false] HT_ ?_
             refine pU (i:=16) (N:=some 35) #[true, true, true, true, true, true, true, true, true, true, true, true, true, true, false, true, true, false, false, false, false, false] HT_ ?_
             refine pU (i:=17) (N:=some 36) #[true, true, true, true, true, true, true, true, true, true, true, true, true, true, false, true, true, true, false, false, false, false] HT_ ?_
             refine tU (i:=14) (N:=some 33) (tf 18 4) HT_ HW_ hHeld ?_
             refine tU (i:=18) (N:=some 37) (tf 19 3) HT_ HW_ hHeld ?_
             refine one_ (i := 19) (N := some 38) (tf 20 2) rfl rfl (one_of HT_.out (by kernel_rfl)) (by decide) (fun K hK => ?_)
             refine goes_ Tryd.func69 (by kernel_rfl) rfl #[.agg #[.int .i64 ((rd_T39 l0 x6_2).f0), .int .i64 ((rd_T39 l0 x6_2).f1)], .agg #[.int .i64 ((rd_T39 l0 x5_2).f0), .int .i64 ((rd_T39 l0 x5_2).f1)]] (by rfl) rfl rfl tM ?_
             with_reducible refine (sr14_less.calls ((rd_T39 l0 x6_2).f0) ((rd_T39 l0 x6_2).f1) ((rd_T39 l0 x5_2).f0) ((rd_T39 l0 x5_2).f1) true _ A16.out).mono ?_
             rintro e w21 ⟨rfl, hb⟩
             refine ⟨_, rfl, ?_⟩
             have n0_ := jM (Kd.R_below (tR HO_3.out) hb)
             have n1_ := jM (jT (tB HB.out) hb)
             clear HO_3 HB
             have HO_3 := n0_
             have HB := n1_
             clear n0_ n1_
             (try clear hb)
             (try clear hb2)
             (try clear hk)
             (try clear hi)
             refine hK.out _ _ ⟨((HB.out.cell (jL w _ hw244_0)).trans hw244_0), ((HB.out.cell (jL w _ hw244_1)).trans hw244_1), ((HB.out.cell (jL w _ hw246_0)).trans hw246_0), ((HB.out.cell (jL w _ hw246_1)).trans hw246_1), ((HB.out.cell (jL w _ hw247_0)).trans hw247_0), ((HB.out.cell (jL w _ hw247_1)).trans hw247_1)⟩ (fun hHeld => ?_)
             clear hK K
             refine nU (N:=some 38) ?_
             refine pU (i:=20) (N:=some 39) (tf 21 1) HT_ ?_
             refine pU (i:=21) (N:=some 40) (tf 22 0) HT_ ?_
             refine done_ (done_of HT_.out (by kernel_rfl)) ?_
             try go_wp2
             go_roundg k2
             case measure => have := HK1.out; have := HK2.out; omega
             case rel => exact ⟨(x6_2), (wrap64 (x6_2 + 1)), tZ, tZ, H', ⟨by have := HK1.out; have := HK2.out; omega⟩, ⟨tR HO_3.out⟩, ⟨tB HB.out⟩⟩
            ·replace c17 := Bool.eq_false_iff.mpr c17
             subst c17
             have H1 : (sr14_rising.l1 k2 l0 x3_1 x4_1 x5_2 (wrap64 (x6_2 + 1))) = some r := by rw [if_neg (show ¬ (false = true) by decide)] at H; exact H
             clear H
             have H := H1
             clear H1
             have H' := jM H
             clear H
             try go_wp2
             have n0_ := jM (Kd.R_drew HO_3.out)
             have n1_ := jM (jD HB.out)
             clear HO_3 HB
             have HO_3 := n0_
             have HB := n1_
             clear n0_ n1_
             have p244 : 0 ≤ (x6_2 : Int) := of_decide_eq_true tD
             have q244 : x6_2 < (l0.length : Int) := of_decide_eq_true tD
             obtain ⟨ad244, e244, hx244_0, hx244_1⟩ := at_T39 HR0.out x6_2 p244 q244
             have hw244_1 := hx244_1
             have hw244_0 := hx244_0
             cases e244
             replace hx244_0 := (HB.out.cell (jL w _ hx244_0)).trans hx244_0
             replace hx244_1 := (HB.out.cell (jL w _ hx244_1)).trans hx244_1
             replace p244 := eq_true p244
             replace q244 := eq_true q244
             obtain ⟨Ao23, co23, eo23⟩ := Kd.R_slice HO_3.out
             (first | subst eo23 | (injection eo23 with f1_ f2_ f3_; have f4_ := f1_.symm; have f5_ := f3_.symm; clear f1_ f2_ f3_; subst f4_; subst f5_))
             have p246 : 0 ≤ (x6_2 : Int) := of_decide_eq_true tD
             have q246 : x6_2 < (l0.length : Int) := of_decide_eq_true tD
             obtain ⟨ad246, e246, hx246_0, hx246_1⟩ := at_T39 HR0.out x6_2 p246 q246
             have hw246_1 := hx246_1
             have hw246_0 := hx246_0
             obtain rfl : ad244 = ad246 := (by injection e246)
             replace hx246_0 := (HB.out.cell (jL w _ hx246_0)).trans hx246_0
             replace hx246_1 := (HB.out.cell (jL w _ hx246_1)).trans hx246_1
             replace p246 := eq_true p246
             replace q246 := eq_true q246
             have p247 : 0 ≤ (x5_2 : Int) := of_decide_eq_true tD
             have q247 : x5_2 < (l0.length : Int) := of_decide_eq_true tD
             obtain ⟨ad247, e247, hx247_0, hx247_1⟩ := at_T39 HR0.out x5_2 p247 q247
             have hw247_1 := hx247_1
             have hw247_0 := hx247_0
             obtain rfl : ad244 = ad247 := (by injection e247)
             replace hx247_0 := (HB.out.cell (jL w _ hx247_0)).trans hx247_0
             replace hx247_1 := (HB.out.cell (jL w _ hx247_1)).trans hx247_1
             replace p247 := eq_true p247
             replace q247 := eq_true q247
             refine start_ (n := 22) (S := fun w' => w'.cell? (ad244.add ((x6_2).toNat * 2)) = some (.int .i64 ((rd_T39 l0 x6_2).f0)) ∧ w'.cell? ⟨(ad244.add ((x6_2).toNat * 2)).block, (ad244.add ((x6_2).toNat * 2)).off + 1, none⟩ = some (.int .i64 ((rd_T39 l0 x6_2).f1)) ∧ w'.cell? (ad244.add ((x6_2).toNat * 2)) = some (.int .i64 ((rd_T39 l0 x6_2).f0)) ∧ w'.cell? ⟨(ad244.add ((x6_2).toNat * 2)).block, (ad244.add ((x6_2).toNat * 2)).off + 1, none⟩ = some (.int .i64 ((rd_T39 l0 x6_2).f1)) ∧ w'.cell? (ad244.add ((x5_2).toNat * 2)) = some (.int .i64 ((rd_T39 l0 x5_2).f0)) ∧ w'.cell? ⟨(ad244.add ((x5_2).toNat * 2)).block, (ad244.add ((x5_2).toNat * 2)).off + 1, none⟩ = some (.int .i64 ((rd_T39 l0 x5_2).f1))) (ds := []) (tf 0 22) (by kernel_rfl) rfl rfl ⟨((HB.out.cell (jL w _ hw244_0)).trans hw244_0), ((HB.out.cell (jL w _ hw244_1)).trans hw244_1), ((HB.out.cell (jL w _ hw246_0)).trans hw246_0), ((HB.out.cell (jL w _ hw246_1)).trans hw246_1), ((HB.out.cell (jL w _ hw247_0)).trans hw247_0), ((HB.out.cell (jL w _ hw247_1)).trans hw247_1)⟩ (fun hHeld => ?_); refine with_tabW sr14_rising.tab9 sr14_rising.bits9 (fun HT_ HW_ => ?_)
             generalize wr.drew = w22 at HO_3 HB hx244_0 hx244_1 hx246_0 hx246_1 hx247_0 hx247_1 hHeld ⊢
             refine pU (i:=0) (N:=some 19) (tf 1 21) HT_ ?_
             refine pU (i:=1) (N:=some 20) (tf 2 20) HT_ ?_
             refine pU (i:=2) (N:=some 21) (tf 3 19) HT_ ?_
             refine pU (i:=3) (N:=some 22) (tf 4 18) HT_ ?_
             refine tU (i:=4) (N:=some 23) (tf 5 17) HT_ HW_ hHeld ?_
             refine one_ (i := 5) (N := some 24) (tf 6 16) rfl rfl (one_of HT_.out (by kernel_rfl)) (by decide) (fun K hK => ?_)
             refine goes_ Tryd.func39 (by kernel_rfl) rfl #[.slice Ao23 x3_1.length co23, .agg #[.int .i64 ((rd_T39 l0 x6_2).f0), .int .i64 ((rd_T39 l0 x6_2).f1)]] (by rfl) rfl rfl tM ?_
             with_reducible refine (sr14_has.calls k2 _ _ x3_1 ((rd_T39 l0 x6_2).f0) ((rd_T39 l0 x6_2).f1) false _ ?side1 ?side2 A5.out).mono ?_
             (case side1 => exact tC (Kd.R_reads' HO_3.out).2.2)
             (case side2 => exact (Kd.R_reads' HO_3.out).2.1)
             rintro e w24 ⟨rfl, hb⟩
             refine ⟨_, rfl, ?_⟩
             have n0_ := jM (Kd.R_below (tR HO_3.out) hb)
             have n1_ := jM (jT (tB HB.out) hb)
             clear HO_3 HB
             have HO_3 := n0_
             have HB := n1_
             clear n0_ n1_
             (try clear hb)
             (try clear hb2)
             (try clear hk)
             (try clear hi)
             refine hK.out _ _ ⟨((HB.out.cell (jL w _ hw244_0)).trans hw244_0), ((HB.out.cell (jL w _ hw244_1)).trans hw244_1), ((HB.out.cell (jL w _ hw246_0)).trans hw246_0), ((HB.out.cell (jL w _ hw246_1)).trans hw246_1), ((HB.out.cell (jL w _ hw247_0)).trans hw247_0), ((HB.out.cell (jL w _ hw247_1)).trans hw247_1)⟩ (fun hHeld => ?_)
             clear hK K
             refine nU (N:=some 24) ?_
             refine pU (i:=6) (N:=some 25) (tf 7 15) HT_ ?_
             refine pU (i:=7) (N:=some 26) (tf 8 14) HT_ ?_
             refine pU (i:=8) (N:=some 27) (tf 9 13) HT_ ?_
             refine pU (i:=9) (N:=some 28) (tf 10 12) HT_ ?_
             refine pU (i:=10) (N:=some 29) (tf 11 11) HT_ ?_
             refine pU (i:=11) (N:=some 30) (tf 12 10) HT_ ?_
             refine pU (i:=12) (N:=some 31) (tf 13 9) HT_ ?_
             refine pU (i:=13) (N:=some 32) (tf 14 8) HT_ ?_
             refine pU (i:=15) (N:=some 34) #[true, true, true, true, true, true, true, true, true, true, true, true, true, true, false, true, false, false, false, false, false, false] HT_ ?_
             refine pU (i:=16) (N:=some 35) #[true, true, true, true, true, true, true, true, true, true, true, true, true, true, false, true, true, false, false, false, false, false] HT_ ?_
             refine pU (i:=17) (N:=some 36) #[true, true, true, true, true, true, true, true, true, true, true, true, true, true, false, true, true, true, false, false, false, false] HT_ ?_
             refine tU (i:=14) (N:=some 33) (tf 18 4) HT_ HW_ hHeld ?_
             refine tU (i:=18) (N:=some 37) (tf 19 3) HT_ HW_ hHeld ?_
             refine one_ (i := 19) (N := some 38) (tf 20 2) rfl rfl (one_of HT_.out (by kernel_rfl)) (by decide) (fun K hK => ?_)
             refine goes_ Tryd.func69 (by kernel_rfl) rfl #[.agg #[.int .i64 ((rd_T39 l0 x6_2).f0), .int .i64 ((rd_T39 l0 x6_2).f1)], .agg #[.int .i64 ((rd_T39 l0 x5_2).f0), .int .i64 ((rd_T39 l0 x5_2).f1)]] (by rfl) rfl rfl tM ?_
             with_reducible refine (sr14_less.calls ((rd_T39 l0 x6_2).f0) ((rd_T39 l0 x6_2).f1) ((rd_T39 l0 x5_2).f0) ((rd_T39 l0 x5_2).f1) false _ A16.out).mono ?_
             rintro e w25 ⟨rfl, hb⟩
             refine ⟨_, rfl, ?_⟩
             have n0_ := jM (Kd.R_below (tR HO_3.out) hb)
             have n1_ := jM (jT (tB HB.out) hb)
             clear HO_3 HB
             have HO_3 := n0_
             have HB := n1_
             clear n0_ n1_
             (try clear hb)
             (try clear hb2)
             (try clear hk)
             (try clear hi)
             refine hK.out _ _ ⟨((HB.out.cell (jL w _ hw244_0)).trans hw244_0), ((HB.out.cell (jL w _ hw244_1)).trans hw244_1), ((HB.out.cell (jL w _ hw246_0)).trans hw246_0), ((HB.out.cell (jL w _ hw246_1)).trans hw246_1), ((HB.out.cell (jL w _ hw247_0)).trans hw247_0), ((HB.out.cell (jL w _ hw247_1)).trans hw247_1)⟩ (fun hHeld => ?_)
             clear hK K
             refine nU (N:=some 38) ?_
             refine pU (i:=20) (N:=some 39) (tf 21 1) HT_ ?_
             refine pU (i:=21) (N:=some 40) (tf 22 0) HT_ ?_
             refine done_ (done_of HT_.out (by kernel_rfl)) ?_
             try go_wp2
             go_roundg k2
             case measure => have := HK1.out; have := HK2.out; omega
             case rel => exact ⟨(x5_2), (wrap64 (x6_2 + 1)), tZ, tZ, H', ⟨by have := HK1.out; have := HK2.out; omega⟩, ⟨tR HO_3.out⟩, ⟨tB HB.out⟩⟩
           ·rw [if_neg c15] at H
            exact absurd H (by simp)
          ·rw [if_neg c14] at H
           exact absurd H (by simp)
       ·rw [if_neg c4] at H
        exact absurd H (by simp)
      ·rw [if_neg c3] at H
       have c3b0 : decide (x6_2 < (l0.length : Int)) = false := decide_eq_false c3
       clear c3
       by_cases c26 : x5_2 ≥ 0
       ·rw [if_pos c26] at H
        have c26b0 : decide (0 ≤ x5_2) = true := decide_eq_true c26
        clear c26
        by_cases c27 : 0 ≤ x5_2
        ·rw [if_pos c27] at H
         have c27b0 : decide (0 ≤ x5_2) = true := decide_eq_true c27
         clear c27
         by_cases c28 : x5_2 < (l0.length : Int)
         ·rw [if_pos c28] at H
          have c28b0 : decide (x5_2 < (l0.length : Int)) = true := decide_eq_true c28
          clear c28
          by_cases c29 : x3_1.length < 8796093022208
          ·rw [if_pos c29] at H
           have LMc29 := jM c29
           clear c29
           obtain ⟨y241, hy241⟩ : ∃ y_ : List (S39), y_ = (x3_1 ++ [(⟨(rd_T39 l0 x5_2).f0, (rd_T39 l0 x5_2).f1⟩ : S39)]) := ⟨_, rfl⟩
           replace H : (sr14_rising.l0 k2 l0 y241 (wrap64 (x4_1 + 1))) = some r := by first | (rw [hy241]; with_reducible exact H) | (have H2_ := (Option.bind_some _ _).symm.trans H; rw [hy241]; with_reducible exact H2_) | (have H2_ := (Option.bind_some _ _).symm.trans H; with_reducible exact H2_) | with_reducible exact H | (rw [hy241]; exact H) | exact H
           have Ny241 := jM hy241
           clear hy241
           have H' := jM H
           clear H
           have p240 : 0 ≤ (x5_2 : Int) := of_decide_eq_true tD
           have q240 : x5_2 < (l0.length : Int) := of_decide_eq_true tD
           obtain ⟨ad240, e240, hx240_0, hx240_1⟩ := at_T39 HR0.out x5_2 p240 q240
           cases e240
           replace hx240_0 := (HB.out.cell (jL w _ hx240_0)).trans hx240_0
           replace hx240_1 := (HB.out.cell (jL w _ hx240_1)).trans hx240_1
           replace p240 := eq_true p240
           replace q240 := eq_true q240
           go_wp2_with (first | ((with_reducible refine gate_builtin (b := .append) (xs := #[.tmp 44, .tmp 49]) rfl ?_); at_builtin; refine Kd.R_append k39 (w0 := w) w.heap.size rfl (.tmp 44) (.tmp 49) 32 39 (.agg #[(.int .i64 0), (.int .i64 0)]) 16 rfl Tryd.underlying32 info39 rfl (by decide) (by omega) u3 x3_1 (⟨(rd_T39 l0 x5_2).f0, (rd_T39 l0 x5_2).f1⟩ : S39) [.int .i64 ((rd_T39 l0 x5_2).f0), .int .i64 ((rd_T39 l0 x5_2).f1)] (fun _ => True) (fun _ => False) rfl rfl ?aP (fun _ hk => hk.elim) ?aF ?aO ?aB ?aS ?aL ?_; (case aP => exact k39_mkM _ _ _ (⟨(rd_T39 l0 x5_2).f0, (rd_T39 l0 x5_2).f1⟩ : S39)); (case aB => exact (tB HB.out)); (case aF => exact (fun _ _ => trivial)); (case aO => exact (tR HO_3.out)); (case aS => exact (below_size (tB HB.out))); (case aL => have := LMc29.out; omega); intro v242 w30 ho hb hg hat; rw [← Ny241.out] at ho; have n0_ := jM (hb); have n1_ := jM (ho); clear HB; clear HO_3; have HB := n0_; have HO243 := n1_; clear n0_ n1_; clear ho hb hg hat))
           go_roundg k2
           case measure => have := HK1.out; have := HK2.out; omega
           case rel => exact ⟨(y241), (wrap64 (x4_1 + 1)), tZ, H', ⟨by have := HK1.out; have := HK2.out; omega⟩, ⟨tR HO243.out⟩, ⟨tB HB.out⟩⟩
          ·rw [if_neg c29] at H
           exact absurd H (by simp)
         ·rw [if_neg c28] at H
          exact absurd H (by simp)
        ·rw [if_neg c27] at H
         exact absurd H (by simp)
       ·rw [if_neg c26] at H
        have c26b0 : decide (0 ≤ x5_2) = false := decide_eq_false c26
        clear c26
        have H' := jM H
        clear H
        go_wp2
        go_roundg k2
        case measure => have := HK1.out; have := HK2.out; omega
        case rel => exact ⟨(x3_1), (wrap64 (x4_1 + 1)), tZ, H', ⟨by have := HK1.out; have := HK2.out; omega⟩, ⟨tR HO_3.out⟩, ⟨tB HB.out⟩⟩
   ·rw [if_neg c2] at H
    have c2b0 : decide (x4_1 < (l0.length : Int)) = false := decide_eq_false c2
    clear c2
    obtain rfl := Option.some.inj H
    go_wp2
    go_ret
    exact ⟨_, by first | rfl | (simp [errW_none, errW_some] <;> rfl) | (simp [*, errW_none, errW_some] <;> rfl), tR HO_3.out, tB HB.out⟩

end Go.Proofs.YtclollnicbcooaaDoor.P
end

section
namespace Go.Proofs.YtclollnicbcooaaDoor.P
open Go.RowKit Go.Proofs.YtclollnicbcooaaDoorW.PrintWords Go.Proofs.YtclollnicbcooaaDoorW.PrintLast Go.Proofs.YtclollnicbcooaaDoorW.PrintMore
attribute [local go_sem] max2_int min2_int max_two min_two max_three min_three max_four min_four

/-! ### sr14_Close: function 19 -/
mutual
def sr14_Close.l0 : Nat → List (S39) → List (S39) → Int → List (S82) → List (S101) → List ByteArray → List (S64) → Int → Option ((List (S39)))
 | 0, _, _, _, _, _, _, _, _ => none
 | k + 1, x1, x5, x6, xA, xB, xC, xD, xE => if x6 < (x1.length : Int) then (if 0 ≤ x6 then ((sr14_Is.f xA xB xC xD xE ((rd_T39 x1 x6).f0) ((rd_T39 x1 x6).f1)).bind fun t251 => (if t251 = true then ((sr14_has.f k x5 ((rd_T39 x1 x6).f0) ((rd_T39 x1 x6).f1)).bind fun t253 => (if t253 = true then (sr14_Close.l0 k x1 x5 (wrap64 (x6 + 1)) xA xB xC xD xE) else (if x5.length < 8796093022208 then (sr14_Close.l0 k x1 (x5 ++ [(⟨(rd_T39 x1 x6).f0, (rd_T39 x1 x6).f1⟩ : S39)]) (wrap64 (x6 + 1)) xA xB xC xD xE) else (none)))) else (sr14_Close.l0 k x1 x5 (wrap64 (x6 + 1)) xA xB xC xD xE))) else (none)) else (sr14_Close.l1 k x5 0 xA xB xC xD xE)
def sr14_Close.l1 : Nat → List (S39) → Int → List (S82) → List (S101) → List ByteArray → List (S64) → Int → Option ((List (S39)))
 | 0, _, _, _, _, _, _, _ => none
 | k + 1, x5, x7, xA, xB, xC, xD, xE => if x7 < (x5.length : Int) then (if 0 ≤ x7 then ((sr14_Behind.f xA xB xC xD xE ((rd_T39 x5 x7).f0) ((rd_T39 x5 x7).f1)).bind fun bt262 => (sr14_Close.l2 k x5 x7 bt262.1 bt262.2 0 xA xB xC xD xE)) else (none)) else ((sr14_rising.f k x5).bind fun t258 => (some t258))
def sr14_Close.l2 : Nat → List (S39) → Int → Int → Bool → Int → List (S82) → List (S101) → List ByteArray → List (S64) → Int → Option ((List (S39)))
 | 0, _, _, _, _, _, _, _, _, _, _ => none
 | k + 1, x5, x7, x8, x9, x10, xA, xB, xC, xD, xE => if x10 < (xD.length : Int) then (if x9 = true then (sr14_Close.j3 k x5 x7 x8 x9 x10 (decide (x8 < 0)) xA xB xC xD xE) else (sr14_Close.j3 k x5 x7 x8 x9 x10 false xA xB xC xD xE)) else (sr14_Close.j3 k x5 x7 x8 x9 x10 false xA xB xC xD xE)
def sr14_Close.j3 : Nat → List (S39) → Int → Int → Bool → Int → Bool → List (S82) → List (S101) → List ByteArray → List (S64) → Int → Option ((List (S39)))
 | 0, _, _, _, _, _, _, _, _, _, _, _ => none
 | k + 1, x5, x7, x8, x9, x10, x66, xA, xB, xC, xD, xE => if x66 = true then (if 0 ≤ x10 then (if x10 < (xD.length : Int) then (if ((rd_T64 xD x10).f1) = (wrap64 ((-1) - x8)) then ((sr14_has.f k x5 x10 0).bind fun t266 => (if t266 = true then (sr14_Close.l2 k x5 x7 x8 x9 (wrap64 (x10 + 1)) xA xB xC xD xE) else (if x5.length < 8796093022208 then (sr14_Close.l2 k (x5 ++ [(⟨x10, 0⟩ : S39)]) x7 x8 x9 (wrap64 (x10 + 1)) xA xB xC xD xE) else (none)))) else (sr14_Close.l2 k x5 x7 x8 x9 (wrap64 (x10 + 1)) xA xB xC xD xE)) else (none)) else (none)) else (sr14_Close.l1 k x5 (wrap64 (x7 + 1)) xA xB xC xD xE)
end
def sr14_Close.f (k : Nat) (l0_0 : List (S82)) (l0_1 : List (S101)) (l0_2 : List ByteArray) (l0_3 : List (S64)) (a0_4 : Int) (l1 : List (S39)) : Option ((List (S39))) := sr14_Close.l0 k l1 ([] : List (S39)) 0 l0_0 l0_1 l0_2 l0_3 a0_4
def sr14_Close.T5 : Bool × List (List Nat × List Nat) := (true, [([], []), ([], []), ([], []), ([1, 2], [1, 2]), ([3], [3]), ([0, 4], [0, 4]), ([5, 5], [5]), ([6], [6]), ([6], [6]), ([6], [6]), ([8, 9, 6], [6, 8, 9]), ([10, 6], [6, 10]), ([7, 11, 6, 6], [6, 7, 11]), ([12, 6], [6, 12]), ([6, 13], [6, 13])])
def sr14_Close.B5 : List Nat := [0, 0, 0, 6, 14, 31, 63, 127, 127, 127, 895, 1919, 4095, 8191, 16383]
theorem sr14_Close.tab5 : rtab .any (opsOf Tryd.f19 5) = sr14_Close.T5 := by kernel_rfl
theorem sr14_Close.bits5 : waitsOk sr14_Close.T5.2 sr14_Close.B5 = true := by kernel_rfl
def sr14_Close.T10 : Bool × List (List Nat × List Nat) := (true, [([], []), ([], []), ([], []), ([1, 2], [1, 2]), ([3], [3]), ([0, 4], [0, 4]), ([5], [5]), ([6], [6]), ([6], [6]), ([7, 5, 0, 1, 2, 3, 4, 5, 6, 7], [7]), ([8, 9, 0, 1, 2, 3, 4, 5, 6, 7, 8, 9], [8])])
def sr14_Close.B10 : List Nat := [0, 0, 0, 6, 14, 31, 63, 127, 127, 255, 1023]
theorem sr14_Close.tab10 : rtab .any (opsOf Tryd.f19 10) = sr14_Close.T10 := by kernel_rfl
theorem sr14_Close.bits10 : waitsOk sr14_Close.T10.2 sr14_Close.B10 = true := by kernel_rfl
set_option maxHeartbeats 8000000 in
set_option maxRecDepth 100000 in
theorem sr14_Close.calls (k : Nat) (A0_0 : Option Addr) (c0_0 : Nat) (l0_0 : List (S82)) (A0_1 : Option Addr) (c0_1 : Nat) (l0_1 : List (S101)) (A0_2 : Option Addr) (c0_2 : Nat) (l0_2 : List ByteArray) (A0_3 : Option Addr) (c0_3 : Nat) (l0_3 : List (S64)) (a0_4 : Int) (A1 : Option Addr) (c1 : Nat) (l1 : List (S39)) (r : List (S39)) (w : World) (hr0_0 : Kd.C k82 w A0_0 l0_0.length l0_0) (hc0_0 : l0_0.length ≤ c0_0) (hr0_1 : Kd.C k101 w A0_1 l0_1.length l0_1) (hc0_1 : l0_1.length ≤ c0_1) (hr0_2 : Kd.C Kd.string w A0_2 l0_2.length l0_2) (hc0_2 : l0_2.length ≤ c0_2) (hr0_3 : Kd.C k64 w A0_3 l0_3.length l0_3) (hc0_3 : l0_3.length ≤ c0_3) (hr1 : Kd.C k39 w A1 l1.length l1) (hc1 : l1.length ≤ c1) (h : sr14_Close.f k l0_0 l0_1 l0_2 l0_3 a0_4 l1 = some r) :
  Calls Tryd.prog 19 #[.agg #[.slice A0_0 l0_0.length c0_0, .slice A0_1 l0_1.length c0_1, .slice A0_2 l0_2.length c0_2, .slice A0_3 l0_3.length c0_3, .int .i64 a0_4], .slice A1 l1.length c1] w fun e w' => ∃ v0_ : Value, e = .returned (v0_) ∧ Kd.R k39 39 w' w.heap.size (fun _ => True) v0_ r ∧ Below w.heap.size w w' := by
 have hu27 := Tryd.underlying27
 have hu39 := Tryd.underlying39
 have HR0_0 := jM hr0_0
 have HC0_0 := jM hc0_0
 clear hr0_0 hc0_0
 have HR0_1 := jM hr0_1
 have HC0_1 := jM hc0_1
 clear hr0_1 hc0_1
 have HR0_2 := jM hr0_2
 have HC0_2 := jM hc0_2
 clear hr0_2 hc0_2
 have HR0_3 := jM hr0_3
 have HC0_3 := jM hc0_3
 clear hr0_3 hc0_3
 have HR1 := jM hr1
 have HC1 := jM hc1
 clear hr1 hc1
 have HB := jM (Below.refl w.heap.size w)
 have H : (sr14_Close.l0 k l1 ([] : List (S39)) 0 l0_0 l0_1 l0_2 l0_3 a0_4) = some r := h
 clear h
 have H' := jM H
 clear H
 go_enter Tryd.func19, Tryd.ntmps19
 go_wp2_with (first | ((with_reducible refine gate_dst (N := 2) rfl ?_); refine box_event ?hg (N := 2) ?hd (cs := #[.slice A0_0 l0_0.length c0_0, .slice A0_1 l0_1.length c0_1, .slice A0_2 l0_2.length c0_2, .slice A0_3 l0_3.length c0_3, .int .i64 a0_4]) (t := 27) ?hr ?_; (case hd => rfl); (case hg => rfl); (case hr => first | (go_simp; done) | (go_simp; rfl)); intro gb249 hg w3 hbox hb; have n0_ := jM (jT (tB HB.out) hb); have n1_ := jM (hbox); have n2_ := jM ((by rw [hg]; exact (below_size (tB HB.out)) : w.heap.size ≤ gb249)); have n3_ := jM ((by rw [hg]; exact (below_size (tB HB.out)) : w.heap.size ≤ gb249)); clear HB; have HB := n0_; have BK249 := n1_; have GW249 := n2_; have GE249 := n3_; clear n0_ n1_ n2_ n3_; clear hb hbox hg))
 go_loopg [5, 6] k (fun kq v5 v6 w' => ∃ (x5_1 : List (S39)) (x6_1 : Int), v6 = .int .i64 x6_1 ∧ Aside0 (sr14_Close.l0 kq l1 x5_1 x6_1 l0_0 l0_1 l0_2 l0_3 a0_4 = some r) ∧ Aside0 (kq ≤ k) ∧ Aside0 (Kd.R k39 39 w' w.heap.size (fun _ => True) v5 x5_1) ∧ Aside0 (w'.heap[gb249]? = some (.cells #[(.slice A0_0 l0_0.length c0_0), (.slice A0_1 l0_1.length c0_1), (.slice A0_2 l0_2.length c0_2), (.slice A0_3 l0_3.length c0_3), .int .i64 a0_4] 27 (0, 0))) ∧ Aside0 (Below w.heap.size w w'))
 case atStart => exact ⟨(([] : List (S39))), (0), tZ, H', ⟨Nat.le_refl _⟩, ⟨by first | exact Kd.R_nil _ _ _ _ _ | exact Kd.N_nil _ _ _ _ _ | exact Kd.V_nil _ _ _ _ _ | exact Kd.Q_nil _ _ _ _ _ | exact Kd.S_nil _ _ _ _ _⟩, ⟨tK BK249.out⟩, ⟨by repeat (first | (with_reducible first | exact HB.out | apply jA | apply jN | apply jD | refine jS ?_ GE249.out) | exact HB.out)⟩⟩
 case round =>
  clear H'
  try clear c1
  try clear p2
  obtain ⟨x5_1, x6_1, rfl, HA, HK1, HO_5, BK249, HB⟩ := hrel
  cases gk with
  | zero => exact absurd HA.out (by simp [sr14_Close.l0])
  | succ k1 =>
   have H := HA.out
   clear HA
   simp only [sr14_Close.l0] at H
   by_cases c4 : x6_1 < (l1.length : Int)
   ·rw [if_pos c4] at H
    have c4b0 : decide (x6_1 < (l1.length : Int)) = true := decide_eq_true c4
    clear c4
    by_cases c5 : 0 ≤ x6_1
    ·rw [if_pos c5] at H
     have c5b0 : decide (0 ≤ x6_1) = true := decide_eq_true c5
     clear c5
     replace H := Option.bind_eq_some_iff.mp H
     obtain ⟨t251, A60, H⟩ := H
     replace H : (if t251 = true then ((sr14_has.f k1 x5_1 ((rd_T39 l1 x6_1).f0) ((rd_T39 l1 x6_1).f1)).bind fun t253 => (if t253 = true then (sr14_Close.l0 k1 l1 x5_1 (wrap64 (x6_1 + 1)) l0_0 l0_1 l0_2 l0_3 a0_4) else (if x5_1.length < 8796093022208 then (sr14_Close.l0 k1 l1 (x5_1 ++ [(⟨(rd_T39 l1 x6_1).f0, (rd_T39 l1 x6_1).f1⟩ : S39)]) (wrap64 (x6_1 + 1)) l0_0 l0_1 l0_2 l0_3 a0_4) else (none)))) else (sr14_Close.l0 k1 l1 x5_1 (wrap64 (x6_1 + 1)) l0_0 l0_1 l0_2 l0_3 a0_4)) = some r := H
     have A6 := jM A60
     clear A60
     by_cases c7 : t251 = true
     ·subst c7
      have H1 : ((sr14_has.f k1 x5_1 ((rd_T39 l1 x6_1).f0) ((rd_T39 l1 x6_1).f1)).bind fun t253 => (if t253 = true then (sr14_Close.l0 k1 l1 x5_1 (wrap64 (x6_1 + 1)) l0_0 l0_1 l0_2 l0_3 a0_4) else (if x5_1.length < 8796093022208 then (sr14_Close.l0 k1 l1 (x5_1 ++ [(⟨(rd_T39 l1 x6_1).f0, (rd_T39 l1 x6_1).f1⟩ : S39)]) (wrap64 (x6_1 + 1)) l0_0 l0_1 l0_2 l0_3 a0_4) else (none)))) = some r := by rw [if_pos rfl] at H; exact H
      clear H
      have H := H1
      clear H1
      replace H := Option.bind_eq_some_iff.mp H
      obtain ⟨t253, A80, H⟩ := H
      replace H : (if t253 = true then (sr14_Close.l0 k1 l1 x5_1 (wrap64 (x6_1 + 1)) l0_0 l0_1 l0_2 l0_3 a0_4) else (if x5_1.length < 8796093022208 then (sr14_Close.l0 k1 l1 (x5_1 ++ [(⟨(rd_T39 l1 x6_1).f0, (rd_T39 l1 x6_1).f1⟩ : S39)]) (wrap64 (x6_1 + 1)) l0_0 l0_1 l0_2 l0_3 a0_4) else (none))) = some r := H
      have A8 := jM A80
      clear A80
      by_cases c9 : t253 = true
      ·subst c9
       have H1 : (sr14_Close.l0 k1 l1 x5_1 (wrap64 (x6_1 + 1)) l0_0 l0_1 l0_2 l0_3 a0_4) = some r := by rw [if_pos rfl] at H; exact H
       clear H
       have H := H1
       clear H1
       have H' := jM H
       clear H
       try go_wp2
       have n0_ := jM (Kd.R_drew HO_5.out)
       have n1_ := jM (jZ BK249.out)
       have n2_ := jM (jD HB.out)
       clear HO_5 BK249 HB
       have HO_5 := n0_
       have BK249 := n1_
       have HB := n2_
       clear n0_ n1_ n2_
       have p250 : 0 ≤ (x6_1 : Int) := of_decide_eq_true tD
       have q250 : x6_1 < (l1.length : Int) := of_decide_eq_true tD
       obtain ⟨ad250, e250, hx250_0, hx250_1⟩ := at_T39 HR1.out x6_1 p250 q250
       have hw250_1 := hx250_1
       have hw250_0 := hx250_0
       cases e250
       replace hx250_0 := (HB.out.cell (jL w _ hx250_0)).trans hx250_0
       replace hx250_1 := (HB.out.cell (jL w _ hx250_1)).trans hx250_1
       replace p250 := eq_true p250
       replace q250 := eq_true q250
       have p252 : 0 ≤ (x6_1 : Int) := of_decide_eq_true tD
       have q252 : x6_1 < (l1.length : Int) := of_decide_eq_true tD
       obtain ⟨ad252, e252, hx252_0, hx252_1⟩ := at_T39 HR1.out x6_1 p252 q252
       have hw252_1 := hx252_1
       have hw252_0 := hx252_0
       obtain rfl : ad250 = ad252 := (by injection e252)
       replace hx252_0 := (HB.out.cell (jL w _ hx252_0)).trans hx252_0
       replace hx252_1 := (HB.out.cell (jL w _ hx252_1)).trans hx252_1
       replace p252 := eq_true p252
       replace q252 := eq_true q252
       refine start_ (n := 15) (S := fun w' => w'.cell? ⟨gb249, 0, none⟩ = some (.slice A0_0 l0_0.length c0_0) ∧ w'.cell? ⟨gb249, 1, none⟩ = some (.slice A0_1 l0_1.length c0_1) ∧ w'.cell? ⟨gb249, 2, none⟩ = some (.slice A0_2 l0_2.length c0_2) ∧ w'.cell? ⟨gb249, 3, none⟩ = some (.slice A0_3 l0_3.length c0_3) ∧ w'.cell? ⟨gb249, 4, none⟩ = some (.int .i64 a0_4) ∧ w'.cell? (ad250.add ((x6_1).toNat * 2)) = some (.int .i64 ((rd_T39 l1 x6_1).f0)) ∧ w'.cell? ⟨(ad250.add ((x6_1).toNat * 2)).block, (ad250.add ((x6_1).toNat * 2)).off + 1, none⟩ = some (.int .i64 ((rd_T39 l1 x6_1).f1)) ∧ w'.cell? (ad250.add ((x6_1).toNat * 2)) = some (.int .i64 ((rd_T39 l1 x6_1).f0)) ∧ w'.cell? ⟨(ad250.add ((x6_1).toNat * 2)).block, (ad250.add ((x6_1).toNat * 2)).off + 1, none⟩ = some (.int .i64 ((rd_T39 l1 x6_1).f1))) (ds := []) (tf 0 15) (by kernel_rfl) rfl rfl ⟨(jC BK249.out 0).trans rfl, (jC BK249.out 1).trans rfl, (jC BK249.out 2).trans rfl, (jC BK249.out 3).trans rfl, (jC BK249.out 4).trans rfl, ((HB.out.cell (jL w _ hw250_0)).trans hw250_0), ((HB.out.cell (jL w _ hw250_1)).trans hw250_1), ((HB.out.cell (jL w _ hw252_0)).trans hw252_0), ((HB.out.cell (jL w _ hw252_1)).trans hw252_1)⟩ (fun hHeld => ?_); refine with_tabW sr14_Close.tab5 sr14_Close.bits5 (fun HT_ HW_ => ?_)
       generalize wr.drew = w10 at HO_5 BK249 HB hx250_0 hx250_1 hx252_0 hx252_1 hHeld ⊢
       refine pU (i:=1) (N:=some 19) #[false, true, false, false, false, false, false, false, false, false, false, false, false, false, false] HT_ ?_
       refine pU (i:=2) (N:=some 20) #[false, true, true, false, false, false, false, false, false, false, false, false, false, false, false] HT_ ?_
       refine pU (i:=3) (N:=some 21) #[false, true, true, true, false, false, false, false, false, false, false, false, false, false, false] HT_ ?_
       refine tU (i:=0) (N:=some 18) (tf 4 11) HT_ HW_ hHeld ?_
       refine tU (i:=4) (N:=some 22) (tf 5 10) HT_ HW_ hHeld ?_
       refine one_ (i := 5) (N := some 23) (tf 6 9) rfl rfl (one_of HT_.out (by kernel_rfl)) (by decide) (fun K hK => ?_)
       refine goes_ Tryd.func36 (by kernel_rfl) rfl #[.agg #[.slice A0_0 l0_0.length c0_0, .slice A0_1 l0_1.length c0_1, .slice A0_2 l0_2.length c0_2, .slice A0_3 l0_3.length c0_3, .int .i64 a0_4], .agg #[.int .i64 ((rd_T39 l1 x6_1).f0), .int .i64 ((rd_T39 l1 x6_1).f1)]] (by rfl) rfl rfl tM ?_
       with_reducible refine (sr14_Is.calls _ _ l0_0 _ _ l0_1 _ _ l0_2 _ _ l0_3 a0_4 ((rd_T39 l1 x6_1).f0) ((rd_T39 l1 x6_1).f1) true _ ?side1 ?side2 ?side3 ?side4 ?side5 ?side6 ?side7 ?side8 A6.out).mono ?_
       (case side1 => exact tC (jB HR0_0.out HB.out))
       (case side2 => exact HC0_0.out)
       (case side3 => exact tC (jB HR0_1.out HB.out))
       (case side4 => exact HC0_1.out)
       (case side5 => exact tC (jB HR0_2.out HB.out))
       (case side6 => exact HC0_2.out)
       (case side7 => exact tC (jB HR0_3.out HB.out))
       (case side8 => exact HC0_3.out)
       rintro e w11 ⟨rfl, hb⟩
       refine ⟨_, rfl, ?_⟩
       have n0_ := jM (Kd.R_below (tR HO_5.out) hb)
       have n1_ := jM (jW (g := gb249) (o := .cells #[.slice A0_0 l0_0.length c0_0, .slice A0_1 l0_1.length c0_1, .slice A0_2 l0_2.length c0_2, .slice A0_3 l0_3.length c0_3, .int .i64 a0_4] 27 (0, 0)) (tK BK249.out) hb)
       have n2_ := jM (jT (by repeat (first | (with_reducible first | exact HB.out | apply jA | apply jN | apply jD | refine jS ?_ GE249.out) | exact HB.out)) hb)
       clear HO_5 BK249 HB
       have HO_5 := n0_
       have BK249 := n1_
       have HB := n2_
       clear n0_ n1_ n2_
       (try clear hb)
       (try clear hb2)
       (try clear hk)
       (try clear hi)
       obtain ⟨Ao12, co12, eo12⟩ := Kd.R_slice HO_5.out
       (first | subst eo12 | (injection eo12 with f1_ f2_ f3_; have f4_ := f1_.symm; have f5_ := f3_.symm; clear f1_ f2_ f3_; subst f4_; subst f5_))
       refine hK.out _ _ ⟨(jC BK249.out 0).trans rfl, (jC BK249.out 1).trans rfl, (jC BK249.out 2).trans rfl, (jC BK249.out 3).trans rfl, (jC BK249.out 4).trans rfl, ((HB.out.cell (jL w _ hw250_0)).trans hw250_0), ((HB.out.cell (jL w _ hw250_1)).trans hw250_1), ((HB.out.cell (jL w _ hw252_0)).trans hw252_0), ((HB.out.cell (jL w _ hw252_1)).trans hw252_1)⟩ (fun hHeld => ?_)
       clear hK K
       refine nU (N:=some 23) ?_
       refine pU (i:=6) (N:=some 24) (tf 7 8) HT_ ?_
       refine pU (i:=7) (N:=some 25) (tf 8 7) HT_ ?_
       refine pU (i:=8) (N:=some 26) (tf 9 6) HT_ ?_
       refine pU (i:=9) (N:=some 27) (tf 10 5) HT_ ?_
       refine pU (i:=10) (N:=some 28) (tf 11 4) HT_ ?_
       refine tU (i:=11) (N:=some 29) (tf 12 3) HT_ HW_ hHeld ?_
       refine one_ (i := 12) (N := some 30) (tf 13 2) rfl rfl (one_of HT_.out (by kernel_rfl)) (by decide) (fun K hK => ?_)
       refine goes_ Tryd.func39 (by kernel_rfl) rfl #[.slice Ao12 x5_1.length co12, .agg #[.int .i64 ((rd_T39 l1 x6_1).f0), .int .i64 ((rd_T39 l1 x6_1).f1)]] (by rfl) rfl rfl tM ?_
       with_reducible refine (sr14_has.calls k1 _ _ x5_1 ((rd_T39 l1 x6_1).f0) ((rd_T39 l1 x6_1).f1) true _ ?side1 ?side2 A8.out).mono ?_
       (case side1 => exact tC (Kd.R_reads' HO_5.out).2.2)
       (case side2 => exact (Kd.R_reads' HO_5.out).2.1)
       rintro e w13 ⟨rfl, hb⟩
       refine ⟨_, rfl, ?_⟩
       have n0_ := jM (Kd.R_below (tR HO_5.out) hb)
       have n1_ := jM (jW (g := gb249) (o := .cells #[.slice A0_0 l0_0.length c0_0, .slice A0_1 l0_1.length c0_1, .slice A0_2 l0_2.length c0_2, .slice A0_3 l0_3.length c0_3, .int .i64 a0_4] 27 (0, 0)) (tK BK249.out) hb)
       have n2_ := jM (jT (by repeat (first | (with_reducible first | exact HB.out | apply jA | apply jN | apply jD | refine jS ?_ GE249.out) | exact HB.out)) hb)
       clear HO_5 BK249 HB
       have HO_5 := n0_
       have BK249 := n1_
       have HB := n2_
       clear n0_ n1_ n2_
       (try clear hb)
       (try clear hb2)
       (try clear hk)
       (try clear hi)
       refine hK.out _ _ ⟨(jC BK249.out 0).trans rfl, (jC BK249.out 1).trans rfl, (jC BK249.out 2).trans rfl, (jC BK249.out 3).trans rfl, (jC BK249.out 4).trans rfl, ((HB.out.cell (jL w _ hw250_0)).trans hw250_0), ((HB.out.cell (jL w _ hw250_1)).trans hw250_1), ((HB.out.cell (jL w _ hw252_0)).trans hw252_0), ((HB.out.cell (jL w _ hw252_1)).trans hw252_1)⟩ (fun hHeld => ?_)
       clear hK K
       refine nU (N:=some 30) ?_
       refine pU (i:=13) (N:=some 31) (tf 14 1) HT_ ?_
       refine pU (i:=14) (N:=some 32) (tf 15 0) HT_ ?_
       refine done_ (done_of HT_.out (by kernel_rfl)) ?_
       try go_wp2
       go_roundg k1
       case measure => have := HK1.out; omega
       case rel => exact ⟨(x5_1), (wrap64 (x6_1 + 1)), tZ, H', ⟨by have := HK1.out; omega⟩, ⟨tR HO_5.out⟩, ⟨tK BK249.out⟩, ⟨by repeat (first | (with_reducible first | exact HB.out | apply jA | apply jN | apply jD | refine jS ?_ GE249.out) | exact HB.out)⟩⟩
      ·replace c9 := Bool.eq_false_iff.mpr c9
       subst c9
       have H1 : (if x5_1.length < 8796093022208 then (sr14_Close.l0 k1 l1 (x5_1 ++ [(⟨(rd_T39 l1 x6_1).f0, (rd_T39 l1 x6_1).f1⟩ : S39)]) (wrap64 (x6_1 + 1)) l0_0 l0_1 l0_2 l0_3 a0_4) else (none)) = some r := by rw [if_neg (show ¬ (false = true) by decide)] at H; exact H
       clear H
       have H := H1
       clear H1
       by_cases c14 : x5_1.length < 8796093022208
       ·rw [if_pos c14] at H
        have LMc14 := jM c14
        clear c14
        obtain ⟨y255, hy255⟩ : ∃ y_ : List (S39), y_ = (x5_1 ++ [(⟨(rd_T39 l1 x6_1).f0, (rd_T39 l1 x6_1).f1⟩ : S39)]) := ⟨_, rfl⟩
        replace H : (sr14_Close.l0 k1 l1 y255 (wrap64 (x6_1 + 1)) l0_0 l0_1 l0_2 l0_3 a0_4) = some r := by first | (rw [hy255]; with_reducible exact H) | (have H2_ := (Option.bind_some _ _).symm.trans H; rw [hy255]; with_reducible exact H2_) | (have H2_ := (Option.bind_some _ _).symm.trans H; with_reducible exact H2_) | with_reducible exact H | (rw [hy255]; exact H) | exact H
        have Ny255 := jM hy255
        clear hy255
        have H' := jM H
        clear H
        try go_wp2
        have n0_ := jM (Kd.R_drew HO_5.out)
        have n1_ := jM (jZ BK249.out)
        have n2_ := jM (jD HB.out)
        clear HO_5 BK249 HB
        have HO_5 := n0_
        have BK249 := n1_
        have HB := n2_
        clear n0_ n1_ n2_
        have p250 : 0 ≤ (x6_1 : Int) := of_decide_eq_true tD
        have q250 : x6_1 < (l1.length : Int) := of_decide_eq_true tD
        obtain ⟨ad250, e250, hx250_0, hx250_1⟩ := at_T39 HR1.out x6_1 p250 q250
        have hw250_1 := hx250_1
        have hw250_0 := hx250_0
        cases e250
        replace hx250_0 := (HB.out.cell (jL w _ hx250_0)).trans hx250_0
        replace hx250_1 := (HB.out.cell (jL w _ hx250_1)).trans hx250_1
        replace p250 := eq_true p250
        replace q250 := eq_true q250
        have p252 : 0 ≤ (x6_1 : Int) := of_decide_eq_true tD
        have q252 : x6_1 < (l1.length : Int) := of_decide_eq_true tD
        obtain ⟨ad252, e252, hx252_0, hx252_1⟩ := at_T39 HR1.out x6_1 p252 q252
        have hw252_1 := hx252_1
        have hw252_0 := hx252_0
        obtain rfl : ad250 = ad252 := (by injection e252)
        replace hx252_0 := (HB.out.cell (jL w _ hx252_0)).trans hx252_0
        replace hx252_1 := (HB.out.cell (jL w _ hx252_1)).trans hx252_1
        replace p252 := eq_true p252
        replace q252 := eq_true q252
        refine start_ (n := 15) (S := fun w' => w'.cell? ⟨gb249, 0, none⟩ = some (.slice A0_0 l0_0.length c0_0) ∧ w'.cell? ⟨gb249, 1, none⟩ = some (.slice A0_1 l0_1.length c0_1) ∧ w'.cell? ⟨gb249, 2, none⟩ = some (.slice A0_2 l0_2.length c0_2) ∧ w'.cell? ⟨gb249, 3, none⟩ = some (.slice A0_3 l0_3.length c0_3) ∧ w'.cell? ⟨gb249, 4, none⟩ = some (.int .i64 a0_4) ∧ w'.cell? (ad250.add ((x6_1).toNat * 2)) = some (.int .i64 ((rd_T39 l1 x6_1).f0)) ∧ w'.cell? ⟨(ad250.add ((x6_1).toNat * 2)).block, (ad250.add ((x6_1).toNat * 2)).off + 1, none⟩ = some (.int .i64 ((rd_T39 l1 x6_1).f1)) ∧ w'.cell? (ad250.add ((x6_1).toNat * 2)) = some (.int .i64 ((rd_T39 l1 x6_1).f0)) ∧ w'.cell? ⟨(ad250.add ((x6_1).toNat * 2)).block, (ad250.add ((x6_1).toNat * 2)).off + 1, none⟩ = some (.int .i64 ((rd_T39 l1 x6_1).f1))) (ds := []) (tf 0 15) (by kernel_rfl) rfl rfl ⟨(jC BK249.out 0).trans rfl, (jC BK249.out 1).trans rfl, (jC BK249.out 2).trans rfl, (jC BK249.out 3).trans rfl, (jC BK249.out 4).trans rfl, ((HB.out.cell (jL w _ hw250_0)).trans hw250_0), ((HB.out.cell (jL w _ hw250_1)).trans hw250_1), ((HB.out.cell (jL w _ hw252_0)).trans hw252_0), ((HB.out.cell (jL w _ hw252_1)).trans hw252_1)⟩ (fun hHeld => ?_); refine with_tabW sr14_Close.tab5 sr14_Close.bits5 (fun HT_ HW_ => ?_)
        generalize wr.drew = w15 at HO_5 BK249 HB hx250_0 hx250_1 hx252_0 hx252_1 hHeld ⊢
        refine pU (i:=1) (N:=some 19) #[false, true, false, false, false, false, false, false, false, false, false, false, false, false, false] HT_ ?_
        refine pU (i:=2) (N:=some 20) #[false, true, true, false, false, false, false, false, false, false, false, false, false, false, false] HT_ ?_
        refine pU (i:=3) (N:=some 21) #[false, true, true, true, false, false, false, false, false, false, false, false, false, false, false] HT_ ?_
        refine tU (i:=0) (N:=some 18) (tf 4 11) HT_ HW_ hHeld ?_
        refine tU (i:=4) (N:=some 22) (tf 5 10) HT_ HW_ hHeld ?_
        refine one_ (i := 5) (N := some 23) (tf 6 9) rfl rfl (one_of HT_.out (by kernel_rfl)) (by decide) (fun K hK => ?_)
        refine goes_ Tryd.func36 (by kernel_rfl) rfl #[.agg #[.slice A0_0 l0_0.length c0_0, .slice A0_1 l0_1.length c0_1, .slice A0_2 l0_2.length c0_2, .slice A0_3 l0_3.length c0_3, .int .i64 a0_4], .agg #[.int .i64 ((rd_T39 l1 x6_1).f0), .int .i64 ((rd_T39 l1 x6_1).f1)]] (by rfl) rfl rfl tM ?_
        with_reducible refine (sr14_Is.calls _ _ l0_0 _ _ l0_1 _ _ l0_2 _ _ l0_3 a0_4 ((rd_T39 l1 x6_1).f0) ((rd_T39 l1 x6_1).f1) true _ ?side1 ?side2 ?side3 ?side4 ?side5 ?side6 ?side7 ?side8 A6.out).mono ?_
        (case side1 => exact tC (jB HR0_0.out HB.out))
        (case side2 => exact HC0_0.out)
        (case side3 => exact tC (jB HR0_1.out HB.out))
        (case side4 => exact HC0_1.out)
        (case side5 => exact tC (jB HR0_2.out HB.out))
        (case side6 => exact HC0_2.out)
        (case side7 => exact tC (jB HR0_3.out HB.out))
        (case side8 => exact HC0_3.out)
        rintro e w16 ⟨rfl, hb⟩
        refine ⟨_, rfl, ?_⟩
        have n0_ := jM (Kd.R_below (tR HO_5.out) hb)
        have n1_ := jM (jW (g := gb249) (o := .cells #[.slice A0_0 l0_0.length c0_0, .slice A0_1 l0_1.length c0_1, .slice A0_2 l0_2.length c0_2, .slice A0_3 l0_3.length c0_3, .int .i64 a0_4] 27 (0, 0)) (tK BK249.out) hb)
        have n2_ := jM (jT (by repeat (first | (with_reducible first | exact HB.out | apply jA | apply jN | apply jD | refine jS ?_ GE249.out) | exact HB.out)) hb)
        clear HO_5 BK249 HB
        have HO_5 := n0_
        have BK249 := n1_
        have HB := n2_
        clear n0_ n1_ n2_
        (try clear hb)
        (try clear hb2)
        (try clear hk)
        (try clear hi)
        obtain ⟨Ao17, co17, eo17⟩ := Kd.R_slice HO_5.out
        (first | subst eo17 | (injection eo17 with f1_ f2_ f3_; have f4_ := f1_.symm; have f5_ := f3_.symm; clear f1_ f2_ f3_; subst f4_; subst f5_))
        refine hK.out _ _ ⟨(jC BK249.out 0).trans rfl, (jC BK249.out 1).trans rfl, (jC BK249.out 2).trans rfl, (jC BK249.out 3).trans rfl, (jC BK249.out 4).trans rfl, ((HB.out.cell (jL w _ hw250_0)).trans hw250_0), ((HB.out.cell (jL w _ hw250_1)).trans hw250_1), ((HB.out.cell (jL w _ hw252_0)).trans hw252_0), ((HB.out.cell (jL w _ hw252_1)).trans hw252_1)⟩ (fun hHeld => ?_)
        clear hK K
        refine nU (N:=some 23) ?_
        refine pU (i:=6) (N:=some 24) (tf 7 8) HT_ ?_
        refine pU (i:=7) (N:=some 25) (tf 8 7) HT_ ?_
        refine pU (i:=8) (N:=some 26) (tf 9 6) HT_ ?_
        refine pU (i:=9) (N:=some 27) (tf 10 5) HT_ ?_
        refine pU (i:=10) (N:=some 28) (tf 11 4) HT_ ?_
        refine tU (i:=11) (N:=some 29) (tf 12 3) HT_ HW_ hHeld ?_
        refine one_ (i := 12) (N := some 30) (tf 13 2) rfl rfl (one_of HT_.out (by kernel_rfl)) (by decide) (fun K hK => ?_)
        refine goes_ Tryd.func39 (by kernel_rfl) rfl #[.slice Ao17 x5_1.length co17, .agg #[.int .i64 ((rd_T39 l1 x6_1).f0), .int .i64 ((rd_T39 l1 x6_1).f1)]] (by rfl) rfl rfl tM ?_
        with_reducible refine (sr14_has.calls k1 _ _ x5_1 ((rd_T39 l1 x6_1).f0) ((rd_T39 l1 x6_1).f1) false _ ?side1 ?side2 A8.out).mono ?_
        (case side1 => exact tC (Kd.R_reads' HO_5.out).2.2)
        (case side2 => exact (Kd.R_reads' HO_5.out).2.1)
        rintro e w18 ⟨rfl, hb⟩
        refine ⟨_, rfl, ?_⟩
        have n0_ := jM (Kd.R_below (tR HO_5.out) hb)
        have n1_ := jM (jW (g := gb249) (o := .cells #[.slice A0_0 l0_0.length c0_0, .slice A0_1 l0_1.length c0_1, .slice A0_2 l0_2.length c0_2, .slice A0_3 l0_3.length c0_3, .int .i64 a0_4] 27 (0, 0)) (tK BK249.out) hb)
        have n2_ := jM (jT (by repeat (first | (with_reducible first | exact HB.out | apply jA | apply jN | apply jD | refine jS ?_ GE249.out) | exact HB.out)) hb)
        clear HO_5 BK249 HB
        have HO_5 := n0_
        have BK249 := n1_
        have HB := n2_
        clear n0_ n1_ n2_
        (try clear hb)
        (try clear hb2)
        (try clear hk)
        (try clear hi)
        refine hK.out _ _ ⟨(jC BK249.out 0).trans rfl, (jC BK249.out 1).trans rfl, (jC BK249.out 2).trans rfl, (jC BK249.out 3).trans rfl, (jC BK249.out 4).trans rfl, ((HB.out.cell (jL w _ hw250_0)).trans hw250_0), ((HB.out.cell (jL w _ hw250_1)).trans hw250_1), ((HB.out.cell (jL w _ hw252_0)).trans hw252_0), ((HB.out.cell (jL w _ hw252_1)).trans hw252_1)⟩ (fun hHeld => ?_)
        clear hK K
        refine nU (N:=some 30) ?_
        refine pU (i:=13) (N:=some 31) (tf 14 1) HT_ ?_
        refine pU (i:=14) (N:=some 32) (tf 15 0) HT_ ?_
        refine done_ (done_of HT_.out (by kernel_rfl)) ?_
        have p254 : 0 ≤ (x6_1 : Int) := of_decide_eq_true tD
        have q254 : x6_1 < (l1.length : Int) := of_decide_eq_true tD
        obtain ⟨ad254, e254, hx254_0, hx254_1⟩ := at_T39 HR1.out x6_1 p254 q254
        obtain rfl : ad250 = ad254 := (by injection e254)
        replace hx254_0 := (HB.out.cell (jL w _ hx254_0)).trans hx254_0
        replace hx254_1 := (HB.out.cell (jL w _ hx254_1)).trans hx254_1
        replace p254 := eq_true p254
        replace q254 := eq_true q254
        try go_wp2_with (first | ((with_reducible refine gate_builtin (b := .append) (xs := #[.tmp 33, .tmp 38]) rfl ?_); at_builtin; refine Kd.R_append k39 (w0 := w) w.heap.size rfl (.tmp 33) (.tmp 38) 32 39 (.agg #[(.int .i64 0), (.int .i64 0)]) 16 rfl Tryd.underlying32 info39 rfl (by decide) (by omega) (.slice Ao17 x5_1.length co17) x5_1 (⟨(rd_T39 l1 x6_1).f0, (rd_T39 l1 x6_1).f1⟩ : S39) [.int .i64 ((rd_T39 l1 x6_1).f0), .int .i64 ((rd_T39 l1 x6_1).f1)] (fun _ => True) (fun _ => False) rfl rfl ?aP (fun _ hk => hk.elim) ?aF ?aO ?aB ?aS ?aL ?_; (case aP => exact k39_mkM _ _ _ (⟨(rd_T39 l1 x6_1).f0, (rd_T39 l1 x6_1).f1⟩ : S39)); (case aB => exact (by repeat (first | (with_reducible first | exact HB.out | apply jA | apply jN | apply jD | refine jS ?_ GE249.out) | exact HB.out))); (case aF => exact (fun _ _ => trivial)); (case aO => exact (tR HO_5.out)); (case aS => exact (below_size (by repeat (first | (with_reducible first | exact HB.out | apply jA | apply jN | apply jD | refine jS ?_ GE249.out) | exact HB.out)))); (case aL => have := LMc14.out; omega); intro v256 w19 ho hb hg hat; rw [← Ny255.out] at ho; have n0_ := jM (blk_grown (g := gb249) (o := .cells #[.slice A0_0 l0_0.length c0_0, .slice A0_1 l0_1.length c0_1, .slice A0_2 l0_2.length c0_2, .slice A0_3 l0_3.length c0_3, .int .i64 a0_4] 27 (0, 0)) (tK BK249.out) hg (Kd.R_ne HO_5.out BK249.out (by decide))); have n1_ := jM (hb); have n2_ := jM (ho); clear BK249; clear HB; clear HO_5; have BK249 := n0_; have HB := n1_; have HO257 := n2_; clear n0_ n1_ n2_; clear ho hb hg hat))
        go_roundg k1
        case measure => have := HK1.out; omega
        case rel => exact ⟨(y255), (wrap64 (x6_1 + 1)), tZ, H', ⟨by have := HK1.out; omega⟩, ⟨tR HO257.out⟩, ⟨tK BK249.out⟩, ⟨by repeat (first | (with_reducible first | exact HB.out | apply jA | apply jN | apply jD | refine jS ?_ GE249.out) | exact HB.out)⟩⟩
       ·rw [if_neg c14] at H
        exact absurd H (by simp)
     ·replace c7 := Bool.eq_false_iff.mpr c7
      subst c7
      have H1 : (sr14_Close.l0 k1 l1 x5_1 (wrap64 (x6_1 + 1)) l0_0 l0_1 l0_2 l0_3 a0_4) = some r := by rw [if_neg (show ¬ (false = true) by decide)] at H; exact H
      clear H
      have H := H1
      clear H1
      have H' := jM H
      clear H
      try go_wp2
      have n0_ := jM (Kd.R_drew HO_5.out)
      have n1_ := jM (jZ BK249.out)
      have n2_ := jM (jD HB.out)
      clear HO_5 BK249 HB
      have HO_5 := n0_
      have BK249 := n1_
      have HB := n2_
      clear n0_ n1_ n2_
      have p250 : 0 ≤ (x6_1 : Int) := of_decide_eq_true tD
      have q250 : x6_1 < (l1.length : Int) := of_decide_eq_true tD
      obtain ⟨ad250, e250, hx250_0, hx250_1⟩ := at_T39 HR1.out x6_1 p250 q250
      have hw250_1 := hx250_1
      have hw250_0 := hx250_0
      cases e250
      replace hx250_0 := (HB.out.cell (jL w _ hx250_0)).trans hx250_0
      replace hx250_1 := (HB.out.cell (jL w _ hx250_1)).trans hx250_1
      replace p250 := eq_true p250
      replace q250 := eq_true q250
      refine start_ (n := 15) (S := fun w' => w'.cell? ⟨gb249, 0, none⟩ = some (.slice A0_0 l0_0.length c0_0) ∧ w'.cell? ⟨gb249, 1, none⟩ = some (.slice A0_1 l0_1.length c0_1) ∧ w'.cell? ⟨gb249, 2, none⟩ = some (.slice A0_2 l0_2.length c0_2) ∧ w'.cell? ⟨gb249, 3, none⟩ = some (.slice A0_3 l0_3.length c0_3) ∧ w'.cell? ⟨gb249, 4, none⟩ = some (.int .i64 a0_4) ∧ w'.cell? (ad250.add ((x6_1).toNat * 2)) = some (.int .i64 ((rd_T39 l1 x6_1).f0)) ∧ w'.cell? ⟨(ad250.add ((x6_1).toNat * 2)).block, (ad250.add ((x6_1).toNat * 2)).off + 1, none⟩ = some (.int .i64 ((rd_T39 l1 x6_1).f1))) (ds := []) (tf 0 15) (by kernel_rfl) rfl rfl ⟨(jC BK249.out 0).trans rfl, (jC BK249.out 1).trans rfl, (jC BK249.out 2).trans rfl, (jC BK249.out 3).trans rfl, (jC BK249.out 4).trans rfl, ((HB.out.cell (jL w _ hw250_0)).trans hw250_0), ((HB.out.cell (jL w _ hw250_1)).trans hw250_1)⟩ (fun hHeld => ?_); refine with_tabW sr14_Close.tab5 sr14_Close.bits5 (fun HT_ HW_ => ?_)
      generalize wr.drew = w20 at HO_5 BK249 HB hx250_0 hx250_1 hHeld ⊢
      refine pU (i:=1) (N:=some 19) #[false, true, false, false, false, false, false, false, false, false, false, false, false, false, false] HT_ ?_
      refine pU (i:=2) (N:=some 20) #[false, true, true, false, false, false, false, false, false, false, false, false, false, false, false] HT_ ?_
      refine pU (i:=3) (N:=some 21) #[false, true, true, true, false, false, false, false, false, false, false, false, false, false, false] HT_ ?_
      refine tU (i:=0) (N:=some 18) (tf 4 11) HT_ HW_ hHeld ?_
      refine tU (i:=4) (N:=some 22) (tf 5 10) HT_ HW_ hHeld ?_
      refine one_ (i := 5) (N := some 23) (tf 6 9) rfl rfl (one_of HT_.out (by kernel_rfl)) (by decide) (fun K hK => ?_)
      refine goes_ Tryd.func36 (by kernel_rfl) rfl #[.agg #[.slice A0_0 l0_0.length c0_0, .slice A0_1 l0_1.length c0_1, .slice A0_2 l0_2.length c0_2, .slice A0_3 l0_3.length c0_3, .int .i64 a0_4], .agg #[.int .i64 ((rd_T39 l1 x6_1).f0), .int .i64 ((rd_T39 l1 x6_1).f1)]] (by rfl) rfl rfl tM ?_
      with_reducible refine (sr14_Is.calls _ _ l0_0 _ _ l0_1 _ _ l0_2 _ _ l0_3 a0_4 ((rd_T39 l1 x6_1).f0) ((rd_T39 l1 x6_1).f1) false _ ?side1 ?side2 ?side3 ?side4 ?side5 ?side6 ?side7 ?side8 A6.out).mono ?_
      (case side1 => exact tC (jB HR0_0.out HB.out))
      (case side2 => exact HC0_0.out)
      (case side3 => exact tC (jB HR0_1.out HB.out))
      (case side4 => exact HC0_1.out)
      (case side5 => exact tC (jB HR0_2.out HB.out))
      (case side6 => exact HC0_2.out)
      (case side7 => exact tC (jB HR0_3.out HB.out))
      (case side8 => exact HC0_3.out)
      rintro e w21 ⟨rfl, hb⟩
      refine ⟨_, rfl, ?_⟩
      have n0_ := jM (Kd.R_below (tR HO_5.out) hb)
      have n1_ := jM (jW (g := gb249) (o := .cells #[.slice A0_0 l0_0.length c0_0, .slice A0_1 l0_1.length c0_1, .slice A0_2 l0_2.length c0_2, .slice A0_3 l0_3.length c0_3, .int .i64 a0_4] 27 (0, 0)) (tK BK249.out) hb)
      have n2_ := jM (jT (by repeat (first | (with_reducible first | exact HB.out | apply jA | apply jN | apply jD | refine jS ?_ GE249.out) | exact HB.out)) hb)
      clear HO_5 BK249 HB
      have HO_5 := n0_
      have BK249 := n1_
      have HB := n2_
      clear n0_ n1_ n2_
      (try clear hb)
      (try clear hb2)
      (try clear hk)
      (try clear hi)
      refine hK.out _ _ ⟨(jC BK249.out 0).trans rfl, (jC BK249.out 1).trans rfl, (jC BK249.out 2).trans rfl, (jC BK249.out 3).trans rfl, (jC BK249.out 4).trans rfl, ((HB.out.cell (jL w _ hw250_0)).trans hw250_0), ((HB.out.cell (jL w _ hw250_1)).trans hw250_1)⟩ (fun hHeld => ?_)
      clear hK K
      refine nU (N:=some 23) ?_
      refine pU (i:=6) (N:=some 24) (tf 7 8) HT_ ?_
      refine pV (i:=7) (N:=some 25) (tf 8 7) HT_ ?_
      refine pV (i:=8) (N:=some 26) (tf 9 6) HT_ ?_
      refine pV (i:=9) (N:=some 27) (tf 10 5) HT_ ?_
      refine pV (i:=10) (N:=some 28) (tf 11 4) HT_ ?_
      refine pV (i:=11) (N:=some 29) (tf 12 3) HT_ ?_
      refine pV (i:=12) (N:=some 30) (tf 13 2) HT_ ?_
      refine pV (i:=13) (N:=some 31) (tf 14 1) HT_ ?_
      refine pU (i:=14) (N:=some 32) (tf 15 0) HT_ ?_
      refine done_ (done_of HT_.out (by kernel_rfl)) ?_
      try go_wp2
      go_roundg k1
      case measure => have := HK1.out; omega
      case rel => exact ⟨(x5_1), (wrap64 (x6_1 + 1)), tZ, H', ⟨by have := HK1.out; omega⟩, ⟨tR HO_5.out⟩, ⟨tK BK249.out⟩, ⟨by repeat (first | (with_reducible first | exact HB.out | apply jA | apply jN | apply jD | refine jS ?_ GE249.out) | exact HB.out)⟩⟩
    ·rw [if_neg c5] at H
     exact absurd H (by simp)
   ·rw [if_neg c4] at H
    have c4b0 : decide (x6_1 < (l1.length : Int)) = false := decide_eq_false c4
    clear c4
    have H' := jM H
    clear H
    go_wp2
    go_loopg [5, 7] k1 (fun kq v5 v7 w' => ∃ (x5_2 : List (S39)) (x7_2 : Int), v7 = .int .i64 x7_2 ∧ Aside0 (sr14_Close.l1 kq x5_2 x7_2 l0_0 l0_1 l0_2 l0_3 a0_4 = some r) ∧ Aside0 (kq ≤ k1) ∧ Aside0 (Kd.R k39 39 w' w.heap.size (fun _ => True) v5 x5_2) ∧ Aside0 (w'.heap[gb249]? = some (.cells #[(.slice A0_0 l0_0.length c0_0), (.slice A0_1 l0_1.length c0_1), (.slice A0_2 l0_2.length c0_2), (.slice A0_3 l0_3.length c0_3), .int .i64 a0_4] 27 (0, 0))) ∧ Aside0 (Below w.heap.size w w'))
    case atStart => exact ⟨(x5_1), (0), tZ, H', ⟨Nat.le_refl _⟩, ⟨tR HO_5.out⟩, ⟨tK BK249.out⟩, ⟨by repeat (first | (with_reducible first | exact HB.out | apply jA | apply jN | apply jD | refine jS ?_ GE249.out) | exact HB.out)⟩⟩
    case round =>
     clear H'
     try clear c1
     try clear p2
     try clear q2
     try clear hx2
     try clear c3
     try clear c4
     try clear c4b0
     try clear c5
     try clear p6
     try clear c7
     try clear c9
     try clear c14
     try clear hx250_0
     try clear hx250_1
     try clear hx252_0
     try clear hx252_1
     try clear hx254_0
     try clear hx254_1
     try clear p250
     try clear p252
     try clear p254
     try clear q250
     try clear q252
     try clear q254
     obtain ⟨x5_2, x7_2, rfl, HA, HK2, HO_5, BK249, HB⟩ := hrel
     cases gk with
     | zero => exact absurd HA.out (by simp [sr14_Close.l1])
     | succ k2 =>
      have H := HA.out
      clear HA
      simp only [sr14_Close.l1] at H
      by_cases c22 : x7_2 < (x5_2.length : Int)
      ·rw [if_pos c22] at H
       have c22b0 : decide (x7_2 < (x5_2.length : Int)) = true := decide_eq_true c22
       clear c22
       by_cases c23 : 0 ≤ x7_2
       ·rw [if_pos c23] at H
        have c23b0 : decide (0 ≤ x7_2) = true := decide_eq_true c23
        clear c23
        replace H := Option.bind_eq_some_iff.mp H
        obtain ⟨⟨t262, t263⟩, A240, H⟩ := H
        replace H : (sr14_Close.l2 k2 x5_2 x7_2 t262 t263 0 l0_0 l0_1 l0_2 l0_3 a0_4) = some r := H
        have A24 := jM A240
        clear A240
        have H' := jM H
        clear H
        obtain ⟨Ao25, co25, eo25⟩ := Kd.R_slice HO_5.out
        subst eo25
        try go_wp2
        have n0_ := jM (Kd.R_drew HO_5.out)
        have n1_ := jM (jZ BK249.out)
        have n2_ := jM (jD HB.out)
        clear HO_5 BK249 HB
        have HO_5 := n0_
        have BK249 := n1_
        have HB := n2_
        clear n0_ n1_ n2_
        have p261 : 0 ≤ (x7_2 : Int) := of_decide_eq_true tD
        have q261 : x7_2 < (x5_2.length : Int) := of_decide_eq_true tD
        obtain ⟨ad261, e261, hx261_0, hx261_1⟩ := at_T39 (Kd.R_reads' HO_5.out).2.2 x7_2 p261 q261
        cases e261
        replace p261 := eq_true p261
        replace q261 := eq_true q261
        refine start_ (n := 11) (S := fun w' => w'.cell? ⟨gb249, 0, none⟩ = some (.slice A0_0 l0_0.length c0_0) ∧ w'.cell? ⟨gb249, 1, none⟩ = some (.slice A0_1 l0_1.length c0_1) ∧ w'.cell? ⟨gb249, 2, none⟩ = some (.slice A0_2 l0_2.length c0_2) ∧ w'.cell? ⟨gb249, 3, none⟩ = some (.slice A0_3 l0_3.length c0_3) ∧ w'.cell? ⟨gb249, 4, none⟩ = some (.int .i64 a0_4) ∧ w'.cell? (ad261.add ((x7_2).toNat * 2)) = some (.int .i64 ((rd_T39 x5_2 x7_2).f0)) ∧ w'.cell? ⟨(ad261.add ((x7_2).toNat * 2)).block, (ad261.add ((x7_2).toNat * 2)).off + 1, none⟩ = some (.int .i64 ((rd_T39 x5_2 x7_2).f1))) (ds := []) (tf 0 11) (by kernel_rfl) rfl rfl ⟨(jC BK249.out 0).trans rfl, (jC BK249.out 1).trans rfl, (jC BK249.out 2).trans rfl, (jC BK249.out 3).trans rfl, (jC BK249.out 4).trans rfl, hx261_0, hx261_1⟩ (fun hHeld => ?_); refine with_tabW sr14_Close.tab10 sr14_Close.bits10 (fun HT_ HW_ => ?_)
        generalize wr.drew = w26 at HO_5 BK249 HB hx261_0 hx261_1 hHeld ⊢
        refine pU (i:=1) (N:=some 48) #[false, true, false, false, false, false, false, false, false, false, false] HT_ ?_
        refine pU (i:=2) (N:=some 49) #[false, true, true, false, false, false, false, false, false, false, false] HT_ ?_
        refine pU (i:=3) (N:=some 50) #[false, true, true, true, false, false, false, false, false, false, false] HT_ ?_
        refine tU (i:=0) (N:=some 47) (tf 4 7) HT_ HW_ hHeld ?_
        refine tU (i:=4) (N:=some 51) (tf 5 6) HT_ HW_ hHeld ?_
        refine one_ (i := 5) (N := some 52) (tf 6 5) rfl rfl (one_of HT_.out (by kernel_rfl)) (by decide) (fun K hK => ?_)
        refine goes_ Tryd.func16 (by kernel_rfl) rfl #[.agg #[.slice A0_0 l0_0.length c0_0, .slice A0_1 l0_1.length c0_1, .slice A0_2 l0_2.length c0_2, .slice A0_3 l0_3.length c0_3, .int .i64 a0_4], .agg #[.int .i64 ((rd_T39 x5_2 x7_2).f0), .int .i64 ((rd_T39 x5_2 x7_2).f1)]] (by rfl) rfl rfl tM ?_
        with_reducible refine (sr14_Behind.calls _ _ l0_0 _ _ l0_1 _ _ l0_2 _ _ l0_3 a0_4 ((rd_T39 x5_2 x7_2).f0) ((rd_T39 x5_2 x7_2).f1) t262 t263 _ ?side1 ?side2 ?side3 ?side4 ?side5 ?side6 ?side7 ?side8 A24.out).mono ?_
        (case side1 => exact tC (jB HR0_0.out HB.out))
        (case side2 => exact HC0_0.out)
        (case side3 => exact tC (jB HR0_1.out HB.out))
        (case side4 => exact HC0_1.out)
        (case side5 => exact tC (jB HR0_2.out HB.out))
        (case side6 => exact HC0_2.out)
        (case side7 => exact tC (jB HR0_3.out HB.out))
        (case side8 => exact HC0_3.out)
        rintro e w27 ⟨rfl, hb⟩
        have HS5_ := (hb.cell (jL _ _ (hHeld.2.2.2.2.2.1))).trans (hHeld.2.2.2.2.2.1)
        have HS6_ := (hb.cell (jL _ _ (hHeld.2.2.2.2.2.2))).trans (hHeld.2.2.2.2.2.2)
        refine ⟨_, rfl, ?_⟩
        have n0_ := jM (Kd.R_below (tR HO_5.out) hb)
        have n1_ := jM (jW (g := gb249) (o := .cells #[.slice A0_0 l0_0.length c0_0, .slice A0_1 l0_1.length c0_1, .slice A0_2 l0_2.length c0_2, .slice A0_3 l0_3.length c0_3, .int .i64 a0_4] 27 (0, 0)) (tK BK249.out) hb)
        have n2_ := jM (jT (by repeat (first | (with_reducible first | exact HB.out | apply jA | apply jN | apply jD | refine jS ?_ GE249.out) | exact HB.out)) hb)
        clear HO_5 BK249 HB
        have HO_5 := n0_
        have BK249 := n1_
        have HB := n2_
        clear n0_ n1_ n2_
        (try clear hb)
        (try clear hb2)
        (try clear hk)
        (try clear hi)
        refine hK.out _ _ ⟨(jC BK249.out 0).trans rfl, (jC BK249.out 1).trans rfl, (jC BK249.out 2).trans rfl, (jC BK249.out 3).trans rfl, (jC BK249.out 4).trans rfl, HS5_, HS6_⟩ (fun hHeld => ?_)
        clear hK K
        refine nU (N:=some 52) ?_
        refine pU (i:=6) (N:=some 46) (tf 7 4) HT_ ?_
        refine pU (i:=7) (N:=some 53) (tf 8 3) HT_ ?_
        refine pU (i:=8) (N:=some 54) (tf 9 2) HT_ ?_
        refine pU (i:=9) (N:=some 8) (tf 10 1) HT_ ?_
        refine pU (i:=10) (N:=some 9) (tf 11 0) HT_ ?_
        refine done_ (done_of HT_.out (by kernel_rfl)) ?_
        try go_wp2
        go_loopg [5, 10] k2 (fun kq v5 v10 w' => ∃ (x5_3 : List (S39)) (x10_3 : Int), v10 = .int .i64 x10_3 ∧ Aside0 (sr14_Close.l2 kq x5_3 x7_2 t262 t263 x10_3 l0_0 l0_1 l0_2 l0_3 a0_4 = some r) ∧ Aside0 (kq ≤ k2) ∧ Aside0 (Kd.R k39 39 w' w.heap.size (fun _ => True) v5 x5_3) ∧ Aside0 (w'.heap[gb249]? = some (.cells #[(.slice A0_0 l0_0.length c0_0), (.slice A0_1 l0_1.length c0_1), (.slice A0_2 l0_2.length c0_2), (.slice A0_3 l0_3.length c0_3), .int .i64 a0_4] 27 (0, 0))) ∧ Aside0 (Below w.heap.size w w'))
        case atStart => exact ⟨(x5_2), (0), tZ, H', ⟨Nat.le_refl _⟩, ⟨tR HO_5.out⟩, ⟨tK BK249.out⟩, ⟨by repeat (first | (with_reducible first | exact HB.out | apply jA | apply jN | apply jD | refine jS ?_ GE249.out) | exact HB.out)⟩⟩
        case round =>
         clear H'
         try clear c1
         try clear c2
         try clear p2
         try clear q2
         try clear hx2
         try clear c3
         try clear c4
         try clear c4b0
         try clear c5
         try clear p6
         try clear c7
         try clear c9
         try clear c14
         try clear c16
         try clear c22
         try clear c22b0
         try clear c23
         try clear c23b0
         try clear p25
         try clear q25
         try clear hx25
         try clear p26
         try clear q26
         try clear hx26
         try clear hx250_0
         try clear hx250_1
         try clear hx252_0
         try clear hx252_1
         try clear hx254_0
         try clear hx254_1
         try clear hx261_0
         try clear hx261_1
         try clear p2
         try clear p250
         try clear p252
         try clear p254
         try clear p261
         try clear p6
         try clear q2
         try clear q250
         try clear q252
         try clear q254
         try clear q261
         obtain ⟨x5_3, x10_3, rfl, HA, HK3, HO_5, BK249, HB⟩ := hrel
         cases gk with
         | zero => exact absurd HA.out (by simp [sr14_Close.l2])
         | succ k3 =>
          have H := HA.out
          clear HA
          simp only [sr14_Close.l2] at H
          have HC28 := jM H
          clear H
          go_upto_region 12 with (fail)
          go_cut [66] (fun v66 wc => ∃ (kq : Nat) (x66_27 : Bool), v66 = .bool x66_27 ∧ Aside0 (sr14_Close.j3 kq x5_3 x7_2 t262 t263 x10_3 x66_27 l0_0 l0_1 l0_2 l0_3 a0_4 = some r) ∧ Aside0 (kq ≤ k3) ∧ Aside0 (Kd.R k39 39 wc w.heap.size (fun _ => True) u5 x5_3) ∧ Aside0 (wc.heap[gb249]? = some (.cells #[(.slice A0_0 l0_0.length c0_0), (.slice A0_1 l0_1.length c0_1), (.slice A0_2 l0_2.length c0_2), (.slice A0_3 l0_3.length c0_3), .int .i64 a0_4] 27 (0, 0))) ∧ Aside0 (Below w.heap.size w wc))
          case first =>
           have H := HC28.out
           clear HC28
           by_cases c29 : x10_3 < (l0_3.length : Int)
           ·rw [if_pos c29] at H
            have c29b0 : decide (x10_3 < (l0_3.length : Int)) = true := decide_eq_true c29
            clear c29
            (first | rw [c29b0] | (simp only [i64_w, i32_w]; rw [c29b0]) | skip)
            by_cases c30 : t263 = true
            ·subst c30
             have H1 : (sr14_Close.j3 k3 x5_3 x7_2 t262 true x10_3 (decide (t262 < 0)) l0_0 l0_1 l0_2 l0_3 a0_4) = some r := by rw [if_pos rfl] at H; exact H
             clear H
             have H := H1
             clear H1
             have H' := jM H
             clear H
             have hcz31_0 : wr.cell? ⟨gb249, 0, none⟩ = some (.slice A0_0 l0_0.length c0_0) := (jC BK249.out 0).trans rfl
             have hcz31_1 : wr.cell? ⟨gb249, 1, none⟩ = some (.slice A0_1 l0_1.length c0_1) := (jC BK249.out 1).trans rfl
             have hcz31_2 : wr.cell? ⟨gb249, 2, none⟩ = some (.slice A0_2 l0_2.length c0_2) := (jC BK249.out 2).trans rfl
             have hcz31_3 : wr.cell? ⟨gb249, 3, none⟩ = some (.slice A0_3 l0_3.length c0_3) := (jC BK249.out 3).trans rfl
             have hcz31_4 : wr.cell? ⟨gb249, 4, none⟩ = some (.int .i64 a0_4) := (jC BK249.out 4).trans rfl
             have hfz31_0 := jF BK249.out 0
             have hfz31_1 := jF BK249.out 1
             have hfz31_2 := jF BK249.out 2
             have hfz31_3 := jF BK249.out 3
             have hfz31_4 := jF BK249.out 4
             go_wp2
             go_meet
             case rel => exact ⟨_, (decide (t262 < 0)), tZ, H', ⟨by have := HK1.out; have := HK2.out; have := HK3.out; first | omega | exact Nat.le_refl _⟩, ⟨tR HO_5.out⟩, ⟨tK BK249.out⟩, ⟨by repeat (first | (with_reducible first | exact HB.out | apply jA | apply jN | apply jD | refine jS ?_ GE249.out) | exact HB.out)⟩⟩
            ·replace c30 := Bool.eq_false_iff.mpr c30
             subst c30
             have H1 : (sr14_Close.j3 k3 x5_3 x7_2 t262 false x10_3 false l0_0 l0_1 l0_2 l0_3 a0_4) = some r := by rw [if_neg (show ¬ (false = true) by decide)] at H; exact H
             clear H
             have H := H1
             clear H1
             have H' := jM H
             clear H
             have hcz32_0 : wr.cell? ⟨gb249, 0, none⟩ = some (.slice A0_0 l0_0.length c0_0) := (jC BK249.out 0).trans rfl
             have hcz32_1 : wr.cell? ⟨gb249, 1, none⟩ = some (.slice A0_1 l0_1.length c0_1) := (jC BK249.out 1).trans rfl
             have hcz32_2 : wr.cell? ⟨gb249, 2, none⟩ = some (.slice A0_2 l0_2.length c0_2) := (jC BK249.out 2).trans rfl
             have hcz32_3 : wr.cell? ⟨gb249, 3, none⟩ = some (.slice A0_3 l0_3.length c0_3) := (jC BK249.out 3).trans rfl
             have hcz32_4 : wr.cell? ⟨gb249, 4, none⟩ = some (.int .i64 a0_4) := (jC BK249.out 4).trans rfl
             have hfz32_0 := jF BK249.out 0
             have hfz32_1 := jF BK249.out 1
             have hfz32_2 := jF BK249.out 2
             have hfz32_3 := jF BK249.out 3
             have hfz32_4 := jF BK249.out 4
             go_wp2
             go_meet
             case rel => exact ⟨_, (false), tZ, H', ⟨by have := HK1.out; have := HK2.out; have := HK3.out; first | omega | exact Nat.le_refl _⟩, ⟨tR HO_5.out⟩, ⟨tK BK249.out⟩, ⟨by repeat (first | (with_reducible first | exact HB.out | apply jA | apply jN | apply jD | refine jS ?_ GE249.out) | exact HB.out)⟩⟩
           ·rw [if_neg c29] at H
            have c29b0 : decide (x10_3 < (l0_3.length : Int)) = false := decide_eq_false c29
            clear c29
            (first | rw [c29b0] | (simp only [i64_w, i32_w]; rw [c29b0]) | skip)
            have H' := jM H
            clear H
            have hcz33_0 : wr.cell? ⟨gb249, 0, none⟩ = some (.slice A0_0 l0_0.length c0_0) := (jC BK249.out 0).trans rfl
            have hcz33_1 : wr.cell? ⟨gb249, 1, none⟩ = some (.slice A0_1 l0_1.length c0_1) := (jC BK249.out 1).trans rfl
            have hcz33_2 : wr.cell? ⟨gb249, 2, none⟩ = some (.slice A0_2 l0_2.length c0_2) := (jC BK249.out 2).trans rfl
            have hcz33_3 : wr.cell? ⟨gb249, 3, none⟩ = some (.slice A0_3 l0_3.length c0_3) := (jC BK249.out 3).trans rfl
            have hcz33_4 : wr.cell? ⟨gb249, 4, none⟩ = some (.int .i64 a0_4) := (jC BK249.out 4).trans rfl
            have hfz33_0 := jF BK249.out 0
            have hfz33_1 := jF BK249.out 1
            have hfz33_2 := jF BK249.out 2
            have hfz33_3 := jF BK249.out 3
            have hfz33_4 := jF BK249.out 4
            go_wp2
            go_meet
            case rel => exact ⟨_, (false), tZ, H', ⟨by have := HK1.out; have := HK2.out; have := HK3.out; first | omega | exact Nat.le_refl _⟩, ⟨tR HO_5.out⟩, ⟨tK BK249.out⟩, ⟨by repeat (first | (with_reducible first | exact HB.out | apply jA | apply jN | apply jD | refine jS ?_ GE249.out) | exact HB.out)⟩⟩
          case rest =>
           clear HC28
           try clear c1
           try clear c2
           try clear p2
           try clear q2
           try clear hx2
           try clear c3
           try clear c4
           try clear c4b0
           try clear c5
           try clear p6
           try clear c7
           try clear c9
           try clear c14
           try clear c16
           try clear c22
           try clear c22b0
           try clear c23
           try clear c23b0
           try clear p25
           try clear q25
           try clear hx25
           try clear p26
           try clear q26
           try clear hx26
           try clear c29
           try clear c29b0
           try clear c30
           try clear hcz31_0
           try clear hcz31_1
           try clear hcz31_2
           try clear hcz31_3
           try clear hcz31_4
           try clear hcz32_0
           try clear hcz32_1
           try clear hcz32_2
           try clear hcz32_3
           try clear hcz32_4
           try clear hcz33_0
           try clear hcz33_1
           try clear hcz33_2
           try clear hcz33_3
           try clear hcz33_4
           try clear hfz31_0
           try clear hfz31_1
           try clear hfz31_2
           try clear hfz31_3
           try clear hfz31_4
           try clear hfz32_0
           try clear hfz32_1
           try clear hfz32_2
           try clear hfz32_3
           try clear hfz32_4
           try clear hfz33_0
           try clear hfz33_1
           try clear hfz33_2
           try clear hfz33_3
           try clear hfz33_4
           try clear hx250_0
           try clear hx250_1
           try clear hx252_0
           try clear hx252_1
           try clear hx254_0
           try clear hx254_1
           try clear hx261_0
           try clear hx261_1
           try clear p2
           try clear p25
           try clear p250
           try clear p252
           try clear p254
           try clear p26
           try clear p261
           try clear p6
           try clear q2
           try clear q25
           try clear q250
           try clear q252
           try clear q254
           try clear q26
           try clear q261
           obtain ⟨kq, x66_27, rfl, HA, HJ27, HO_5, BK249, HB⟩ := hcut
           cases kq with
           | zero => exact absurd HA.out (by simp [sr14_Close.j3])
           | succ kj27 =>
            have H := HA.out
            clear HA
            simp only [sr14_Close.j3] at H
            by_cases c34 : x66_27 = true
            ·subst c34
             have H1 : (if 0 ≤ x10_3 then (if x10_3 < (l0_3.length : Int) then (if ((rd_T64 l0_3 x10_3).f1) = (wrap64 ((-1) - t262)) then ((sr14_has.f kj27 x5_3 x10_3 0).bind fun t266 => (if t266 = true then (sr14_Close.l2 kj27 x5_3 x7_2 t262 t263 (wrap64 (x10_3 + 1)) l0_0 l0_1 l0_2 l0_3 a0_4) else (if x5_3.length < 8796093022208 then (sr14_Close.l2 kj27 (x5_3 ++ [(⟨x10_3, 0⟩ : S39)]) x7_2 t262 t263 (wrap64 (x10_3 + 1)) l0_0 l0_1 l0_2 l0_3 a0_4) else (none)))) else (sr14_Close.l2 kj27 x5_3 x7_2 t262 t263 (wrap64 (x10_3 + 1)) l0_0 l0_1 l0_2 l0_3 a0_4)) else (none)) else (none)) = some r := by rw [if_pos rfl] at H; exact H
             clear H
             have H := H1
             clear H1
             by_cases c35 : 0 ≤ x10_3
             ·rw [if_pos c35] at H
              have c35b0 : decide (0 ≤ x10_3) = true := decide_eq_true c35
              clear c35
              by_cases c36 : x10_3 < (l0_3.length : Int)
              ·rw [if_pos c36] at H
               have c36b0 : decide (x10_3 < (l0_3.length : Int)) = true := decide_eq_true c36
               clear c36
               by_cases c37 : ((rd_T64 l0_3 x10_3).f1) = (wrap64 ((-1) - t262))
               ·rw [if_pos c37] at H
                have c37b0 : (((rd_T64 l0_3 x10_3).f1) == (wrap64 ((-1) - t262))) = true := beq_iff_eq.mpr c37
                have c37b1 : (((rd_T64 l0_3 x10_3).f1) != (wrap64 ((-1) - t262))) = false := bne_eq_false_iff_eq.mpr c37
                clear c37
                replace H := Option.bind_eq_some_iff.mp H
                obtain ⟨t266, A380, H⟩ := H
                replace H : (if t266 = true then (sr14_Close.l2 kj27 x5_3 x7_2 t262 t263 (wrap64 (x10_3 + 1)) l0_0 l0_1 l0_2 l0_3 a0_4) else (if x5_3.length < 8796093022208 then (sr14_Close.l2 kj27 (x5_3 ++ [(⟨x10_3, 0⟩ : S39)]) x7_2 t262 t263 (wrap64 (x10_3 + 1)) l0_0 l0_1 l0_2 l0_3 a0_4) else (none))) = some r := H
                have A38 := jM A380
                clear A380
                by_cases c39 : t266 = true
                ·subst c39
                 have H1 : (sr14_Close.l2 kj27 x5_3 x7_2 t262 t263 (wrap64 (x10_3 + 1)) l0_0 l0_1 l0_2 l0_3 a0_4) = some r := by rw [if_pos rfl] at H; exact H
                 clear H
                 have H := H1
                 clear H1
                 have H' := jM H
                 clear H
                 go_wp2_with (first | ((with_reducible refine gate_dst (N := 11) rfl ?_); refine box_event ?hg (N := 11) ?hd (cs := #[.int .i64 0, .int .i64 0]) (t := 39) ?hr ?_; (case hd => rfl); (case hg => rfl); (case hr => first | (go_simp; done) | (go_simp; rfl)); intro gb264 hg w40 hbox hb; have n0_ := jM (Kd.R_below (Kd.R_elderB (tR HO_5.out) gb264 (Nat.le_of_eq hg.symm)) hb); have n1_ := jM (jW (g := gb249) (o := .cells #[.slice A0_0 l0_0.length c0_0, .slice A0_1 l0_1.length c0_1, .slice A0_2 l0_2.length c0_2, .slice A0_3 l0_3.length c0_3, .int .i64 a0_4] 27 (0, 0)) (tK BK249.out) hb); have n2_ := jM (jT (by repeat (first | (with_reducible first | exact HB.out | apply jA | apply jN | apply jD | refine jS ?_ GE249.out) | exact HB.out)) hb); have n3_ := jM (hbox); have n4_ := jM ((by rw [hg]; exact (below_size (by repeat (first | (with_reducible first | exact HB.out | apply jA | apply jN | apply jD | refine jS ?_ GE249.out) | exact HB.out))) : w.heap.size ≤ gb264)); have n5_ := jM ((by rw [hg]; exact (below_size (by repeat (first | (with_reducible first | exact HB.out | apply jA | apply jN | apply jD | refine jS ?_ GE249.out) | exact HB.out))) : w.heap.size ≤ gb264)); have n6_ := jM ((by rw [hg]; exact Nat.ne_of_lt (blk_lt (g := gb249) (o := .cells #[.slice A0_0 l0_0.length c0_0, .slice A0_1 l0_1.length c0_1, .slice A0_2 l0_2.length c0_2, .slice A0_3 l0_3.length c0_3, .int .i64 a0_4] 27 (0, 0)) (tK BK249.out)) : gb249 ≠ gb264)); have n7_ := jM ((by rw [hg]; exact Nat.ne_of_gt (blk_lt (g := gb249) (o := .cells #[.slice A0_0 l0_0.length c0_0, .slice A0_1 l0_1.length c0_1, .slice A0_2 l0_2.length c0_2, .slice A0_3 l0_3.length c0_3, .int .i64 a0_4] 27 (0, 0)) (tK BK249.out)) : gb264 ≠ gb249)); clear HO_5; clear BK249; clear HB; have HO_5 := n0_; have BK249 := n1_; have HB := n2_; have BK264 := n3_; have GW264 := n4_; have GE264 := n5_; have NB249_264 := n6_; have NB264_249 := n7_; clear n0_ n1_ n2_ n3_ n4_ n5_ n6_ n7_; clear hb hbox hg; have hnb41 := NB264_249.out; have hnc41 := NB249_264.out; have hcz42_0 : w40.cell? ⟨gb264, 0, none⟩ = some (.int .i64 0) := (jC BK264.out 0).trans rfl; have hcz42_1 : w40.cell? ⟨gb264, 1, none⟩ = some (.int .i64 0) := (jC BK264.out 1).trans rfl; have hfz42_0 := jF BK264.out 0; have hfz42_1 := jF BK264.out 1; have hcz43_0 : w40.cell? ⟨gb249, 0, none⟩ = some (.slice A0_0 l0_0.length c0_0) := (jC BK249.out 0).trans rfl; have hcz43_1 : w40.cell? ⟨gb249, 1, none⟩ = some (.slice A0_1 l0_1.length c0_1) := (jC BK249.out 1).trans rfl; have hcz43_2 : w40.cell? ⟨gb249, 2, none⟩ = some (.slice A0_2 l0_2.length c0_2) := (jC BK249.out 2).trans rfl; have hcz43_3 : w40.cell? ⟨gb249, 3, none⟩ = some (.slice A0_3 l0_3.length c0_3) := (jC BK249.out 3).trans rfl; have hcz43_4 : w40.cell? ⟨gb249, 4, none⟩ = some (.int .i64 a0_4) := (jC BK249.out 4).trans rfl; have hfz43_0 := jF BK249.out 0; have hfz43_1 := jF BK249.out 1; have hfz43_2 := jF BK249.out 2; have hfz43_3 := jF BK249.out 3; have hfz43_4 := jF BK249.out 4; have p265 : 0 ≤ (x10_3 : Int) := of_decide_eq_true tD; have q265 : x10_3 < (l0_3.length : Int) := of_decide_eq_true tD; obtain ⟨ad265, A265_2, c265_2, e265, hx265_0, hx265_1, hx265_2, hx265_3, hl265_2, hi265_2⟩ := at_T64 HR0_3.out x10_3 p265 q265; cases e265; have hn265_0 : ad265.block ≠ gb264 := Nat.ne_of_lt (Nat.lt_of_lt_of_le (by have := jL _ _ hx265_0; first | rwa [add_block] at this | exact this) GW264.out); have hn265_1 : ad265.block ≠ gb264 := Nat.ne_of_lt (Nat.lt_of_lt_of_le (by have := jL _ _ hx265_0; first | rwa [add_block] at this | exact this) GW264.out); replace hx265_0 := (HB.out.cell (jL w _ hx265_0)).trans hx265_0; replace hx265_1 := (HB.out.cell (jL w _ hx265_1)).trans hx265_1; replace hx265_2 := (HB.out.cell (jL w _ hx265_2)).trans hx265_2; replace hx265_3 := (HB.out.cell (jL w _ hx265_3)).trans hx265_3; have HR265_2 := jM hi265_2; have HC265_2 := jM hl265_2; clear hi265_2 hl265_2; replace hx265_0 := (cell_far (p := ⟨gb264, 0, none⟩) (by first | (rw [add_block]; exact hn265_0) | (show (Addr.add _ _).block ≠ _; rw [add_block]; exact hn265_0) | exact hn265_0) (.int .i64 x10_3)).trans hx265_0; replace hx265_1 := (cell_far (p := ⟨gb264, 0, none⟩) (by first | (rw [add_block]; exact hn265_0) | (show (Addr.add _ _).block ≠ _; rw [add_block]; exact hn265_0) | exact hn265_0) (.int .i64 x10_3)).trans hx265_1; replace hx265_2 := (cell_far (p := ⟨gb264, 0, none⟩) (by first | (rw [add_block]; exact hn265_0) | (show (Addr.add _ _).block ≠ _; rw [add_block]; exact hn265_0) | exact hn265_0) (.int .i64 x10_3)).trans hx265_2; replace hx265_3 := (cell_far (p := ⟨gb264, 0, none⟩) (by first | (rw [add_block]; exact hn265_0) | (show (Addr.add _ _).block ≠ _; rw [add_block]; exact hn265_0) | exact hn265_0) (.int .i64 x10_3)).trans hx265_3; replace hx265_0 := (cell_far (p := ⟨gb264, 1, none⟩) (by first | (rw [add_block]; exact hn265_1) | (show (Addr.add _ _).block ≠ _; rw [add_block]; exact hn265_1) | exact hn265_1) (.int .i64 0)).trans hx265_0; replace hx265_1 := (cell_far (p := ⟨gb264, 1, none⟩) (by first | (rw [add_block]; exact hn265_1) | (show (Addr.add _ _).block ≠ _; rw [add_block]; exact hn265_1) | exact hn265_1) (.int .i64 0)).trans hx265_1; replace hx265_2 := (cell_far (p := ⟨gb264, 1, none⟩) (by first | (rw [add_block]; exact hn265_1) | (show (Addr.add _ _).block ≠ _; rw [add_block]; exact hn265_1) | exact hn265_1) (.int .i64 0)).trans hx265_2; replace hx265_3 := (cell_far (p := ⟨gb264, 1, none⟩) (by first | (rw [add_block]; exact hn265_1) | (show (Addr.add _ _).block ≠ _; rw [add_block]; exact hn265_1) | exact hn265_1) (.int .i64 0)).trans hx265_3; clear hn265_0; clear hn265_1; replace p265 := eq_true p265; replace q265 := eq_true q265; obtain ⟨Ao44, co44, eo44⟩ := Kd.R_slice HO_5.out; subst eo44) | (go_at_call 39; (with_reducible refine (sr14_has.calls kj27 _ _ x5_3 x10_3 0 true _ ?side1 ?side2 A38.out).mono ?_); (case side1 => refine (Kd.R_reads' (e := 39) (base := w.heap.size) (ok := fun k_ => (True ∧ k_ ≠ gb264)) (n := x5_3.length) (c := co44) ?_).2.2; exact (by (with_reducible repeat (first | apply Kd.R_alloc | apply Kd.R_drewN | apply Kd.R_drew)); exact (Kd.R_mono (Kd.R_far (p := ⟨gb264, 1, none⟩) (Kd.R_far (p := ⟨gb264, 0, none⟩) (Kd.R_mono HO_5.out (fun k_ hk => (⟨hk, hk.2⟩ : _ ∧ k_ ≠ gb264))) (fun _ hk => hk.2) (.int .i64 x10_3)) (fun _ hk => hk.2) (.int .i64 0)) (fun _ h_ => h_.1)))); (case side2 => exact (Kd.R_reads' HO_5.out).2.1); rintro e w45 ⟨rfl, hb⟩; have n0_ := jM (Kd.R_below (by (with_reducible repeat (first | apply Kd.R_alloc | apply Kd.R_drewN | apply Kd.R_drew)); exact (Kd.R_mono (Kd.R_far (p := ⟨gb264, 1, none⟩) (Kd.R_far (p := ⟨gb264, 0, none⟩) (Kd.R_mono HO_5.out (fun k_ hk => (⟨hk, hk.2⟩ : _ ∧ k_ ≠ gb264))) (fun _ hk => hk.2) (.int .i64 x10_3)) (fun _ hk => hk.2) (.int .i64 0)) (fun _ h_ => h_.1))) hb); have n1_ := jM (jW (g := gb249) (o := .cells #[.slice A0_0 l0_0.length c0_0, .slice A0_1 l0_1.length c0_1, .slice A0_2 l0_2.length c0_2, .slice (some ad265) l0_3.length c0_3, .int .i64 a0_4] 27 (0, 0)) (by (with_reducible repeat (first | refine jY ?_ _ | refine jZ ?_ | refine jX ?_ _)); refine blk_far ?_ NB249_264.out _; (with_reducible repeat (first | refine jY ?_ _ | refine jZ ?_ | refine jX ?_ _)); refine blk_far ?_ NB249_264.out _; (with_reducible repeat (first | refine jY ?_ _ | refine jZ ?_ | refine jX ?_ _)); exact BK249.out) hb); have n2_ := jM (jW (g := gb264) (o := .cells #[.int .i64 x10_3, .int .i64 0] 39 (0, 0)) (by (with_reducible repeat (first | refine jY ?_ _ | refine jZ ?_ | refine jX ?_ _)); refine blk_put (cs := #[.int .i64 x10_3, .int .i64 0]) ?_ 1 _ rfl; (with_reducible repeat (first | refine jY ?_ _ | refine jZ ?_ | refine jX ?_ _)); refine blk_put (cs := #[.int .i64 0, .int .i64 0]) ?_ 0 _ rfl; (with_reducible repeat (first | refine jY ?_ _ | refine jZ ?_ | refine jX ?_ _)); exact BK264.out) hb); have n3_ := jM (jT (by repeat (first | (with_reducible first | exact HB.out | apply jA | apply jN | apply jD | refine jS ?_ GE249.out | refine jS ?_ GE264.out) | exact HB.out)) hb); clear HO_5; clear BK249; clear BK264; clear HB; have HO_5 := n0_; have BK249 := n1_; have BK264 := n2_; have HB := n3_; clear n0_ n1_ n2_ n3_; (try clear hb); (try clear hb2); (try clear hk); (try clear hi)))
                 go_roundg kj27
                 case measure => have := HK1.out; have := HK2.out; have := HK3.out; have := HJ27.out; omega
                 case rel => exact ⟨(x5_3), (wrap64 (x10_3 + 1)), tZ, H', ⟨by have := HK1.out; have := HK2.out; have := HK3.out; have := HJ27.out; omega⟩, ⟨by (with_reducible repeat (first | apply Kd.R_alloc | apply Kd.R_drewN | apply Kd.R_drew)); exact Kd.R_mono HO_5.out (fun _ hk => trivial)⟩, ⟨tK BK249.out⟩, ⟨by repeat (first | (with_reducible first | exact HB.out | apply jA | apply jN | apply jD | refine jS ?_ GE249.out | refine jS ?_ GE264.out) | exact HB.out)⟩⟩
                ·replace c39 := Bool.eq_false_iff.mpr c39
                 subst c39
                 have H1 : (if x5_3.length < 8796093022208 then (sr14_Close.l2 kj27 (x5_3 ++ [(⟨x10_3, 0⟩ : S39)]) x7_2 t262 t263 (wrap64 (x10_3 + 1)) l0_0 l0_1 l0_2 l0_3 a0_4) else (none)) = some r := by rw [if_neg (show ¬ (false = true) by decide)] at H; exact H
                 clear H
                 have H := H1
                 clear H1
                 by_cases c46 : x5_3.length < 8796093022208
                 ·rw [if_pos c46] at H
                  have LMc46 := jM c46
                  clear c46
                  obtain ⟨y267, hy267⟩ : ∃ y_ : List (S39), y_ = (x5_3 ++ [(⟨x10_3, 0⟩ : S39)]) := ⟨_, rfl⟩
                  replace H : (sr14_Close.l2 kj27 y267 x7_2 t262 t263 (wrap64 (x10_3 + 1)) l0_0 l0_1 l0_2 l0_3 a0_4) = some r := by first | (rw [hy267]; with_reducible exact H) | (have H2_ := (Option.bind_some _ _).symm.trans H; rw [hy267]; with_reducible exact H2_) | (have H2_ := (Option.bind_some _ _).symm.trans H; with_reducible exact H2_) | with_reducible exact H | (rw [hy267]; exact H) | exact H
                  have Ny267 := jM hy267
                  clear hy267
                  have H' := jM H
                  clear H
                  go_wp2_with (first | ((with_reducible refine gate_dst (N := 11) rfl ?_); refine box_event ?hg (N := 11) ?hd (cs := #[.int .i64 0, .int .i64 0]) (t := 39) ?hr ?_; (case hd => rfl); (case hg => rfl); (case hr => first | (go_simp; done) | (go_simp; rfl)); intro gb264 hg w47 hbox hb; have n0_ := jM (Kd.R_below (Kd.R_elderB (tR HO_5.out) gb264 (Nat.le_of_eq hg.symm)) hb); have n1_ := jM (jW (g := gb249) (o := .cells #[.slice A0_0 l0_0.length c0_0, .slice A0_1 l0_1.length c0_1, .slice A0_2 l0_2.length c0_2, .slice A0_3 l0_3.length c0_3, .int .i64 a0_4] 27 (0, 0)) (tK BK249.out) hb); have n2_ := jM (jT (by repeat (first | (with_reducible first | exact HB.out | apply jA | apply jN | apply jD | refine jS ?_ GE249.out) | exact HB.out)) hb); have n3_ := jM (hbox); have n4_ := jM ((by rw [hg]; exact (below_size (by repeat (first | (with_reducible first | exact HB.out | apply jA | apply jN | apply jD | refine jS ?_ GE249.out) | exact HB.out))) : w.heap.size ≤ gb264)); have n5_ := jM ((by rw [hg]; exact (below_size (by repeat (first | (with_reducible first | exact HB.out | apply jA | apply jN | apply jD | refine jS ?_ GE249.out) | exact HB.out))) : w.heap.size ≤ gb264)); have n6_ := jM ((by rw [hg]; exact Nat.ne_of_lt (blk_lt (g := gb249) (o := .cells #[.slice A0_0 l0_0.length c0_0, .slice A0_1 l0_1.length c0_1, .slice A0_2 l0_2.length c0_2, .slice A0_3 l0_3.length c0_3, .int .i64 a0_4] 27 (0, 0)) (tK BK249.out)) : gb249 ≠ gb264)); have n7_ := jM ((by rw [hg]; exact Nat.ne_of_gt (blk_lt (g := gb249) (o := .cells #[.slice A0_0 l0_0.length c0_0, .slice A0_1 l0_1.length c0_1, .slice A0_2 l0_2.length c0_2, .slice A0_3 l0_3.length c0_3, .int .i64 a0_4] 27 (0, 0)) (tK BK249.out)) : gb264 ≠ gb249)); clear HO_5; clear BK249; clear HB; have HO_5 := n0_; have BK249 := n1_; have HB := n2_; have BK264 := n3_; have GW264 := n4_; have GE264 := n5_; have NB249_264 := n6_; have NB264_249 := n7_; clear n0_ n1_ n2_ n3_ n4_ n5_ n6_ n7_; clear hb hbox hg; have hnb48 := NB264_249.out; have hnc48 := NB249_264.out; have hcz49_0 : w47.cell? ⟨gb264, 0, none⟩ = some (.int .i64 0) := (jC BK264.out 0).trans rfl; have hcz49_1 : w47.cell? ⟨gb264, 1, none⟩ = some (.int .i64 0) := (jC BK264.out 1).trans rfl; have hfz49_0 := jF BK264.out 0; have hfz49_1 := jF BK264.out 1; have hcz50_0 : w47.cell? ⟨gb249, 0, none⟩ = some (.slice A0_0 l0_0.length c0_0) := (jC BK249.out 0).trans rfl; have hcz50_1 : w47.cell? ⟨gb249, 1, none⟩ = some (.slice A0_1 l0_1.length c0_1) := (jC BK249.out 1).trans rfl; have hcz50_2 : w47.cell? ⟨gb249, 2, none⟩ = some (.slice A0_2 l0_2.length c0_2) := (jC BK249.out 2).trans rfl; have hcz50_3 : w47.cell? ⟨gb249, 3, none⟩ = some (.slice A0_3 l0_3.length c0_3) := (jC BK249.out 3).trans rfl; have hcz50_4 : w47.cell? ⟨gb249, 4, none⟩ = some (.int .i64 a0_4) := (jC BK249.out 4).trans rfl; have hfz50_0 := jF BK249.out 0; have hfz50_1 := jF BK249.out 1; have hfz50_2 := jF BK249.out 2; have hfz50_3 := jF BK249.out 3; have hfz50_4 := jF BK249.out 4; have p265 : 0 ≤ (x10_3 : Int) := of_decide_eq_true tD; have q265 : x10_3 < (l0_3.length : Int) := of_decide_eq_true tD; obtain ⟨ad265, A265_2, c265_2, e265, hx265_0, hx265_1, hx265_2, hx265_3, hl265_2, hi265_2⟩ := at_T64 HR0_3.out x10_3 p265 q265; cases e265; have hn265_0 : ad265.block ≠ gb264 := Nat.ne_of_lt (Nat.lt_of_lt_of_le (by have := jL _ _ hx265_0; first | rwa [add_block] at this | exact this) GW264.out); have hn265_1 : ad265.block ≠ gb264 := Nat.ne_of_lt (Nat.lt_of_lt_of_le (by have := jL _ _ hx265_0; first | rwa [add_block] at this | exact this) GW264.out); replace hx265_0 := (HB.out.cell (jL w _ hx265_0)).trans hx265_0; replace hx265_1 := (HB.out.cell (jL w _ hx265_1)).trans hx265_1; replace hx265_2 := (HB.out.cell (jL w _ hx265_2)).trans hx265_2; replace hx265_3 := (HB.out.cell (jL w _ hx265_3)).trans hx265_3; have HR265_2 := jM hi265_2; have HC265_2 := jM hl265_2; clear hi265_2 hl265_2; replace hx265_0 := (cell_far (p := ⟨gb264, 0, none⟩) (by first | (rw [add_block]; exact hn265_0) | (show (Addr.add _ _).block ≠ _; rw [add_block]; exact hn265_0) | exact hn265_0) (.int .i64 x10_3)).trans hx265_0; replace hx265_1 := (cell_far (p := ⟨gb264, 0, none⟩) (by first | (rw [add_block]; exact hn265_0) | (show (Addr.add _ _).block ≠ _; rw [add_block]; exact hn265_0) | exact hn265_0) (.int .i64 x10_3)).trans hx265_1; replace hx265_2 := (cell_far (p := ⟨gb264, 0, none⟩) (by first | (rw [add_block]; exact hn265_0) | (show (Addr.add _ _).block ≠ _; rw [add_block]; exact hn265_0) | exact hn265_0) (.int .i64 x10_3)).trans hx265_2; replace hx265_3 := (cell_far (p := ⟨gb264, 0, none⟩) (by first | (rw [add_block]; exact hn265_0) | (show (Addr.add _ _).block ≠ _; rw [add_block]; exact hn265_0) | exact hn265_0) (.int .i64 x10_3)).trans hx265_3; replace hx265_0 := (cell_far (p := ⟨gb264, 1, none⟩) (by first | (rw [add_block]; exact hn265_1) | (show (Addr.add _ _).block ≠ _; rw [add_block]; exact hn265_1) | exact hn265_1) (.int .i64 0)).trans hx265_0; replace hx265_1 := (cell_far (p := ⟨gb264, 1, none⟩) (by first | (rw [add_block]; exact hn265_1) | (show (Addr.add _ _).block ≠ _; rw [add_block]; exact hn265_1) | exact hn265_1) (.int .i64 0)).trans hx265_1; replace hx265_2 := (cell_far (p := ⟨gb264, 1, none⟩) (by first | (rw [add_block]; exact hn265_1) | (show (Addr.add _ _).block ≠ _; rw [add_block]; exact hn265_1) | exact hn265_1) (.int .i64 0)).trans hx265_2; replace hx265_3 := (cell_far (p := ⟨gb264, 1, none⟩) (by first | (rw [add_block]; exact hn265_1) | (show (Addr.add _ _).block ≠ _; rw [add_block]; exact hn265_1) | exact hn265_1) (.int .i64 0)).trans hx265_3; clear hn265_0; clear hn265_1; replace p265 := eq_true p265; replace q265 := eq_true q265; obtain ⟨Ao51, co51, eo51⟩ := Kd.R_slice HO_5.out; subst eo51) | (go_at_call 39; (with_reducible refine (sr14_has.calls kj27 _ _ x5_3 x10_3 0 false _ ?side1 ?side2 A38.out).mono ?_); (case side1 => refine (Kd.R_reads' (e := 39) (base := w.heap.size) (ok := fun k_ => (True ∧ k_ ≠ gb264)) (n := x5_3.length) (c := co51) ?_).2.2; exact (by (with_reducible repeat (first | apply Kd.R_alloc | apply Kd.R_drewN | apply Kd.R_drew)); exact (Kd.R_mono (Kd.R_far (p := ⟨gb264, 1, none⟩) (Kd.R_far (p := ⟨gb264, 0, none⟩) (Kd.R_mono HO_5.out (fun k_ hk => (⟨hk, hk.2⟩ : _ ∧ k_ ≠ gb264))) (fun _ hk => hk.2) (.int .i64 x10_3)) (fun _ hk => hk.2) (.int .i64 0)) (fun _ h_ => h_.1)))); (case side2 => exact (Kd.R_reads' HO_5.out).2.1); rintro e w52 ⟨rfl, hb⟩; have n0_ := jM (Kd.R_below (by (with_reducible repeat (first | apply Kd.R_alloc | apply Kd.R_drewN | apply Kd.R_drew)); exact (Kd.R_mono (Kd.R_far (p := ⟨gb264, 1, none⟩) (Kd.R_far (p := ⟨gb264, 0, none⟩) (Kd.R_mono HO_5.out (fun k_ hk => (⟨hk, hk.2⟩ : _ ∧ k_ ≠ gb264))) (fun _ hk => hk.2) (.int .i64 x10_3)) (fun _ hk => hk.2) (.int .i64 0)) (fun _ h_ => h_.1))) hb); have n1_ := jM (jW (g := gb249) (o := .cells #[.slice A0_0 l0_0.length c0_0, .slice A0_1 l0_1.length c0_1, .slice A0_2 l0_2.length c0_2, .slice (some ad265) l0_3.length c0_3, .int .i64 a0_4] 27 (0, 0)) (by (with_reducible repeat (first | refine jY ?_ _ | refine jZ ?_ | refine jX ?_ _)); refine blk_far ?_ NB249_264.out _; (with_reducible repeat (first | refine jY ?_ _ | refine jZ ?_ | refine jX ?_ _)); refine blk_far ?_ NB249_264.out _; (with_reducible repeat (first | refine jY ?_ _ | refine jZ ?_ | refine jX ?_ _)); exact BK249.out) hb); have n2_ := jM (jW (g := gb264) (o := .cells #[.int .i64 x10_3, .int .i64 0] 39 (0, 0)) (by (with_reducible repeat (first | refine jY ?_ _ | refine jZ ?_ | refine jX ?_ _)); refine blk_put (cs := #[.int .i64 x10_3, .int .i64 0]) ?_ 1 _ rfl; (with_reducible repeat (first | refine jY ?_ _ | refine jZ ?_ | refine jX ?_ _)); refine blk_put (cs := #[.int .i64 0, .int .i64 0]) ?_ 0 _ rfl; (with_reducible repeat (first | refine jY ?_ _ | refine jZ ?_ | refine jX ?_ _)); exact BK264.out) hb); have n3_ := jM (jT (by repeat (first | (with_reducible first | exact HB.out | apply jA | apply jN | apply jD | refine jS ?_ GE249.out | refine jS ?_ GE264.out) | exact HB.out)) hb); clear HO_5; clear BK249; clear BK264; clear HB; have HO_5 := n0_; have BK249 := n1_; have BK264 := n2_; have HB := n3_; clear n0_ n1_ n2_ n3_; (try clear hb); (try clear hb2); (try clear hk); (try clear hi); have hcz53_0 : w52.cell? ⟨gb264, 0, none⟩ = some (.int .i64 x10_3) := (jC BK264.out 0).trans rfl; have hcz53_1 : w52.cell? ⟨gb264, 1, none⟩ = some (.int .i64 0) := (jC BK264.out 1).trans rfl; have hfz53_0 := jF BK264.out 0; have hfz53_1 := jF BK264.out 1) | ((with_reducible refine gate_builtin (b := .append) (xs := #[.tmp 86, .tmp 88]) rfl ?_); at_builtin; refine Kd.R_append k39 (w0 := w) w.heap.size rfl (.tmp 86) (.tmp 88) 32 39 (.agg #[(.int .i64 0), (.int .i64 0)]) 16 rfl Tryd.underlying32 info39 rfl (by decide) (by omega) (.slice Ao51 x5_3.length co51) x5_3 (⟨x10_3, 0⟩ : S39) [.int .i64 x10_3, .int .i64 0] (fun k_ => k_ ≠ gb264) (fun _ => False) rfl rfl ?aP (fun _ hk => hk.elim) ?aF ?aO ?aB ?aS ?aL ?_; (case aP => exact k39_mkM _ _ _ (⟨x10_3, 0⟩ : S39)); (case aB => exact (by repeat (first | (with_reducible first | exact HB.out | apply jA | apply jN | apply jD | refine jS ?_ GE249.out | refine jS ?_ GE264.out) | exact HB.out))); (case aF => exact (fun k_ hk => Kd.freshB (g := gb264) (o := .cells #[.int .i64 x10_3, .int .i64 0] 39 (0, 0)) (tK BK264.out) k_ hk)); (case aO => exact (by (with_reducible repeat (first | apply Kd.R_alloc | apply Kd.R_drewN | apply Kd.R_drew)); exact Kd.R_mono HO_5.out (fun _ hk => hk.2))); (case aS => exact (below_size (by repeat (first | (with_reducible first | exact HB.out | apply jA | apply jN | apply jD | refine jS ?_ GE249.out | refine jS ?_ GE264.out) | exact HB.out)))); (case aL => have := LMc46.out; omega); intro v268 w54 ho hb hg hat; rw [← Ny267.out] at ho; have n0_ := jM (blk_grown (g := gb249) (o := .cells #[.slice A0_0 l0_0.length c0_0, .slice A0_1 l0_1.length c0_1, .slice A0_2 l0_2.length c0_2, .slice (some ad265) l0_3.length c0_3, .int .i64 a0_4] 27 (0, 0)) (tK BK249.out) hg (Kd.R_ne HO_5.out BK249.out (by decide))); have n1_ := jM (blk_grown (g := gb264) (o := .cells #[.int .i64 x10_3, .int .i64 0] 39 (0, 0)) (tK BK264.out) hg (Kd.R_away HO_5.out (fun _ hk => hk.2))); have n2_ := jM (hb); have n3_ := jM (ho); clear BK249; clear BK264; clear HB; clear HO_5; have BK249 := n0_; have BK264 := n1_; have HB := n2_; have HO269 := n3_; clear n0_ n1_ n2_ n3_; clear ho hb hg hat))
                  go_roundg kj27
                  case measure => have := HK1.out; have := HK2.out; have := HK3.out; have := HJ27.out; omega
                  case rel => exact ⟨(y267), (wrap64 (x10_3 + 1)), tZ, H', ⟨by have := HK1.out; have := HK2.out; have := HK3.out; have := HJ27.out; omega⟩, ⟨by (with_reducible repeat (first | apply Kd.R_alloc | apply Kd.R_drewN | apply Kd.R_drew)); exact Kd.R_mono HO269.out (fun _ hk => trivial)⟩, ⟨tK BK249.out⟩, ⟨by repeat (first | (with_reducible first | exact HB.out | apply jA | apply jN | apply jD | refine jS ?_ GE249.out | refine jS ?_ GE264.out) | exact HB.out)⟩⟩
                 ·rw [if_neg c46] at H
                  exact absurd H (by simp)
               ·rw [if_neg c37] at H
                have c37b0 : (((rd_T64 l0_3 x10_3).f1) == (wrap64 ((-1) - t262))) = false := beq_eq_false_iff_ne.mpr c37
                have c37b1 : (((rd_T64 l0_3 x10_3).f1) != (wrap64 ((-1) - t262))) = true := bne_iff_ne.mpr c37
                have H' := jM H
                clear H
                go_wp2_with (first | ((with_reducible refine gate_dst (N := 11) rfl ?_); refine box_event ?hg (N := 11) ?hd (cs := #[.int .i64 0, .int .i64 0]) (t := 39) ?hr ?_; (case hd => rfl); (case hg => rfl); (case hr => first | (go_simp; done) | (go_simp; rfl)); intro gb264 hg w55 hbox hb; have n0_ := jM (Kd.R_below (Kd.R_elderB (tR HO_5.out) gb264 (Nat.le_of_eq hg.symm)) hb); have n1_ := jM (jW (g := gb249) (o := .cells #[.slice A0_0 l0_0.length c0_0, .slice A0_1 l0_1.length c0_1, .slice A0_2 l0_2.length c0_2, .slice A0_3 l0_3.length c0_3, .int .i64 a0_4] 27 (0, 0)) (tK BK249.out) hb); have n2_ := jM (jT (by repeat (first | (with_reducible first | exact HB.out | apply jA | apply jN | apply jD | refine jS ?_ GE249.out) | exact HB.out)) hb); have n3_ := jM (hbox); have n4_ := jM ((by rw [hg]; exact (below_size (by repeat (first | (with_reducible first | exact HB.out | apply jA | apply jN | apply jD | refine jS ?_ GE249.out) | exact HB.out))) : w.heap.size ≤ gb264)); have n5_ := jM ((by rw [hg]; exact (below_size (by repeat (first | (with_reducible first | exact HB.out | apply jA | apply jN | apply jD | refine jS ?_ GE249.out) | exact HB.out))) : w.heap.size ≤ gb264)); have n6_ := jM ((by rw [hg]; exact Nat.ne_of_lt (blk_lt (g := gb249) (o := .cells #[.slice A0_0 l0_0.length c0_0, .slice A0_1 l0_1.length c0_1, .slice A0_2 l0_2.length c0_2, .slice A0_3 l0_3.length c0_3, .int .i64 a0_4] 27 (0, 0)) (tK BK249.out)) : gb249 ≠ gb264)); have n7_ := jM ((by rw [hg]; exact Nat.ne_of_gt (blk_lt (g := gb249) (o := .cells #[.slice A0_0 l0_0.length c0_0, .slice A0_1 l0_1.length c0_1, .slice A0_2 l0_2.length c0_2, .slice A0_3 l0_3.length c0_3, .int .i64 a0_4] 27 (0, 0)) (tK BK249.out)) : gb264 ≠ gb249)); clear HO_5; clear BK249; clear HB; have HO_5 := n0_; have BK249 := n1_; have HB := n2_; have BK264 := n3_; have GW264 := n4_; have GE264 := n5_; have NB249_264 := n6_; have NB264_249 := n7_; clear n0_ n1_ n2_ n3_ n4_ n5_ n6_ n7_; clear hb hbox hg; have hnb56 := NB264_249.out; have hnc56 := NB249_264.out; have hcz57_0 : w55.cell? ⟨gb264, 0, none⟩ = some (.int .i64 0) := (jC BK264.out 0).trans rfl; have hcz57_1 : w55.cell? ⟨gb264, 1, none⟩ = some (.int .i64 0) := (jC BK264.out 1).trans rfl; have hfz57_0 := jF BK264.out 0; have hfz57_1 := jF BK264.out 1; have hcz58_0 : w55.cell? ⟨gb249, 0, none⟩ = some (.slice A0_0 l0_0.length c0_0) := (jC BK249.out 0).trans rfl; have hcz58_1 : w55.cell? ⟨gb249, 1, none⟩ = some (.slice A0_1 l0_1.length c0_1) := (jC BK249.out 1).trans rfl; have hcz58_2 : w55.cell? ⟨gb249, 2, none⟩ = some (.slice A0_2 l0_2.length c0_2) := (jC BK249.out 2).trans rfl; have hcz58_3 : w55.cell? ⟨gb249, 3, none⟩ = some (.slice A0_3 l0_3.length c0_3) := (jC BK249.out 3).trans rfl; have hcz58_4 : w55.cell? ⟨gb249, 4, none⟩ = some (.int .i64 a0_4) := (jC BK249.out 4).trans rfl; have hfz58_0 := jF BK249.out 0; have hfz58_1 := jF BK249.out 1; have hfz58_2 := jF BK249.out 2; have hfz58_3 := jF BK249.out 3; have hfz58_4 := jF BK249.out 4; have p265 : 0 ≤ (x10_3 : Int) := of_decide_eq_true tD; have q265 : x10_3 < (l0_3.length : Int) := of_decide_eq_true tD; obtain ⟨ad265, A265_2, c265_2, e265, hx265_0, hx265_1, hx265_2, hx265_3, hl265_2, hi265_2⟩ := at_T64 HR0_3.out x10_3 p265 q265; cases e265; have hn265_0 : ad265.block ≠ gb264 := Nat.ne_of_lt (Nat.lt_of_lt_of_le (by have := jL _ _ hx265_0; first | rwa [add_block] at this | exact this) GW264.out); have hn265_1 : ad265.block ≠ gb264 := Nat.ne_of_lt (Nat.lt_of_lt_of_le (by have := jL _ _ hx265_0; first | rwa [add_block] at this | exact this) GW264.out); replace hx265_0 := (HB.out.cell (jL w _ hx265_0)).trans hx265_0; replace hx265_1 := (HB.out.cell (jL w _ hx265_1)).trans hx265_1; replace hx265_2 := (HB.out.cell (jL w _ hx265_2)).trans hx265_2; replace hx265_3 := (HB.out.cell (jL w _ hx265_3)).trans hx265_3; have HR265_2 := jM hi265_2; have HC265_2 := jM hl265_2; clear hi265_2 hl265_2; replace hx265_0 := (cell_far (p := ⟨gb264, 0, none⟩) (by first | (rw [add_block]; exact hn265_0) | (show (Addr.add _ _).block ≠ _; rw [add_block]; exact hn265_0) | exact hn265_0) (.int .i64 x10_3)).trans hx265_0; replace hx265_1 := (cell_far (p := ⟨gb264, 0, none⟩) (by first | (rw [add_block]; exact hn265_0) | (show (Addr.add _ _).block ≠ _; rw [add_block]; exact hn265_0) | exact hn265_0) (.int .i64 x10_3)).trans hx265_1; replace hx265_2 := (cell_far (p := ⟨gb264, 0, none⟩) (by first | (rw [add_block]; exact hn265_0) | (show (Addr.add _ _).block ≠ _; rw [add_block]; exact hn265_0) | exact hn265_0) (.int .i64 x10_3)).trans hx265_2; replace hx265_3 := (cell_far (p := ⟨gb264, 0, none⟩) (by first | (rw [add_block]; exact hn265_0) | (show (Addr.add _ _).block ≠ _; rw [add_block]; exact hn265_0) | exact hn265_0) (.int .i64 x10_3)).trans hx265_3; replace hx265_0 := (cell_far (p := ⟨gb264, 1, none⟩) (by first | (rw [add_block]; exact hn265_1) | (show (Addr.add _ _).block ≠ _; rw [add_block]; exact hn265_1) | exact hn265_1) (.int .i64 0)).trans hx265_0; replace hx265_1 := (cell_far (p := ⟨gb264, 1, none⟩) (by first | (rw [add_block]; exact hn265_1) | (show (Addr.add _ _).block ≠ _; rw [add_block]; exact hn265_1) | exact hn265_1) (.int .i64 0)).trans hx265_1; replace hx265_2 := (cell_far (p := ⟨gb264, 1, none⟩) (by first | (rw [add_block]; exact hn265_1) | (show (Addr.add _ _).block ≠ _; rw [add_block]; exact hn265_1) | exact hn265_1) (.int .i64 0)).trans hx265_2; replace hx265_3 := (cell_far (p := ⟨gb264, 1, none⟩) (by first | (rw [add_block]; exact hn265_1) | (show (Addr.add _ _).block ≠ _; rw [add_block]; exact hn265_1) | exact hn265_1) (.int .i64 0)).trans hx265_3; clear hn265_0; clear hn265_1; replace p265 := eq_true p265; replace q265 := eq_true q265))
                go_roundg kj27
                case measure => have := HK1.out; have := HK2.out; have := HK3.out; have := HJ27.out; omega
                case rel => exact ⟨(x5_3), (wrap64 (x10_3 + 1)), tZ, H', ⟨by have := HK1.out; have := HK2.out; have := HK3.out; have := HJ27.out; omega⟩, ⟨by (with_reducible repeat (first | apply Kd.R_alloc | apply Kd.R_drewN | apply Kd.R_drew)); exact Kd.R_mono (Kd.R_far (p := ⟨gb264, 1, none⟩) (Kd.R_far (p := ⟨gb264, 0, none⟩) (Kd.R_mono HO_5.out (fun k_ hk => (⟨hk, hk.2⟩ : _ ∧ k_ ≠ gb264))) (fun _ hk => hk.2) (.int .i64 x10_3)) (fun _ hk => hk.2) (.int .i64 0)) (fun _ hk => trivial)⟩, ⟨by (with_reducible repeat (first | refine jY ?_ _ | refine jZ ?_ | refine jX ?_ _)); refine blk_far ?_ NB249_264.out _; (with_reducible repeat (first | refine jY ?_ _ | refine jZ ?_ | refine jX ?_ _)); refine blk_far ?_ NB249_264.out _; (with_reducible repeat (first | refine jY ?_ _ | refine jZ ?_ | refine jX ?_ _)); exact BK249.out⟩, ⟨by repeat (first | (with_reducible first | exact HB.out | apply jA | apply jN | apply jD | refine jS ?_ GE249.out | refine jS ?_ GE264.out) | exact HB.out)⟩⟩
              ·rw [if_neg c36] at H
               exact absurd H (by simp)
             ·rw [if_neg c35] at H
              exact absurd H (by simp)
            ·replace c34 := Bool.eq_false_iff.mpr c34
             subst c34
             have H1 : (sr14_Close.l1 kj27 x5_3 (wrap64 (x7_2 + 1)) l0_0 l0_1 l0_2 l0_3 a0_4) = some r := by rw [if_neg (show ¬ (false = true) by decide)] at H; exact H
             clear H
             have H := H1
             clear H1
             have H' := jM H
             clear H
             go_wp2
             go_roundg kj27
             case measure => have := HK1.out; have := HK2.out; have := HK3.out; have := HJ27.out; omega
             case rel => exact ⟨(x5_3), (wrap64 (x7_2 + 1)), tZ, H', ⟨by have := HK1.out; have := HK2.out; have := HK3.out; have := HJ27.out; omega⟩, ⟨tR HO_5.out⟩, ⟨tK BK249.out⟩, ⟨by repeat (first | (with_reducible first | exact HB.out | apply jA | apply jN | apply jD | refine jS ?_ GE249.out) | exact HB.out)⟩⟩
       ·rw [if_neg c23] at H
        exact absurd H (by simp)
      ·rw [if_neg c22] at H
       have c22b0 : decide (x7_2 < (x5_2.length : Int)) = false := decide_eq_false c22
       clear c22
       replace H := Option.bind_eq_some_iff.mp H
       obtain ⟨t258, A590, H⟩ := H
       replace H : (some t258) = some r := H
       have A59 := jM A590
       clear A590
       obtain rfl := Option.some.inj H
       obtain ⟨Ao60, co60, eo60⟩ := Kd.R_slice HO_5.out
       subst eo60
       go_wp2_with (first | ((with_reducible refine gate_callee (f := 40) rfl ?_); refine goesL_ (some 91) rfl rfl Tryd.func40 (by kernel_rfl) rfl #[.slice Ao60 x5_2.length co60] rfl tM ?_; (with_reducible refine (sr14_rising.calls k2 _ _ x5_2 t258 _ ?side1 ?side2 A59.out).mono ?_); (case side1 => exact tC (Kd.R_reads' HO_5.out).2.2); (case side2 => exact (Kd.R_reads' HO_5.out).2.1); rintro e w61 ⟨v259, rfl, ho0, hb⟩; refine ⟨_, rfl, ?_⟩; have n0_ := jM (Kd.R_elder' (tR HO_5.out) (Kd.R_base ho0) hb); have n1_ := jM (Kd.R_lower (Kd.R_new' ho0 (Kd.R_lt (tR HO_5.out))) (below_size (by repeat (first | (with_reducible first | exact HB.out | apply jA | apply jN | apply jD | refine jS ?_ GE249.out) | exact HB.out)))); have n2_ := jM (jW (g := gb249) (o := .cells #[.slice A0_0 l0_0.length c0_0, .slice A0_1 l0_1.length c0_1, .slice A0_2 l0_2.length c0_2, .slice A0_3 l0_3.length c0_3, .int .i64 a0_4] 27 (0, 0)) (tK BK249.out) hb); have n3_ := jM (jT (by repeat (first | (with_reducible first | exact HB.out | apply jA | apply jN | apply jD | refine jS ?_ GE249.out) | exact HB.out)) hb); clear HO_5; clear BK249; clear HB; have HO_5 := n0_; have HO260 := n1_; have BK249 := n2_; have HB := n3_; clear n0_ n1_ n2_ n3_; (try clear hb); (try clear hb2); (try clear hk); (try clear hi); (try clear ho0)))
       go_ret
       exact ⟨_, by first | rfl | (simp [errW_none, errW_some] <;> rfl) | (simp [*, errW_none, errW_some] <;> rfl), by (with_reducible repeat (first | apply Kd.R_alloc | apply Kd.R_drewN | apply Kd.R_drew)); exact Kd.R_mono HO260.out (fun _ hk => trivial), by repeat (first | (with_reducible first | exact HB.out | apply jA | apply jN | apply jD | refine jS ?_ GE249.out) | exact HB.out)⟩

end Go.Proofs.YtclollnicbcooaaDoor.P
end

section
namespace Go.Proofs.YtclollnicbcooaaDoor.P
open Go.RowKit Go.Proofs.YtclollnicbcooaaDoorW.PrintWords Go.Proofs.YtclollnicbcooaaDoorW.PrintLast Go.Proofs.YtclollnicbcooaaDoorW.PrintMore
attribute [local go_sem] max2_int min2_int max_two min_two max_three min_three max_four min_four

/-! ### sr14_Step: function 21 -/
def sr14_Step.l0 : Nat → Int → List (S39) → List (S39) → Int → List (S82) → List (S101) → List ByteArray → List (S64) → Int → Option ((List (S39)))
 | 0, _, _, _, _, _, _, _, _, _ => none
 | k + 1, x2, x7, x8, x9, xA, xB, xC, xD, xE => if x9 < (x8.length : Int) then (if 0 ≤ x9 then ((sr14_Behind.f xA xB xC xD xE ((rd_T39 x8 x9).f0) ((rd_T39 x8 x9).f1)).bind fun bt275 => (if bt275.2 = true then (if bt275.1 = x2 then (if x7.length < 8796093022208 then (sr14_Step.l0 k x2 (x7 ++ [(⟨(rd_T39 x8 x9).f0, wrap64 (((rd_T39 x8 x9).f1) + 1)⟩ : S39)]) x8 (wrap64 (x9 + 1)) xA xB xC xD xE) else (none)) else (sr14_Step.l0 k x2 x7 x8 (wrap64 (x9 + 1)) xA xB xC xD xE)) else (sr14_Step.l0 k x2 x7 x8 (wrap64 (x9 + 1)) xA xB xC xD xE))) else (none)) else ((sr14_rising.f k x7).bind fun t282 => (some t282))
def sr14_Step.f (k : Nat) (l0_0 : List (S82)) (l0_1 : List (S101)) (l0_2 : List ByteArray) (l0_3 : List (S64)) (a0_4 : Int) (l1 : List (S39)) (a2 : Int) : Option ((List (S39))) := (sr14_Close.f k l0_0 l0_1 l0_2 l0_3 a0_4 l1).bind fun t271 => (sr14_Step.l0 k a2 ([] : List (S39)) t271 0 l0_0 l0_1 l0_2 l0_3 a0_4)
def sr14_Step.T6 : Bool × List (List Nat × List Nat) := (true, [([], []), ([], []), ([], []), ([1, 2], [1, 2]), ([3], [3]), ([0, 4], [0, 4]), ([5], [5]), ([6], [6]), ([6], [6]), ([7, 5, 0, 1, 2, 3, 4, 5, 6, 7], [7]), ([8, 9, 0, 1, 2, 3, 4, 5, 6, 7, 8, 9], [8])])
def sr14_Step.B6 : List Nat := [0, 0, 0, 6, 14, 31, 63, 127, 127, 255, 1023]
theorem sr14_Step.tab6 : rtab .any (opsOf Tryd.f21 6) = sr14_Step.T6 := by kernel_rfl
theorem sr14_Step.bits6 : waitsOk sr14_Step.T6.2 sr14_Step.B6 = true := by kernel_rfl
def sr14_Step.T8 : Bool × List (List Nat × List Nat) := (true, [([], []), ([], []), ([], []), ([1, 2], [1, 2]), ([3], [3]), ([4], [4]), ([], []), ([], []), ([6, 7], [6, 7]), ([8], [8]), ([9], [9]), ([10], [10]), ([5, 11], [5, 11]), ([12], [12]), ([0, 13], [0, 13]), ([14, 14, 0, 1, 2, 3, 4, 5, 6, 7, 8, 9, 10, 11, 12, 13, 14], [0, 14])])
def sr14_Step.B8 : List Nat := [0, 0, 0, 6, 14, 30, 0, 0, 192, 448, 960, 1984, 4094, 8190, 16383, 32767]
theorem sr14_Step.tab8 : rtab .any (opsOf Tryd.f21 8) = sr14_Step.T8 := by kernel_rfl
theorem sr14_Step.bits8 : waitsOk sr14_Step.T8.2 sr14_Step.B8 = true := by kernel_rfl
set_option maxHeartbeats 8000000 in
set_option maxRecDepth 100000 in
theorem sr14_Step.calls (k : Nat) (A0_0 : Option Addr) (c0_0 : Nat) (l0_0 : List (S82)) (A0_1 : Option Addr) (c0_1 : Nat) (l0_1 : List (S101)) (A0_2 : Option Addr) (c0_2 : Nat) (l0_2 : List ByteArray) (A0_3 : Option Addr) (c0_3 : Nat) (l0_3 : List (S64)) (a0_4 : Int) (A1 : Option Addr) (c1 : Nat) (l1 : List (S39)) (a2 : Int) (r : List (S39)) (w : World) (hr0_0 : Kd.C k82 w A0_0 l0_0.length l0_0) (hc0_0 : l0_0.length ≤ c0_0) (hr0_1 : Kd.C k101 w A0_1 l0_1.length l0_1) (hc0_1 : l0_1.length ≤ c0_1) (hr0_2 : Kd.C Kd.string w A0_2 l0_2.length l0_2) (hc0_2 : l0_2.length ≤ c0_2) (hr0_3 : Kd.C k64 w A0_3 l0_3.length l0_3) (hc0_3 : l0_3.length ≤ c0_3) (hr1 : Kd.C k39 w A1 l1.length l1) (hc1 : l1.length ≤ c1) (h : sr14_Step.f k l0_0 l0_1 l0_2 l0_3 a0_4 l1 a2 = some r) :
  Calls Tryd.prog 21 #[.agg #[.slice A0_0 l0_0.length c0_0, .slice A0_1 l0_1.length c0_1, .slice A0_2 l0_2.length c0_2, .slice A0_3 l0_3.length c0_3, .int .i64 a0_4], .slice A1 l1.length c1, .int .i64 a2] w fun e w' => ∃ v0_ : Value, e = .returned (v0_) ∧ Kd.R k39 39 w' w.heap.size (fun _ => True) v0_ r ∧ Below w.heap.size w w' := by
 have hu27 := Tryd.underlying27
 have hu39 := Tryd.underlying39
 have HR0_0 := jM hr0_0
 have HC0_0 := jM hc0_0
 clear hr0_0 hc0_0
 have HR0_1 := jM hr0_1
 have HC0_1 := jM hc0_1
 clear hr0_1 hc0_1
 have HR0_2 := jM hr0_2
 have HC0_2 := jM hc0_2
 clear hr0_2 hc0_2
 have HR0_3 := jM hr0_3
 have HC0_3 := jM hc0_3
 clear hr0_3 hc0_3
 have HR1 := jM hr1
 have HC1 := jM hc1
 clear hr1 hc1
 have HB := jM (Below.refl w.heap.size w)
 have H : ((sr14_Close.f k l0_0 l0_1 l0_2 l0_3 a0_4 l1).bind fun t271 => (sr14_Step.l0 k a2 ([] : List (S39)) t271 0 l0_0 l0_1 l0_2 l0_3 a0_4)) = some r := h
 clear h
 replace H := Option.bind_eq_some_iff.mp H
 obtain ⟨t271, A40, H⟩ := H
 replace H : (sr14_Step.l0 k a2 ([] : List (S39)) t271 0 l0_0 l0_1 l0_2 l0_3 a0_4) = some r := H
 have A4 := jM A40
 clear A40
 have H' := jM H
 clear H
 go_enter Tryd.func21, Tryd.ntmps21
 go_wp2_with (first | ((with_reducible refine gate_dst (N := 3) rfl ?_); refine box_event ?hg (N := 3) ?hd (cs := #[.slice A0_0 l0_0.length c0_0, .slice A0_1 l0_1.length c0_1, .slice A0_2 l0_2.length c0_2, .slice A0_3 l0_3.length c0_3, .int .i64 a0_4]) (t := 27) ?hr ?_; (case hd => rfl); (case hg => rfl); (case hr => first | (go_simp; done) | (go_simp; rfl)); intro gb270 hg w5 hbox hb; have n0_ := jM (jT (tB HB.out) hb); have n1_ := jM (hbox); have n2_ := jM ((by rw [hg]; exact (below_size (tB HB.out)) : w.heap.size ≤ gb270)); have n3_ := jM ((by rw [hg]; exact (below_size (tB HB.out)) : w.heap.size ≤ gb270)); clear HB; have HB := n0_; have BK270 := n1_; have GW270 := n2_; have GE270 := n3_; clear n0_ n1_ n2_ n3_; clear hb hbox hg; have hcz6_0 : w5.cell? ⟨gb270, 0, none⟩ = some (.slice A0_0 l0_0.length c0_0) := (jC BK270.out 0).trans rfl; have hcz6_1 : w5.cell? ⟨gb270, 1, none⟩ = some (.slice A0_1 l0_1.length c0_1) := (jC BK270.out 1).trans rfl; have hcz6_2 : w5.cell? ⟨gb270, 2, none⟩ = some (.slice A0_2 l0_2.length c0_2) := (jC BK270.out 2).trans rfl; have hcz6_3 : w5.cell? ⟨gb270, 3, none⟩ = some (.slice A0_3 l0_3.length c0_3) := (jC BK270.out 3).trans rfl; have hcz6_4 : w5.cell? ⟨gb270, 4, none⟩ = some (.int .i64 a0_4) := (jC BK270.out 4).trans rfl; have hfz6_0 := jF BK270.out 0; have hfz6_1 := jF BK270.out 1; have hfz6_2 := jF BK270.out 2; have hfz6_3 := jF BK270.out 3; have hfz6_4 := jF BK270.out 4) | ((with_reducible refine gate_callee (f := 19) rfl ?_); refine goesL_ (some 14) rfl rfl Tryd.func19 (by kernel_rfl) rfl #[.agg #[.slice A0_0 l0_0.length c0_0, .slice A0_1 l0_1.length c0_1, .slice A0_2 l0_2.length c0_2, .slice A0_3 l0_3.length c0_3, .int .i64 a0_4], .slice A1 l1.length c1] rfl tM ?_; (with_reducible refine (sr14_Close.calls k _ _ l0_0 _ _ l0_1 _ _ l0_2 _ _ l0_3 a0_4 _ _ l1 t271 _ ?side1 ?side2 ?side3 ?side4 ?side5 ?side6 ?side7 ?side8 ?side9 ?side10 A4.out).mono ?_); (case side1 => exact tC (jB HR0_0.out HB.out)); (case side2 => exact HC0_0.out); (case side3 => exact tC (jB HR0_1.out HB.out)); (case side4 => exact HC0_1.out); (case side5 => exact tC (jB HR0_2.out HB.out)); (case side6 => exact HC0_2.out); (case side7 => exact tC (jB HR0_3.out HB.out)); (case side8 => exact HC0_3.out); (case side9 => exact tC (jB HR1.out HB.out)); (case side10 => exact HC1.out); rintro e w7 ⟨v272, rfl, ho0, hb⟩; refine ⟨_, rfl, ?_⟩; have n0_ := jM (Kd.R_lower ho0 (below_size (by repeat (first | (with_reducible first | exact HB.out | apply jA | apply jN | apply jD | refine jS ?_ GE270.out) | exact HB.out)))); have n1_ := jM (jW (g := gb270) (o := .cells #[.slice A0_0 l0_0.length c0_0, .slice A0_1 l0_1.length c0_1, .slice A0_2 l0_2.length c0_2, .slice A0_3 l0_3.length c0_3, .int .i64 a0_4] 27 (0, 0)) (tK BK270.out) hb); have n2_ := jM (jT (by repeat (first | (with_reducible first | exact HB.out | apply jA | apply jN | apply jD | refine jS ?_ GE270.out) | exact HB.out)) hb); clear BK270; clear HB; have HO273 := n0_; have BK270 := n1_; have HB := n2_; clear n0_ n1_ n2_; (try clear hb); (try clear hb2); (try clear hk); (try clear hi); (try clear ho0)))
 go_loopg [7, 9] k (fun kq v7 v9 w' => ∃ (x7_1 : List (S39)) (x9_1 : Int), v9 = .int .i64 x9_1 ∧ Aside0 (sr14_Step.l0 kq a2 x7_1 t271 x9_1 l0_0 l0_1 l0_2 l0_3 a0_4 = some r) ∧ Aside0 (kq ≤ k) ∧ Aside0 (Kd.R k39 39 w' w.heap.size (fun k_ => some k_ ≠ (v272 : Value).ownBlock) v7 x7_1) ∧ Aside0 (Kd.R k39 39 w' w.heap.size (fun k_ => some k_ ≠ (v7 : Value).ownBlock) v272 t271) ∧ Aside0 (w'.heap[gb270]? = some (.cells #[(.slice A0_0 l0_0.length c0_0), (.slice A0_1 l0_1.length c0_1), (.slice A0_2 l0_2.length c0_2), (.slice A0_3 l0_3.length c0_3), .int .i64 a0_4] 27 (0, 0))) ∧ Aside0 (Below w.heap.size w w'))
 case atStart => exact ⟨(([] : List (S39))), (0), tZ, H', ⟨Nat.le_refl _⟩, ⟨by first | exact Kd.R_nil _ _ _ _ _ | exact Kd.N_nil _ _ _ _ _ | exact Kd.V_nil _ _ _ _ _ | exact Kd.Q_nil _ _ _ _ _ | exact Kd.S_nil _ _ _ _ _⟩, ⟨by (with_reducible repeat (first | apply Kd.R_alloc | apply Kd.R_drewN | apply Kd.R_drew)); exact Kd.R_mono HO273.out (fun _ hk => (by simp [Value.ownBlock]))⟩, ⟨tK BK270.out⟩, ⟨by repeat (first | (with_reducible first | exact HB.out | apply jA | apply jN | apply jD | refine jS ?_ GE270.out) | exact HB.out)⟩⟩
 case round =>
  clear H'
  try clear c1
  try clear c2
  try clear p2
  try clear hcz6_0
  try clear hcz6_1
  try clear hcz6_2
  try clear hcz6_3
  try clear hcz6_4
  try clear hfz6_0
  try clear hfz6_1
  try clear hfz6_2
  try clear hfz6_3
  try clear hfz6_4
  obtain ⟨x7_1, x9_1, rfl, HA, HK1, HO_7, HO_8, BK270, HB⟩ := hrel
  cases gk with
  | zero => exact absurd HA.out (by simp [sr14_Step.l0])
  | succ k1 =>
   have H := HA.out
   clear HA
   simp only [sr14_Step.l0] at H
   by_cases c8 : x9_1 < (t271.length : Int)
   ·rw [if_pos c8] at H
    have c8b0 : decide (x9_1 < (t271.length : Int)) = true := decide_eq_true c8
    clear c8
    by_cases c9 : 0 ≤ x9_1
    ·rw [if_pos c9] at H
     have c9b0 : decide (0 ≤ x9_1) = true := decide_eq_true c9
     clear c9
     replace H := Option.bind_eq_some_iff.mp H
     obtain ⟨⟨t275, t276⟩, A100, H⟩ := H
     replace H : (if t276 = true then (if t275 = a2 then (if x7_1.length < 8796093022208 then (sr14_Step.l0 k1 a2 (x7_1 ++ [(⟨(rd_T39 t271 x9_1).f0, wrap64 (((rd_T39 t271 x9_1).f1) + 1)⟩ : S39)]) t271 (wrap64 (x9_1 + 1)) l0_0 l0_1 l0_2 l0_3 a0_4) else (none)) else (sr14_Step.l0 k1 a2 x7_1 t271 (wrap64 (x9_1 + 1)) l0_0 l0_1 l0_2 l0_3 a0_4)) else (sr14_Step.l0 k1 a2 x7_1 t271 (wrap64 (x9_1 + 1)) l0_0 l0_1 l0_2 l0_3 a0_4)) = some r := H
     have A10 := jM A100
     clear A100
     by_cases c11 : t276 = true
     ·subst c11
      have H1 : (if t275 = a2 then (if x7_1.length < 8796093022208 then (sr14_Step.l0 k1 a2 (x7_1 ++ [(⟨(rd_T39 t271 x9_1).f0, wrap64 (((rd_T39 t271 x9_1).f1) + 1)⟩ : S39)]) t271 (wrap64 (x9_1 + 1)) l0_0 l0_1 l0_2 l0_3 a0_4) else (none)) else (sr14_Step.l0 k1 a2 x7_1 t271 (wrap64 (x9_1 + 1)) l0_0 l0_1 l0_2 l0_3 a0_4)) = some r := by rw [if_pos rfl] at H; exact H
      clear H
      have H := H1
      clear H1
      by_cases c12 : t275 = a2
      ·rw [if_pos c12] at H
       have c12b0 : (t275 == a2) = true := beq_iff_eq.mpr c12
       have c12b1 : (t275 != a2) = false := bne_eq_false_iff_eq.mpr c12
       clear c12
       by_cases c13 : x7_1.length < 8796093022208
       ·rw [if_pos c13] at H
        have LMc13 := jM c13
        clear c13
        obtain ⟨y279, hy279⟩ : ∃ y_ : List (S39), y_ = (x7_1 ++ [(⟨(rd_T39 t271 x9_1).f0, wrap64 (((rd_T39 t271 x9_1).f1) + 1)⟩ : S39)]) := ⟨_, rfl⟩
        replace H : (sr14_Step.l0 k1 a2 y279 t271 (wrap64 (x9_1 + 1)) l0_0 l0_1 l0_2 l0_3 a0_4) = some r := by first | (rw [hy279]; with_reducible exact H) | (have H2_ := (Option.bind_some _ _).symm.trans H; rw [hy279]; with_reducible exact H2_) | (have H2_ := (Option.bind_some _ _).symm.trans H; with_reducible exact H2_) | with_reducible exact H | (rw [hy279]; exact H) | exact H
        have Ny279 := jM hy279
        clear hy279
        have H' := jM H
        clear H
        obtain ⟨Ao14, co14, eo14⟩ := Kd.R_slice HO_8.out
        subst eo14
        try go_wp2
        have n0_ := jM (Kd.R_drew HO_7.out)
        have n1_ := jM (Kd.R_drew HO_8.out)
        have n2_ := jM (jZ BK270.out)
        have n3_ := jM (jD HB.out)
        clear HO_7 HO_8 BK270 HB
        have HO_7 := n0_
        have HO_8 := n1_
        have BK270 := n2_
        have HB := n3_
        clear n0_ n1_ n2_ n3_
        have p274 : 0 ≤ (x9_1 : Int) := of_decide_eq_true tD
        have q274 : x9_1 < (t271.length : Int) := of_decide_eq_true tD
        obtain ⟨ad274, e274, hx274_0, hx274_1⟩ := at_T39 (Kd.R_reads' HO_8.out).2.2 x9_1 p274 q274
        cases e274
        replace p274 := eq_true p274
        replace q274 := eq_true q274
        refine start_ (n := 11) (S := fun w' => w'.cell? ⟨gb270, 0, none⟩ = some (.slice A0_0 l0_0.length c0_0) ∧ w'.cell? ⟨gb270, 1, none⟩ = some (.slice A0_1 l0_1.length c0_1) ∧ w'.cell? ⟨gb270, 2, none⟩ = some (.slice A0_2 l0_2.length c0_2) ∧ w'.cell? ⟨gb270, 3, none⟩ = some (.slice A0_3 l0_3.length c0_3) ∧ w'.cell? ⟨gb270, 4, none⟩ = some (.int .i64 a0_4) ∧ w'.cell? (ad274.add ((x9_1).toNat * 2)) = some (.int .i64 ((rd_T39 t271 x9_1).f0)) ∧ w'.cell? ⟨(ad274.add ((x9_1).toNat * 2)).block, (ad274.add ((x9_1).toNat * 2)).off + 1, none⟩ = some (.int .i64 ((rd_T39 t271 x9_1).f1))) (ds := []) (tf 0 11) (by kernel_rfl) rfl rfl ⟨(jC BK270.out 0).trans rfl, (jC BK270.out 1).trans rfl, (jC BK270.out 2).trans rfl, (jC BK270.out 3).trans rfl, (jC BK270.out 4).trans rfl, hx274_0, hx274_1⟩ (fun hHeld => ?_); refine with_tabW sr14_Step.tab6 sr14_Step.bits6 (fun HT_ HW_ => ?_)
        generalize wr.drew = w15 at HO_7 HO_8 BK270 HB hx274_0 hx274_1 hHeld ⊢
        refine pU (i:=1) (N:=some 23) #[false, true, false, false, false, false, false, false, false, false, false] HT_ ?_
        refine pU (i:=2) (N:=some 24) #[false, true, true, false, false, false, false, false, false, false, false] HT_ ?_
        refine pU (i:=3) (N:=some 25) #[false, true, true, true, false, false, false, false, false, false, false] HT_ ?_
        refine tU (i:=0) (N:=some 22) (tf 4 7) HT_ HW_ hHeld ?_
        refine tU (i:=4) (N:=some 26) (tf 5 6) HT_ HW_ hHeld ?_
        refine one_ (i := 5) (N := some 27) (tf 6 5) rfl rfl (one_of HT_.out (by kernel_rfl)) (by decide) (fun K hK => ?_)
        refine goes_ Tryd.func16 (by kernel_rfl) rfl #[.agg #[.slice A0_0 l0_0.length c0_0, .slice A0_1 l0_1.length c0_1, .slice A0_2 l0_2.length c0_2, .slice A0_3 l0_3.length c0_3, .int .i64 a0_4], .agg #[.int .i64 ((rd_T39 t271 x9_1).f0), .int .i64 ((rd_T39 t271 x9_1).f1)]] (by rfl) rfl rfl tM ?_
        with_reducible refine (sr14_Behind.calls _ _ l0_0 _ _ l0_1 _ _ l0_2 _ _ l0_3 a0_4 ((rd_T39 t271 x9_1).f0) ((rd_T39 t271 x9_1).f1) t275 true _ ?side1 ?side2 ?side3 ?side4 ?side5 ?side6 ?side7 ?side8 A10.out).mono ?_
        (case side1 => exact tC (jB HR0_0.out HB.out))
        (case side2 => exact HC0_0.out)
        (case side3 => exact tC (jB HR0_1.out HB.out))
        (case side4 => exact HC0_1.out)
        (case side5 => exact tC (jB HR0_2.out HB.out))
        (case side6 => exact HC0_2.out)
        (case side7 => exact tC (jB HR0_3.out HB.out))
        (case side8 => exact HC0_3.out)
        rintro e w16 ⟨rfl, hb⟩
        have HS5_ := (hb.cell (jL _ _ (hHeld.2.2.2.2.2.1))).trans (hHeld.2.2.2.2.2.1)
        have HS6_ := (hb.cell (jL _ _ (hHeld.2.2.2.2.2.2))).trans (hHeld.2.2.2.2.2.2)
        refine ⟨_, rfl, ?_⟩
        have n0_ := jM (Kd.R_below (tR HO_7.out) hb)
        have n1_ := jM (Kd.R_below (tR HO_8.out) hb)
        have n2_ := jM (jW (g := gb270) (o := .cells #[.slice A0_0 l0_0.length c0_0, .slice A0_1 l0_1.length c0_1, .slice A0_2 l0_2.length c0_2, .slice A0_3 l0_3.length c0_3, .int .i64 a0_4] 27 (0, 0)) (tK BK270.out) hb)
        have n3_ := jM (jT (by repeat (first | (with_reducible first | exact HB.out | apply jA | apply jN | apply jD | refine jS ?_ GE270.out) | exact HB.out)) hb)
        clear HO_7 HO_8 BK270 HB
        have HO_7 := n0_
        have HO_8 := n1_
        have BK270 := n2_
        have HB := n3_
        clear n0_ n1_ n2_ n3_
        (try clear hb)
        (try clear hb2)
        (try clear hk)
        (try clear hi)
        refine hK.out _ _ ⟨(jC BK270.out 0).trans rfl, (jC BK270.out 1).trans rfl, (jC BK270.out 2).trans rfl, (jC BK270.out 3).trans rfl, (jC BK270.out 4).trans rfl, HS5_, HS6_⟩ (fun hHeld => ?_)
        clear hK K
        refine nU (N:=some 27) ?_
        refine pU (i:=6) (N:=some 21) (tf 7 4) HT_ ?_
        refine pU (i:=7) (N:=some 28) (tf 8 3) HT_ ?_
        refine pU (i:=8) (N:=some 29) (tf 9 2) HT_ ?_
        refine pU (i:=9) (N:=some 10) (tf 10 1) HT_ ?_
        refine pU (i:=10) (N:=some 11) (tf 11 0) HT_ ?_
        refine done_ (done_of HT_.out (by kernel_rfl)) ?_
        try go_wp2
        have n0_ := jM (Kd.R_drew HO_7.out)
        have n1_ := jM (Kd.R_drew HO_8.out)
        have n2_ := jM (jZ BK270.out)
        have n3_ := jM (jD HB.out)
        clear HO_7 HO_8 BK270 HB
        have HO_7 := n0_
        have HO_8 := n1_
        have BK270 := n2_
        have HB := n3_
        clear n0_ n1_ n2_ n3_
        have p277 : 0 ≤ (x9_1 : Int) := of_decide_eq_true tD
        have q277 : x9_1 < (t271.length : Int) := of_decide_eq_true tD
        obtain ⟨ad277, e277, hx277_0, hx277_1⟩ := at_T39 (Kd.R_reads' HO_8.out).2.2 x9_1 p277 q277
        obtain rfl : ad274 = ad277 := (by injection e277)
        replace p277 := eq_true p277
        replace q277 := eq_true q277
        have p278 : 0 ≤ (x9_1 : Int) := of_decide_eq_true tD
        have q278 : x9_1 < (t271.length : Int) := of_decide_eq_true tD
        obtain ⟨ad278, e278, hx278_0, hx278_1⟩ := at_T39 (Kd.R_reads' HO_8.out).2.2 x9_1 p278 q278
        obtain rfl : ad274 = ad278 := (by injection e278)
        replace p278 := eq_true p278
        replace q278 := eq_true q278
        refine start_ (n := 16) (S := fun w' => w'.cell? (ad274.add ((x9_1).toNat * 2)) = some (.int .i64 ((rd_T39 t271 x9_1).f0)) ∧ w'.cell? ⟨(ad274.add ((x9_1).toNat * 2)).block, (ad274.add ((x9_1).toNat * 2)).off + 1, none⟩ = some (.int .i64 ((rd_T39 t271 x9_1).f1)) ∧ w'.cell? (ad274.add ((x9_1).toNat * 2)) = some (.int .i64 ((rd_T39 t271 x9_1).f0)) ∧ w'.cell? ⟨(ad274.add ((x9_1).toNat * 2)).block, (ad274.add ((x9_1).toNat * 2)).off + 1, none⟩ = some (.int .i64 ((rd_T39 t271 x9_1).f1))) (ds := [13, 14]) (tf 0 16) (by kernel_rfl) rfl rfl ⟨hx277_0, hx277_1, hx278_0, hx278_1⟩ (fun hHeld => ?_); refine with_tabW sr14_Step.tab8 sr14_Step.bits8 (fun HT_ HW_ => ?_)
        generalize w16.drew = w17 at HO_7 HO_8 BK270 HB hx277_0 hx277_1 hx278_0 hx278_1 hHeld ⊢
        refine pU (i:=0) (N:=some 36) (tf 1 15) HT_ ?_
        refine pU (i:=1) (N:=some 37) (tf 2 14) HT_ ?_
        refine pU (i:=2) (N:=some 38) (tf 3 13) HT_ ?_
        refine pU (i:=3) (N:=some 39) (tf 4 12) HT_ ?_
        refine pU (i:=4) (N:=some 40) (tf 5 11) HT_ ?_
        refine pU (i:=6) (N:=some 42) #[true, true, true, true, true, false, true, false, false, false, false, false, false, false, false, false] HT_ ?_
        refine pU (i:=7) (N:=some 43) #[true, true, true, true, true, false, true, true, false, false, false, false, false, false, false, false] HT_ ?_
        refine pU (i:=8) (N:=some 44) #[true, true, true, true, true, false, true, true, true, false, false, false, false, false, false, false] HT_ ?_
        refine pU (i:=9) (N:=some 45) #[true, true, true, true, true, false, true, true, true, true, false, false, false, false, false, false] HT_ ?_
        refine tU (i:=5) (N:=some 41) (tf 10 6) HT_ HW_ hHeld ?_
        refine tU (i:=10) (N:=some 46) (tf 11 5) HT_ HW_ hHeld ?_
        refine pU (i:=11) (N:=some 47) (tf 12 4) HT_ ?_
        refine pU (i:=12) (N:=some 48) (tf 13 3) HT_ ?_
        refine last_ (i := 13) (N := some 49) (tf 14 2) rfl rfl (one_of HT_.out (by kernel_rfl)) (by decide) (fun K hK => ?_)
        refine value_ (w1 := ?_) (v := ?_) (by rfl) rfl ?_ ?_
        rotate_left 2
        ·go_simp
         constructor
         ·rfl
         ·rfl
        refine hK.out _ _ ?_
        clear hK K
        refine nU (N:=some 49) ?_
        refine last_ (i := 14) (N := some 50) (tf 15 1) rfl rfl (one_of HT_.out (by kernel_rfl)) (by decide) (fun K hK => ?_)
        refine Kd.R_append_step k39 (w0 := w) w.heap.size (by rfl) (.tmp 36) (.tmp 49) 32 39 (.agg #[(.int .i64 0), (.int .i64 0)]) 16 rfl Tryd.underlying32 info39 rfl (by decide) (by omega) u7 x7_1 (⟨(rd_T39 t271 x9_1).f0, wrap64 (((rd_T39 t271 x9_1).f1) + 1)⟩ : S39) [.int .i64 ((rd_T39 t271 x9_1).f0), .int .i64 (wrap64 (((rd_T39 t271 x9_1).f1) + 1))] (fun k_ => some k_ ≠ (.slice (some ad274) t271.length co14 : Value).ownBlock) (fun _ => False) rfl rfl ?aP (fun _ hk => hk.elim) ?aF ?aO ?aB ?aS ?aL ?_
        (case aP => exact k39_mkM _ _ _ (⟨(rd_T39 t271 x9_1).f0, wrap64 (((rd_T39 t271 x9_1).f1) + 1)⟩ : S39))
        (case aB => exact (by repeat (first | (with_reducible first | exact HB.out | apply jA | apply jN | apply jD | refine jS ?_ GE270.out) | exact HB.out)))
        (case aF => exact (fun k_ hk => Kd.fresh' (Kd.R_lt (tR HO_8.out)) k_ hk))
        (case aO => exact (tR HO_7.out))
        (case aS => exact (below_size (by repeat (first | (with_reducible first | exact HB.out | apply jA | apply jN | apply jD | refine jS ?_ GE270.out) | exact HB.out))))
        (case aL => have := LMc13.out; omega)
        intro v280 w18 ho hb hg hat
        rw [← Ny279.out] at ho
        have n0_ := jM (Kd.R_after (ok := (fun _ => True)) (by (with_reducible repeat (first | apply Kd.R_alloc | apply Kd.R_drewN | apply Kd.R_drew)); exact Kd.R_mono HO_8.out (fun _ hk => ⟨trivial, hk⟩)) hg hat)
        have n1_ := jM (blk_grown (g := gb270) (o := .cells #[.slice A0_0 l0_0.length c0_0, .slice A0_1 l0_1.length c0_1, .slice A0_2 l0_2.length c0_2, .slice A0_3 l0_3.length c0_3, .int .i64 a0_4] 27 (0, 0)) (tK BK270.out) hg (Kd.R_ne HO_7.out BK270.out (by decide)))
        have n2_ := jM (hb)
        have n3_ := jM (ho)
        clear HO_8 BK270 HB HO_7
        have HO_8 := n0_
        have BK270 := n1_
        have HB := n2_
        have HO281 := n3_
        clear n0_ n1_ n2_ n3_ ho hb hg hat
        refine hK.out _ _ ?_
        clear hK K
        refine nU (N:=some 50) ?_
        refine pU (i:=15) (N:=some 7) (tf 16 0) HT_ ?_
        refine done_ (done_of HT_.out (by kernel_rfl)) ?_
        try go_wp2
        go_roundg k1
        case measure => have := HK1.out; omega
        case rel => exact ⟨(y279), (wrap64 (x9_1 + 1)), tZ, H', ⟨by have := HK1.out; omega⟩, ⟨tR HO281.out⟩, ⟨by (with_reducible repeat (first | apply Kd.R_alloc | apply Kd.R_drewN | apply Kd.R_drew)); exact Kd.R_mono HO_8.out (fun _ hk => hk.2)⟩, ⟨tK BK270.out⟩, ⟨by repeat (first | (with_reducible first | exact HB.out | apply jA | apply jN | apply jD | refine jS ?_ GE270.out) | exact HB.out)⟩⟩
       ·rw [if_neg c13] at H
        exact absurd H (by simp)
      ·rw [if_neg c12] at H
       have c12b0 : (t275 == a2) = false := beq_eq_false_iff_ne.mpr c12
       have c12b1 : (t275 != a2) = true := bne_iff_ne.mpr c12
       have H' := jM H
       clear H
       obtain ⟨Ao19, co19, eo19⟩ := Kd.R_slice HO_8.out
       subst eo19
       try go_wp2
       have n0_ := jM (Kd.R_drew HO_7.out)
       have n1_ := jM (Kd.R_drew HO_8.out)
       have n2_ := jM (jZ BK270.out)
       have n3_ := jM (jD HB.out)
       clear HO_7 HO_8 BK270 HB
       have HO_7 := n0_
       have HO_8 := n1_
       have BK270 := n2_
       have HB := n3_
       clear n0_ n1_ n2_ n3_
       have p274 : 0 ≤ (x9_1 : Int) := of_decide_eq_true tD
       have q274 : x9_1 < (t271.length : Int) := of_decide_eq_true tD
       obtain ⟨ad274, e274, hx274_0, hx274_1⟩ := at_T39 (Kd.R_reads' HO_8.out).2.2 x9_1 p274 q274
       cases e274
       replace p274 := eq_true p274
       replace q274 := eq_true q274
       refine start_ (n := 11) (S := fun w' => w'.cell? ⟨gb270, 0, none⟩ = some (.slice A0_0 l0_0.length c0_0) ∧ w'.cell? ⟨gb270, 1, none⟩ = some (.slice A0_1 l0_1.length c0_1) ∧ w'.cell? ⟨gb270, 2, none⟩ = some (.slice A0_2 l0_2.length c0_2) ∧ w'.cell? ⟨gb270, 3, none⟩ = some (.slice A0_3 l0_3.length c0_3) ∧ w'.cell? ⟨gb270, 4, none⟩ = some (.int .i64 a0_4) ∧ w'.cell? (ad274.add ((x9_1).toNat * 2)) = some (.int .i64 ((rd_T39 t271 x9_1).f0)) ∧ w'.cell? ⟨(ad274.add ((x9_1).toNat * 2)).block, (ad274.add ((x9_1).toNat * 2)).off + 1, none⟩ = some (.int .i64 ((rd_T39 t271 x9_1).f1))) (ds := []) (tf 0 11) (by kernel_rfl) rfl rfl ⟨(jC BK270.out 0).trans rfl, (jC BK270.out 1).trans rfl, (jC BK270.out 2).trans rfl, (jC BK270.out 3).trans rfl, (jC BK270.out 4).trans rfl, hx274_0, hx274_1⟩ (fun hHeld => ?_); refine with_tabW sr14_Step.tab6 sr14_Step.bits6 (fun HT_ HW_ => ?_)
       generalize wr.drew = w20 at HO_7 HO_8 BK270 HB hx274_0 hx274_1 hHeld ⊢
       refine pU (i:=1) (N:=some 23) #[false, true, false, false, false, false, false, false, false, false, false] HT_ ?_
       refine pU (i:=2) (N:=some 24) #[false, true, true, false, false, false, false, false, false, false, false] HT_ ?_
       refine pU (i:=3) (N:=some 25) #[false, true, true, true, false, false, false, false, false, false, false] HT_ ?_
       refine tU (i:=0) (N:=some 22) (tf 4 7) HT_ HW_ hHeld ?_
       refine tU (i:=4) (N:=some 26) (tf 5 6) HT_ HW_ hHeld ?_
       refine one_ (i := 5) (N := some 27) (tf 6 5) rfl rfl (one_of HT_.out (by kernel_rfl)) (by decide) (fun K hK => ?_)
       refine goes_ Tryd.func16 (by kernel_rfl) rfl #[.agg #[.slice A0_0 l0_0.length c0_0, .slice A0_1 l0_1.length c0_1, .slice A0_2 l0_2.length c0_2, .slice A0_3 l0_3.length c0_3, .int .i64 a0_4], .agg #[.int .i64 ((rd_T39 t271 x9_1).f0), .int .i64 ((rd_T39 t271 x9_1).f1)]] (by rfl) rfl rfl tM ?_
       with_reducible refine (sr14_Behind.calls _ _ l0_0 _ _ l0_1 _ _ l0_2 _ _ l0_3 a0_4 ((rd_T39 t271 x9_1).f0) ((rd_T39 t271 x9_1).f1) t275 true _ ?side1 ?side2 ?side3 ?side4 ?side5 ?side6 ?side7 ?side8 A10.out).mono ?_
       (case side1 => exact tC (jB HR0_0.out HB.out))
       (case side2 => exact HC0_0.out)
       (case side3 => exact tC (jB HR0_1.out HB.out))
       (case side4 => exact HC0_1.out)
       (case side5 => exact tC (jB HR0_2.out HB.out))
       (case side6 => exact HC0_2.out)
       (case side7 => exact tC (jB HR0_3.out HB.out))
       (case side8 => exact HC0_3.out)
       rintro e w21 ⟨rfl, hb⟩
       have HS5_ := (hb.cell (jL _ _ (hHeld.2.2.2.2.2.1))).trans (hHeld.2.2.2.2.2.1)
       have HS6_ := (hb.cell (jL _ _ (hHeld.2.2.2.2.2.2))).trans (hHeld.2.2.2.2.2.2)
       refine ⟨_, rfl, ?_⟩
       have n0_ := jM (Kd.R_below (tR HO_7.out) hb)
       have n1_ := jM (Kd.R_below (tR HO_8.out) hb)
       have n2_ := jM (jW (g := gb270) (o := .cells #[.slice A0_0 l0_0.length c0_0, .slice A0_1 l0_1.length c0_1, .slice A0_2 l0_2.length c0_2, .slice A0_3 l0_3.length c0_3, .int .i64 a0_4] 27 (0, 0)) (tK BK270.out) hb)
       have n3_ := jM (jT (by repeat (first | (with_reducible first | exact HB.out | apply jA | apply jN | apply jD | refine jS ?_ GE270.out) | exact HB.out)) hb)
       clear HO_7 HO_8 BK270 HB
       have HO_7 := n0_
       have HO_8 := n1_
       have BK270 := n2_
       have HB := n3_
       clear n0_ n1_ n2_ n3_
       (try clear hb)
       (try clear hb2)
       (try clear hk)
       (try clear hi)
       refine hK.out _ _ ⟨(jC BK270.out 0).trans rfl, (jC BK270.out 1).trans rfl, (jC BK270.out 2).trans rfl, (jC BK270.out 3).trans rfl, (jC BK270.out 4).trans rfl, HS5_, HS6_⟩ (fun hHeld => ?_)
       clear hK K
       refine nU (N:=some 27) ?_
       refine pU (i:=6) (N:=some 21) (tf 7 4) HT_ ?_
       refine pU (i:=7) (N:=some 28) (tf 8 3) HT_ ?_
       refine pU (i:=8) (N:=some 29) (tf 9 2) HT_ ?_
       refine pU (i:=9) (N:=some 10) (tf 10 1) HT_ ?_
       refine pU (i:=10) (N:=some 11) (tf 11 0) HT_ ?_
       refine done_ (done_of HT_.out (by kernel_rfl)) ?_
       try go_wp2
       go_roundg k1
       case measure => have := HK1.out; omega
       case rel => exact ⟨(x7_1), (wrap64 (x9_1 + 1)), tZ, H', ⟨by have := HK1.out; omega⟩, ⟨tR HO_7.out⟩, ⟨tR HO_8.out⟩, ⟨tK BK270.out⟩, ⟨by repeat (first | (with_reducible first | exact HB.out | apply jA | apply jN | apply jD | refine jS ?_ GE270.out) | exact HB.out)⟩⟩
     ·replace c11 := Bool.eq_false_iff.mpr c11
      subst c11
      have H1 : (sr14_Step.l0 k1 a2 x7_1 t271 (wrap64 (x9_1 + 1)) l0_0 l0_1 l0_2 l0_3 a0_4) = some r := by rw [if_neg (show ¬ (false = true) by decide)] at H; exact H
      clear H
      have H := H1
      clear H1
      have H' := jM H
      clear H
      obtain ⟨Ao22, co22, eo22⟩ := Kd.R_slice HO_8.out
      subst eo22
      try go_wp2
      have n0_ := jM (Kd.R_drew HO_7.out)
      have n1_ := jM (Kd.R_drew HO_8.out)
      have n2_ := jM (jZ BK270.out)
      have n3_ := jM (jD HB.out)
      clear HO_7 HO_8 BK270 HB
      have HO_7 := n0_
      have HO_8 := n1_
      have BK270 := n2_
      have HB := n3_
      clear n0_ n1_ n2_ n3_
      have p274 : 0 ≤ (x9_1 : Int) := of_decide_eq_true tD
      have q274 : x9_1 < (t271.length : Int) := of_decide_eq_true tD
      obtain ⟨ad274, e274, hx274_0, hx274_1⟩ := at_T39 (Kd.R_reads' HO_8.out).2.2 x9_1 p274 q274
      cases e274
      replace p274 := eq_true p274
      replace q274 := eq_true q274
      refine start_ (n := 11) (S := fun w' => w'.cell? ⟨gb270, 0, none⟩ = some (.slice A0_0 l0_0.length c0_0) ∧ w'.cell? ⟨gb270, 1, none⟩ = some (.slice A0_1 l0_1.length c0_1) ∧ w'.cell? ⟨gb270, 2, none⟩ = some (.slice A0_2 l0_2.length c0_2) ∧ w'.cell? ⟨gb270, 3, none⟩ = some (.slice A0_3 l0_3.length c0_3) ∧ w'.cell? ⟨gb270, 4, none⟩ = some (.int .i64 a0_4) ∧ w'.cell? (ad274.add ((x9_1).toNat * 2)) = some (.int .i64 ((rd_T39 t271 x9_1).f0)) ∧ w'.cell? ⟨(ad274.add ((x9_1).toNat * 2)).block, (ad274.add ((x9_1).toNat * 2)).off + 1, none⟩ = some (.int .i64 ((rd_T39 t271 x9_1).f1))) (ds := []) (tf 0 11) (by kernel_rfl) rfl rfl ⟨(jC BK270.out 0).trans rfl, (jC BK270.out 1).trans rfl, (jC BK270.out 2).trans rfl, (jC BK270.out 3).trans rfl, (jC BK270.out 4).trans rfl, hx274_0, hx274_1⟩ (fun hHeld => ?_); refine with_tabW sr14_Step.tab6 sr14_Step.bits6 (fun HT_ HW_ => ?_)
      generalize wr.drew = w23 at HO_7 HO_8 BK270 HB hx274_0 hx274_1 hHeld ⊢
      refine pU (i:=1) (N:=some 23) #[false, true, false, false, false, false, false, false, false, false, false] HT_ ?_
      refine pU (i:=2) (N:=some 24) #[false, true, true, false, false, false, false, false, false, false, false] HT_ ?_
      refine pU (i:=3) (N:=some 25) #[false, true, true, true, false, false, false, false, false, false, false] HT_ ?_
      refine tU (i:=0) (N:=some 22) (tf 4 7) HT_ HW_ hHeld ?_
      refine tU (i:=4) (N:=some 26) (tf 5 6) HT_ HW_ hHeld ?_
      refine one_ (i := 5) (N := some 27) (tf 6 5) rfl rfl (one_of HT_.out (by kernel_rfl)) (by decide) (fun K hK => ?_)
      refine goes_ Tryd.func16 (by kernel_rfl) rfl #[.agg #[.slice A0_0 l0_0.length c0_0, .slice A0_1 l0_1.length c0_1, .slice A0_2 l0_2.length c0_2, .slice A0_3 l0_3.length c0_3, .int .i64 a0_4], .agg #[.int .i64 ((rd_T39 t271 x9_1).f0), .int .i64 ((rd_T39 t271 x9_1).f1)]] (by rfl) rfl rfl tM ?_
      with_reducible refine (sr14_Behind.calls _ _ l0_0 _ _ l0_1 _ _ l0_2 _ _ l0_3 a0_4 ((rd_T39 t271 x9_1).f0) ((rd_T39 t271 x9_1).f1) t275 false _ ?side1 ?side2 ?side3 ?side4 ?side5 ?side6 ?side7 ?side8 A10.out).mono ?_
      (case side1 => exact tC (jB HR0_0.out HB.out))
      (case side2 => exact HC0_0.out)
      (case side3 => exact tC (jB HR0_1.out HB.out))
      (case side4 => exact HC0_1.out)
      (case side5 => exact tC (jB HR0_2.out HB.out))
      (case side6 => exact HC0_2.out)
      (case side7 => exact tC (jB HR0_3.out HB.out))
      (case side8 => exact HC0_3.out)
      rintro e w24 ⟨rfl, hb⟩
      have HS5_ := (hb.cell (jL _ _ (hHeld.2.2.2.2.2.1))).trans (hHeld.2.2.2.2.2.1)
      have HS6_ := (hb.cell (jL _ _ (hHeld.2.2.2.2.2.2))).trans (hHeld.2.2.2.2.2.2)
      refine ⟨_, rfl, ?_⟩
      have n0_ := jM (Kd.R_below (tR HO_7.out) hb)
      have n1_ := jM (Kd.R_below (tR HO_8.out) hb)
      have n2_ := jM (jW (g := gb270) (o := .cells #[.slice A0_0 l0_0.length c0_0, .slice A0_1 l0_1.length c0_1, .slice A0_2 l0_2.length c0_2, .slice A0_3 l0_3.length c0_3, .int .i64 a0_4] 27 (0, 0)) (tK BK270.out) hb)
      have n3_ := jM (jT (by repeat (first | (with_reducible first | exact HB.out | apply jA | apply jN | apply jD | refine jS ?_ GE270.out) | exact HB.out)) hb)
      clear HO_7 HO_8 BK270 HB
      have HO_7 := n0_
      have HO_8 := n1_
      have BK270 := n2_
      have HB := n3_
      clear n0_ n1_ n2_ n3_
      (try clear hb)
      (try clear hb2)
      (try clear hk)
      (try clear hi)
      refine hK.out _ _ ⟨(jC BK270.out 0).trans rfl, (jC BK270.out 1).trans rfl, (jC BK270.out 2).trans rfl, (jC BK270.out 3).trans rfl, (jC BK270.out 4).trans rfl, HS5_, HS6_⟩ (fun hHeld => ?_)
      clear hK K
      refine nU (N:=some 27) ?_
      refine pU (i:=6) (N:=some 21) (tf 7 4) HT_ ?_
      refine pU (i:=7) (N:=some 28) (tf 8 3) HT_ ?_
      refine pU (i:=8) (N:=some 29) (tf 9 2) HT_ ?_
      refine pU (i:=9) (N:=some 10) (tf 10 1) HT_ ?_
      refine pU (i:=10) (N:=some 11) (tf 11 0) HT_ ?_
      refine done_ (done_of HT_.out (by kernel_rfl)) ?_
      try go_wp2
      go_roundg k1
      case measure => have := HK1.out; omega
      case rel => exact ⟨(x7_1), (wrap64 (x9_1 + 1)), tZ, H', ⟨by have := HK1.out; omega⟩, ⟨tR HO_7.out⟩, ⟨tR HO_8.out⟩, ⟨tK BK270.out⟩, ⟨by repeat (first | (with_reducible first | exact HB.out | apply jA | apply jN | apply jD | refine jS ?_ GE270.out) | exact HB.out)⟩⟩
    ·rw [if_neg c9] at H
     exact absurd H (by simp)
   ·rw [if_neg c8] at H
    have c8b0 : decide (x9_1 < (t271.length : Int)) = false := decide_eq_false c8
    clear c8
    replace H := Option.bind_eq_some_iff.mp H
    obtain ⟨t282, A250, H⟩ := H
    replace H : (some t282) = some r := H
    have A25 := jM A250
    clear A250
    obtain rfl := Option.some.inj H
    obtain ⟨Ao26, co26, eo26⟩ := Kd.R_slice HO_8.out
    subst eo26
    obtain ⟨Ao27, co27, eo27⟩ := Kd.R_slice HO_7.out
    subst eo27
    go_wp2_with (first | ((with_reducible refine gate_callee (f := 40) rfl ?_); refine goesL_ (some 52) rfl rfl Tryd.func40 (by kernel_rfl) rfl #[.slice Ao27 x7_1.length co27] rfl tM ?_; (with_reducible refine (sr14_rising.calls k1 _ _ x7_1 t282 _ ?side1 ?side2 A25.out).mono ?_); (case side1 => exact tC (Kd.R_reads' HO_7.out).2.2); (case side2 => exact (Kd.R_reads' HO_7.out).2.1); rintro e w28 ⟨v283, rfl, ho0, hb⟩; refine ⟨_, rfl, ?_⟩; have n0_ := jM (Kd.R_elder' (tR HO_7.out) (Kd.R_base ho0) hb); have n1_ := jM (Kd.R_elder' (tR HO_8.out) (Kd.R_base ho0) hb); have n2_ := jM (Kd.R_lower (Kd.R_new' (Kd.R_new' ho0 (Kd.R_lt (tR HO_7.out))) (Kd.R_lt (tR HO_8.out))) (below_size (by repeat (first | (with_reducible first | exact HB.out | apply jA | apply jN | apply jD | refine jS ?_ GE270.out) | exact HB.out)))); have n3_ := jM (jW (g := gb270) (o := .cells #[.slice A0_0 l0_0.length c0_0, .slice A0_1 l0_1.length c0_1, .slice A0_2 l0_2.length c0_2, .slice A0_3 l0_3.length c0_3, .int .i64 a0_4] 27 (0, 0)) (tK BK270.out) hb); have n4_ := jM (jT (by repeat (first | (with_reducible first | exact HB.out | apply jA | apply jN | apply jD | refine jS ?_ GE270.out) | exact HB.out)) hb); clear HO_7; clear HO_8; clear BK270; clear HB; have HO_7 := n0_; have HO_8 := n1_; have HO284 := n2_; have BK270 := n3_; have HB := n4_; clear n0_ n1_ n2_ n3_ n4_; (try clear hb); (try clear hb2); (try clear hk); (try clear hi); (try clear ho0)))
    go_ret
    exact ⟨_, by first | rfl | (simp [errW_none, errW_some] <;> rfl) | (simp [*, errW_none, errW_some] <;> rfl), by (with_reducible repeat (first | apply Kd.R_alloc | apply Kd.R_drewN | apply Kd.R_drew)); exact Kd.R_mono HO284.out (fun _ hk => trivial), by repeat (first | (with_reducible first | exact HB.out | apply jA | apply jN | apply jD | refine jS ?_ GE270.out) | exact HB.out)⟩

end Go.Proofs.YtclollnicbcooaaDoor.P
end
