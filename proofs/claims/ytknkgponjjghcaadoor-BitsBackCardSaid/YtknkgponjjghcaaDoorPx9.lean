/- Functions of the given program as plain Lean functions, each with the proof that its call comes to that function's answer (conditions: the hypotheses of each '.calls'). Printed by wip/tools/pw.py, a wrapper round the kit's print. -/
import Derived.Test.YtknkgponjjghcaaDoorPx0
import Derived.Test.YtknkgponjjghcaaDoorPx1
import Derived.Test.YtknkgponjjghcaaDoorPx2
namespace Go.Proofs.YtknkgponjjghcaaDoor.P
open Go.RowKit Go.Proofs.YtknkgponjjghcaaDoorW.PrintWords Go.Proofs.YtknkgponjjghcaaDoorW.PrintLast Go.Proofs.YtknkgponjjghcaaDoorW.PrintMore
attribute [local go_sem] max2_int min2_int max_two min_two max_three min_three max_four min_four   -- for this text's walks alone
set_option linter.unusedVariables false
set_option linter.unusedSimpArgs false

/-! ### syntagmlaw01_BitsBack: function 6 -/
def syntagmlaw01_BitsBack.j0 : Nat → Int → Int → Bool → Int → Int → Bool → Option (Bool)
  | 0, _, _, _, _, _, _ => none
  | k + 1, x0, x1, x5, x6, x7, x24 => if x24 = true then (if x5 = true then (if x6 = x0 then (some (x7 == x0)) else (some false)) else (some false)) else ((bits_Has.f x0 x1).bind fun t252 => ((bits_Count.f x6).bind fun t253 => ((bits_Count.f x7).bind fun t254 => (if x5 = true then ((bits_Without.f x6 x1).bind fun t255 => (if t255 = x7 then ((bits_With.f x7 x1).bind fun t256 => (if t256 = x6 then (if (wrap64 (t253 - t254)) = 1 then (if t252 = true then (if x6 = x0 then ((bits_With.f x6 x1).bind fun t257 => (some (t257 == x6))) else (some false)) else (if x7 = x0 then ((bits_With.f x6 x1).bind fun t258 => (some (t258 == x6))) else (some false))) else (some false)) else (some false))) else (some false))) else (some false)))))
def syntagmlaw01_BitsBack.f (k : Nat) (a0 : Int) (a1 : Int) : Option (Bool) := (syntagmlaw01_works.f k).bind fun t249 => (if t249 = true then ((bits_With.f a0 a1).bind fun t250 => ((bits_Without.f a0 a1).bind fun t251 => (if a1 < 0 then (syntagmlaw01_BitsBack.j0 k a0 a1 t249 t250 t251 true) else (syntagmlaw01_BitsBack.j0 k a0 a1 t249 t250 t251 (decide (a1 > 63)))))) else (some false))
theorem syntagmlaw01_BitsBack.mono_l : ∀ k, (∀ y0 y1 y2 y3 y4 y5, LeO (syntagmlaw01_BitsBack.j0 k y0 y1 y2 y3 y4 y5) (syntagmlaw01_BitsBack.j0 (k + 1) y0 y1 y2 y3 y4 y5))
  | 0 => fun _ _ _ _ _ _ r h => by simp [syntagmlaw01_BitsBack.j0] at h
  | k + 1 => by
    have ih0 := syntagmlaw01_BitsBack.mono_l k
    · intro y0 y1 y2 y3 y4 y5
      unfold syntagmlaw01_BitsBack.j0
      repeat' first
      | (with_reducible exact ih0 _ _ _ _ _ _)
      | (with_reducible exact syntagmlaw01_works.mono _)
      | (with_reducible exact LeO.refl _)
      | (with_reducible exact LeO.none _)
      | (with_reducible refine LeO.ite ?_ ?_)
      | (with_reducible refine LeO.bind ?_ (fun _ => ?_))
      | exact ih0 _ _ _ _ _ _
      | exact syntagmlaw01_works.mono _
      | exact LeO.none _
      | refine LeO.ite ?_ ?_
      | refine LeO.bind ?_ (fun _ => ?_)
theorem syntagmlaw01_BitsBack.mono : ∀ a0 a1 k, LeO (syntagmlaw01_BitsBack.f k a0 a1) (syntagmlaw01_BitsBack.f (k + 1) a0 a1) := by
  intro a0 a1 k
  have ih0 := syntagmlaw01_BitsBack.mono_l k
  unfold syntagmlaw01_BitsBack.f
  repeat' first
      | (with_reducible exact ih0 _ _ _ _ _ _)
      | (with_reducible exact syntagmlaw01_works.mono _)
      | (with_reducible exact LeO.refl _)
      | (with_reducible exact LeO.none _)
      | (with_reducible refine LeO.ite ?_ ?_)
      | (with_reducible refine LeO.bind ?_ (fun _ => ?_))
      | exact ih0 _ _ _ _ _ _
      | exact syntagmlaw01_works.mono _
      | exact LeO.none _
      | refine LeO.ite ?_ ?_
      | refine LeO.bind ?_ (fun _ => ?_)
set_option maxHeartbeats 8000000 in
set_option maxRecDepth 100000 in
theorem syntagmlaw01_BitsBack.calls (k : Nat) (a0 : Int) (a1 : Int) (r : Bool) (w : World) (hG : GTab w) (h : syntagmlaw01_BitsBack.f k a0 a1 = some r) :
    Calls Tryd.prog 6 #[.int .u64 a0, .int .i64 a1] w fun e w' => e = .returned (.bool r) ∧ Below w.heap.size w w' := by
  have HG := Aside0.mk hG
  clear hG
  have HB := Aside0.mk (Below.refl w.heap.size w)
  have H : ((syntagmlaw01_works.f k).bind fun t249 => (if t249 = true then ((bits_With.f a0 a1).bind fun t250 => ((bits_Without.f a0 a1).bind fun t251 => (if a1 < 0 then (syntagmlaw01_BitsBack.j0 k a0 a1 t249 t250 t251 true) else (syntagmlaw01_BitsBack.j0 k a0 a1 t249 t250 t251 (decide (a1 > 63)))))) else (some false))) = some r := h
  clear h
  replace H := Option.bind_eq_some_iff.mp H
  obtain ⟨t249, A30, H⟩ := H
  replace H : (if t249 = true then ((bits_With.f a0 a1).bind fun t250 => ((bits_Without.f a0 a1).bind fun t251 => (if a1 < 0 then (syntagmlaw01_BitsBack.j0 k a0 a1 t249 t250 t251 true) else (syntagmlaw01_BitsBack.j0 k a0 a1 t249 t250 t251 (decide (a1 > 63)))))) else (some false)) = some r := H
  have A3 := Aside0.mk A30
  clear A30
  by_cases c4 : t249 = true
  · subst c4
    have H1 : ((bits_With.f a0 a1).bind fun t250 => ((bits_Without.f a0 a1).bind fun t251 => (if a1 < 0 then (syntagmlaw01_BitsBack.j0 k a0 a1 true t250 t251 true) else (syntagmlaw01_BitsBack.j0 k a0 a1 true t250 t251 (decide (a1 > 63)))))) = some r := by rw [if_pos rfl] at H; exact H
    clear H
    have H := H1
    clear H1
    replace H := Option.bind_eq_some_iff.mp H
    obtain ⟨t250, A50, H⟩ := H
    replace H : ((bits_Without.f a0 a1).bind fun t251 => (if a1 < 0 then (syntagmlaw01_BitsBack.j0 k a0 a1 true t250 t251 true) else (syntagmlaw01_BitsBack.j0 k a0 a1 true t250 t251 (decide (a1 > 63))))) = some r := H
    have A5 := Aside0.mk A50
    clear A50
    replace H := Option.bind_eq_some_iff.mp H
    obtain ⟨t251, A60, H⟩ := H
    replace H : (if a1 < 0 then (syntagmlaw01_BitsBack.j0 k a0 a1 true t250 t251 true) else (syntagmlaw01_BitsBack.j0 k a0 a1 true t250 t251 (decide (a1 > 63)))) = some r := H
    have A6 := Aside0.mk A60
    clear A60
    have HC7 := Aside0.mk H
    clear H
    go_enter Tryd.func6, Tryd.ntmps6
    go_upto_region 6 with (first | ((with_reducible refine gate_callee (f := 8) rfl ?_); refine goesL_ (some 10) rfl rfl Tryd.func8 (by kernel_rfl) rfl #[] rfl (by (try simp only [List.map_toArray, List.map_cons, List.map_nil]); first | done | rfl | (simp only [List.length_drop, List.length_take]; rfl)) ?_; (with_reducible refine (syntagmlaw01_works.calls k  true _ ?side1 A3.out).mono ?_); (case side1 => exact GTab.below HG.out (by repeat (first | (with_reducible first | exact HB.out | apply below_alloc | apply pw_below_drewN | apply below_drew1) | exact HB.out))); rintro e w8 ⟨rfl, hb⟩; refine ⟨_, rfl, ?_⟩; have n0_ := Aside0.mk (below_step (by repeat (first | (with_reducible first | exact HB.out | apply below_alloc | apply pw_below_drewN | apply below_drew1) | exact HB.out)) hb); clear HB; have HB := n0_; clear n0_; (try clear hb); (try clear hb2); (try clear hk); (try clear hi)) | ((with_reducible refine gate_callee (f := 25) rfl ?_); refine goesL_ (some 15) rfl rfl Tryd.func25 (by kernel_rfl) rfl #[.int .u64 a0, .int .i64 a1] rfl (by (try simp only [List.map_toArray, List.map_cons, List.map_nil]); first | done | rfl | (simp only [List.length_drop, List.length_take]; rfl)) ?_; (with_reducible refine (bits_With.calls a0 a1 t250 _ A5.out).mono ?_); rintro e w' ⟨rfl, ⟨nd, rfl⟩⟩; refine ⟨_, rfl, ?_⟩) | ((with_reducible refine gate_callee (f := 26) rfl ?_); refine goesL_ (some 18) rfl rfl Tryd.func26 (by kernel_rfl) rfl #[.int .u64 a0, .int .i64 a1] rfl (by (try simp only [List.map_toArray, List.map_cons, List.map_nil]); first | done | rfl | (simp only [List.length_drop, List.length_take]; rfl)) ?_; (with_reducible refine (bits_Without.calls a0 a1 t251 _ A6.out).mono ?_); rintro e w' ⟨rfl, ⟨nd, rfl⟩⟩; refine ⟨_, rfl, ?_⟩))
    (try simp only [Act.put, List.setIfInBounds_toArray, List.set_cons_zero, List.set_cons_succ])
    go_cut [24] (fun v24 wc => ∃ (kq : Nat) (x24_6 : Bool), v24 = .bool x24_6 ∧ Aside0 (syntagmlaw01_BitsBack.j0 kq a0 a1 true t250 t251 x24_6 = some r) ∧ Aside0 (kq ≤ k) ∧ Aside0 (Below w.heap.size w wc))
    case first =>
      have H := HC7.out
      clear HC7
      by_cases c9 : a1 < 0
      · rw [if_pos c9] at H
        have c9b0 : decide (a1 < 0) = true := decide_eq_true c9
        clear c9
        (first | rw [c9b0] | (simp only [i64_w, i32_w]; rw [c9b0]) | skip)
        have H' := Aside0.mk H
        clear H
        go_wp2
        go_meet
        case rel => exact ⟨_, (true), (by first | rfl | (simp; done) | (simp [*]; done)), H', ⟨by first | omega | exact Nat.le_refl _⟩, ⟨by repeat (first | (with_reducible first | exact HB.out | apply below_alloc | apply pw_below_drewN | apply below_drew1) | exact HB.out)⟩⟩
      · rw [if_neg c9] at H
        have c9b0 : decide (a1 < 0) = false := decide_eq_false c9
        clear c9
        (first | rw [c9b0] | (simp only [i64_w, i32_w]; rw [c9b0]) | skip)
        have H' := Aside0.mk H
        clear H
        go_wp2
        go_meet
        case rel => exact ⟨_, (decide (a1 > 63)), (by first | rfl | (simp; done) | (simp [*]; done)), H', ⟨by first | omega | exact Nat.le_refl _⟩, ⟨by repeat (first | (with_reducible first | exact HB.out | apply below_alloc | apply pw_below_drewN | apply below_drew1) | exact HB.out)⟩⟩
    case rest =>
      clear HC7
      try clear c2
      try clear p2
      try clear c4
      try clear c6
      try clear c8
      try clear c9
      try clear c9b0
      obtain ⟨kq, x24_6, rfl, HA, HJ6, HB⟩ := hcut
      cases kq with
      | zero => exact absurd HA.out (by simp [syntagmlaw01_BitsBack.j0])
      | succ kj6 =>
        have H := HA.out
        clear HA
        simp only [syntagmlaw01_BitsBack.j0] at H
        by_cases c10 : x24_6 = true
        · subst c10
          have H1 : (if true = true then (if t250 = a0 then (some (t251 == a0)) else (some false)) else (some false)) = some r := by rw [if_pos rfl] at H; exact H
          clear H
          have H := H1
          clear H1
          replace H : (if t250 = a0 then (some (t251 == a0)) else (some false)) = some r := by first | (rw [if_pos rfl] at H; exact H) | (rw [if_pos trivial] at H; exact H)
          by_cases c11 : t250 = a0
          · rw [if_pos c11] at H
            have c11b0 : (t250 == a0) = true := beq_iff_eq.mpr c11
            have c11b1 : (t250 != a0) = false := bne_eq_false_iff_eq.mpr c11
            clear c11
            obtain rfl := Option.some.inj H
            go_wp2
            go_ret
            exact ⟨by first | rfl | (simp [errW_none, errW_some] <;> rfl) | (simp [*, errW_none, errW_some] <;> rfl), by repeat (first | (with_reducible first | exact HB.out | apply below_alloc | apply pw_below_drewN | apply below_drew1) | exact HB.out)⟩
          · rw [if_neg c11] at H
            have c11b0 : (t250 == a0) = false := beq_eq_false_iff_ne.mpr c11
            have c11b1 : (t250 != a0) = true := bne_iff_ne.mpr c11
            obtain rfl := Option.some.inj H
            go_wp2
            go_ret
            exact ⟨by first | rfl | (simp [errW_none, errW_some] <;> rfl) | (simp [*, errW_none, errW_some] <;> rfl), by repeat (first | (with_reducible first | exact HB.out | apply below_alloc | apply pw_below_drewN | apply below_drew1) | exact HB.out)⟩
        · replace c10 := Bool.eq_false_iff.mpr c10
          subst c10
          have H1 : ((bits_Has.f a0 a1).bind fun t252 => ((bits_Count.f t250).bind fun t253 => ((bits_Count.f t251).bind fun t254 => (if true = true then ((bits_Without.f t250 a1).bind fun t255 => (if t255 = t251 then ((bits_With.f t251 a1).bind fun t256 => (if t256 = t250 then (if (wrap64 (t253 - t254)) = 1 then (if t252 = true then (if t250 = a0 then ((bits_With.f t250 a1).bind fun t257 => (some (t257 == t250))) else (some false)) else (if t251 = a0 then ((bits_With.f t250 a1).bind fun t258 => (some (t258 == t250))) else (some false))) else (some false)) else (some false))) else (some false))) else (some false))))) = some r := by rw [if_neg (show ¬ (false = true) by decide)] at H; exact H
          clear H
          have H := H1
          clear H1
          replace H := Option.bind_eq_some_iff.mp H
          obtain ⟨t252, A120, H⟩ := H
          replace H : ((bits_Count.f t250).bind fun t253 => ((bits_Count.f t251).bind fun t254 => (if true = true then ((bits_Without.f t250 a1).bind fun t255 => (if t255 = t251 then ((bits_With.f t251 a1).bind fun t256 => (if t256 = t250 then (if (wrap64 (t253 - t254)) = 1 then (if t252 = true then (if t250 = a0 then ((bits_With.f t250 a1).bind fun t257 => (some (t257 == t250))) else (some false)) else (if t251 = a0 then ((bits_With.f t250 a1).bind fun t258 => (some (t258 == t250))) else (some false))) else (some false)) else (some false))) else (some false))) else (some false)))) = some r := H
          have A12 := Aside0.mk A120
          clear A120
          replace H := Option.bind_eq_some_iff.mp H
          obtain ⟨t253, A130, H⟩ := H
          replace H : ((bits_Count.f t251).bind fun t254 => (if true = true then ((bits_Without.f t250 a1).bind fun t255 => (if t255 = t251 then ((bits_With.f t251 a1).bind fun t256 => (if t256 = t250 then (if (wrap64 (t253 - t254)) = 1 then (if t252 = true then (if t250 = a0 then ((bits_With.f t250 a1).bind fun t257 => (some (t257 == t250))) else (some false)) else (if t251 = a0 then ((bits_With.f t250 a1).bind fun t258 => (some (t258 == t250))) else (some false))) else (some false)) else (some false))) else (some false))) else (some false))) = some r := H
          have A13 := Aside0.mk A130
          clear A130
          replace H := Option.bind_eq_some_iff.mp H
          obtain ⟨t254, A140, H⟩ := H
          replace H : (if true = true then ((bits_Without.f t250 a1).bind fun t255 => (if t255 = t251 then ((bits_With.f t251 a1).bind fun t256 => (if t256 = t250 then (if (wrap64 (t253 - t254)) = 1 then (if t252 = true then (if t250 = a0 then ((bits_With.f t250 a1).bind fun t257 => (some (t257 == t250))) else (some false)) else (if t251 = a0 then ((bits_With.f t250 a1).bind fun t258 => (some (t258 == t250))) else (some false))) else (some false)) else (some false))) else (some false))) else (some false)) = some r := H
          have A14 := Aside0.mk A140
          clear A140
          replace H : ((bits_Without.f t250 a1).bind fun t255 => (if t255 = t251 then ((bits_With.f t251 a1).bind fun t256 => (if t256 = t250 then (if (wrap64 (t253 - t254)) = 1 then (if t252 = true then (if t250 = a0 then ((bits_With.f t250 a1).bind fun t257 => (some (t257 == t250))) else (some false)) else (if t251 = a0 then ((bits_With.f t250 a1).bind fun t258 => (some (t258 == t250))) else (some false))) else (some false)) else (some false))) else (some false))) = some r := by first | (rw [if_pos rfl] at H; exact H) | (rw [if_pos trivial] at H; exact H)
          replace H := Option.bind_eq_some_iff.mp H
          obtain ⟨t255, A150, H⟩ := H
          replace H : (if t255 = t251 then ((bits_With.f t251 a1).bind fun t256 => (if t256 = t250 then (if (wrap64 (t253 - t254)) = 1 then (if t252 = true then (if t250 = a0 then ((bits_With.f t250 a1).bind fun t257 => (some (t257 == t250))) else (some false)) else (if t251 = a0 then ((bits_With.f t250 a1).bind fun t258 => (some (t258 == t250))) else (some false))) else (some false)) else (some false))) else (some false)) = some r := H
          have A15 := Aside0.mk A150
          clear A150
          by_cases c16 : t255 = t251
          · rw [if_pos c16] at H
            have c16b0 : (t255 == t251) = true := beq_iff_eq.mpr c16
            have c16b1 : (t255 != t251) = false := bne_eq_false_iff_eq.mpr c16
            clear c16
            replace H := Option.bind_eq_some_iff.mp H
            obtain ⟨t256, A170, H⟩ := H
            replace H : (if t256 = t250 then (if (wrap64 (t253 - t254)) = 1 then (if t252 = true then (if t250 = a0 then ((bits_With.f t250 a1).bind fun t257 => (some (t257 == t250))) else (some false)) else (if t251 = a0 then ((bits_With.f t250 a1).bind fun t258 => (some (t258 == t250))) else (some false))) else (some false)) else (some false)) = some r := H
            have A17 := Aside0.mk A170
            clear A170
            by_cases c18 : t256 = t250
            · rw [if_pos c18] at H
              have c18b0 : (t256 == t250) = true := beq_iff_eq.mpr c18
              have c18b1 : (t256 != t250) = false := bne_eq_false_iff_eq.mpr c18
              clear c18
              by_cases c19 : (wrap64 (t253 - t254)) = 1
              · rw [if_pos c19] at H
                have c19b0 : ((wrap64 (t253 - t254)) == 1) = true := beq_iff_eq.mpr c19
                have c19b1 : ((wrap64 (t253 - t254)) != 1) = false := bne_eq_false_iff_eq.mpr c19
                clear c19
                by_cases c20 : t252 = true
                · subst c20
                  have H1 : (if t250 = a0 then ((bits_With.f t250 a1).bind fun t257 => (some (t257 == t250))) else (some false)) = some r := by rw [if_pos rfl] at H; exact H
                  clear H
                  have H := H1
                  clear H1
                  by_cases c21 : t250 = a0
                  · rw [if_pos c21] at H
                    have c21b0 : (t250 == a0) = true := beq_iff_eq.mpr c21
                    have c21b1 : (t250 != a0) = false := bne_eq_false_iff_eq.mpr c21
                    clear c21
                    replace H := Option.bind_eq_some_iff.mp H
                    obtain ⟨t257, A220, H⟩ := H
                    replace H : (some (t257 == t250)) = some r := H
                    have A22 := Aside0.mk A220
                    clear A220
                    obtain rfl := Option.some.inj H
                    go_wp2_with (first | ((with_reducible refine gate_callee (f := 14) rfl ?_); refine goesL_ (some 38) rfl rfl Tryd.func14 (by kernel_rfl) rfl #[.int .u64 a0, .int .i64 a1] rfl (by (try simp only [List.map_toArray, List.map_cons, List.map_nil]); first | done | rfl | (simp only [List.length_drop, List.length_take]; rfl)) ?_; (with_reducible refine (bits_Has.calls a0 a1 true _ A12.out).mono ?_); rintro e w' ⟨rfl, ⟨nd, rfl⟩⟩; refine ⟨_, rfl, ?_⟩) | ((with_reducible refine gate_callee (f := 16) rfl ?_); refine goesL_ (some 40) rfl rfl Tryd.func16 (by kernel_rfl) rfl #[.int .u64 t250] rfl (by (try simp only [List.map_toArray, List.map_cons, List.map_nil]); first | done | rfl | (simp only [List.length_drop, List.length_take]; rfl)) ?_; (with_reducible refine (bits_Count.calls t250 t253 _ A13.out).mono ?_); rintro e w' ⟨rfl, ⟨nd, rfl⟩⟩; refine ⟨_, rfl, ?_⟩) | ((with_reducible refine gate_callee (f := 16) rfl ?_); refine goesL_ (some 42) rfl rfl Tryd.func16 (by kernel_rfl) rfl #[.int .u64 t251] rfl (by (try simp only [List.map_toArray, List.map_cons, List.map_nil]); first | done | rfl | (simp only [List.length_drop, List.length_take]; rfl)) ?_; (with_reducible refine (bits_Count.calls t251 t254 _ A14.out).mono ?_); rintro e w' ⟨rfl, ⟨nd, rfl⟩⟩; refine ⟨_, rfl, ?_⟩) | (go_at_call 26; (with_reducible refine (bits_Without.calls t250 a1 t255 _ A15.out).mono ?_); rintro e w' ⟨rfl, ⟨nd, rfl⟩⟩) | (go_at_call 25; (with_reducible refine (bits_With.calls t251 a1 t256 _ A17.out).mono ?_); rintro e w' ⟨rfl, ⟨nd, rfl⟩⟩) | (go_at_call 25; (with_reducible refine (bits_With.calls t250 a1 t257 _ A22.out).mono ?_); rintro e w' ⟨rfl, ⟨nd, rfl⟩⟩))
                    go_ret
                    exact ⟨by first | rfl | (simp [errW_none, errW_some] <;> rfl) | (simp [*, errW_none, errW_some] <;> rfl), by repeat (first | (with_reducible first | exact HB.out | apply below_alloc | apply pw_below_drewN | apply below_drew1) | exact HB.out)⟩
                  · rw [if_neg c21] at H
                    have c21b0 : (t250 == a0) = false := beq_eq_false_iff_ne.mpr c21
                    have c21b1 : (t250 != a0) = true := bne_iff_ne.mpr c21
                    obtain rfl := Option.some.inj H
                    go_wp2_with (first | ((with_reducible refine gate_callee (f := 14) rfl ?_); refine goesL_ (some 38) rfl rfl Tryd.func14 (by kernel_rfl) rfl #[.int .u64 a0, .int .i64 a1] rfl (by (try simp only [List.map_toArray, List.map_cons, List.map_nil]); first | done | rfl | (simp only [List.length_drop, List.length_take]; rfl)) ?_; (with_reducible refine (bits_Has.calls a0 a1 true _ A12.out).mono ?_); rintro e w' ⟨rfl, ⟨nd, rfl⟩⟩; refine ⟨_, rfl, ?_⟩) | ((with_reducible refine gate_callee (f := 16) rfl ?_); refine goesL_ (some 40) rfl rfl Tryd.func16 (by kernel_rfl) rfl #[.int .u64 t250] rfl (by (try simp only [List.map_toArray, List.map_cons, List.map_nil]); first | done | rfl | (simp only [List.length_drop, List.length_take]; rfl)) ?_; (with_reducible refine (bits_Count.calls t250 t253 _ A13.out).mono ?_); rintro e w' ⟨rfl, ⟨nd, rfl⟩⟩; refine ⟨_, rfl, ?_⟩) | ((with_reducible refine gate_callee (f := 16) rfl ?_); refine goesL_ (some 42) rfl rfl Tryd.func16 (by kernel_rfl) rfl #[.int .u64 t251] rfl (by (try simp only [List.map_toArray, List.map_cons, List.map_nil]); first | done | rfl | (simp only [List.length_drop, List.length_take]; rfl)) ?_; (with_reducible refine (bits_Count.calls t251 t254 _ A14.out).mono ?_); rintro e w' ⟨rfl, ⟨nd, rfl⟩⟩; refine ⟨_, rfl, ?_⟩) | (go_at_call 26; (with_reducible refine (bits_Without.calls t250 a1 t255 _ A15.out).mono ?_); rintro e w' ⟨rfl, ⟨nd, rfl⟩⟩) | (go_at_call 25; (with_reducible refine (bits_With.calls t251 a1 t256 _ A17.out).mono ?_); rintro e w' ⟨rfl, ⟨nd, rfl⟩⟩))
                    go_ret
                    exact ⟨by first | rfl | (simp [errW_none, errW_some] <;> rfl) | (simp [*, errW_none, errW_some] <;> rfl), by repeat (first | (with_reducible first | exact HB.out | apply below_alloc | apply pw_below_drewN | apply below_drew1) | exact HB.out)⟩
                · replace c20 := Bool.eq_false_iff.mpr c20
                  subst c20
                  have H1 : (if t251 = a0 then ((bits_With.f t250 a1).bind fun t258 => (some (t258 == t250))) else (some false)) = some r := by rw [if_neg (show ¬ (false = true) by decide)] at H; exact H
                  clear H
                  have H := H1
                  clear H1
                  by_cases c23 : t251 = a0
                  · rw [if_pos c23] at H
                    have c23b0 : (t251 == a0) = true := beq_iff_eq.mpr c23
                    have c23b1 : (t251 != a0) = false := bne_eq_false_iff_eq.mpr c23
                    clear c23
                    replace H := Option.bind_eq_some_iff.mp H
                    obtain ⟨t258, A240, H⟩ := H
                    replace H : (some (t258 == t250)) = some r := H
                    have A24 := Aside0.mk A240
                    clear A240
                    obtain rfl := Option.some.inj H
                    go_wp2_with (first | ((with_reducible refine gate_callee (f := 14) rfl ?_); refine goesL_ (some 38) rfl rfl Tryd.func14 (by kernel_rfl) rfl #[.int .u64 a0, .int .i64 a1] rfl (by (try simp only [List.map_toArray, List.map_cons, List.map_nil]); first | done | rfl | (simp only [List.length_drop, List.length_take]; rfl)) ?_; (with_reducible refine (bits_Has.calls a0 a1 false _ A12.out).mono ?_); rintro e w' ⟨rfl, ⟨nd, rfl⟩⟩; refine ⟨_, rfl, ?_⟩) | ((with_reducible refine gate_callee (f := 16) rfl ?_); refine goesL_ (some 40) rfl rfl Tryd.func16 (by kernel_rfl) rfl #[.int .u64 t250] rfl (by (try simp only [List.map_toArray, List.map_cons, List.map_nil]); first | done | rfl | (simp only [List.length_drop, List.length_take]; rfl)) ?_; (with_reducible refine (bits_Count.calls t250 t253 _ A13.out).mono ?_); rintro e w' ⟨rfl, ⟨nd, rfl⟩⟩; refine ⟨_, rfl, ?_⟩) | ((with_reducible refine gate_callee (f := 16) rfl ?_); refine goesL_ (some 42) rfl rfl Tryd.func16 (by kernel_rfl) rfl #[.int .u64 t251] rfl (by (try simp only [List.map_toArray, List.map_cons, List.map_nil]); first | done | rfl | (simp only [List.length_drop, List.length_take]; rfl)) ?_; (with_reducible refine (bits_Count.calls t251 t254 _ A14.out).mono ?_); rintro e w' ⟨rfl, ⟨nd, rfl⟩⟩; refine ⟨_, rfl, ?_⟩) | (go_at_call 26; (with_reducible refine (bits_Without.calls t250 a1 t255 _ A15.out).mono ?_); rintro e w' ⟨rfl, ⟨nd, rfl⟩⟩) | (go_at_call 25; (with_reducible refine (bits_With.calls t251 a1 t256 _ A17.out).mono ?_); rintro e w' ⟨rfl, ⟨nd, rfl⟩⟩) | (go_at_call 25; (with_reducible refine (bits_With.calls t250 a1 t258 _ A24.out).mono ?_); rintro e w' ⟨rfl, ⟨nd, rfl⟩⟩))
                    go_ret
                    exact ⟨by first | rfl | (simp [errW_none, errW_some] <;> rfl) | (simp [*, errW_none, errW_some] <;> rfl), by repeat (first | (with_reducible first | exact HB.out | apply below_alloc | apply pw_below_drewN | apply below_drew1) | exact HB.out)⟩
                  · rw [if_neg c23] at H
                    have c23b0 : (t251 == a0) = false := beq_eq_false_iff_ne.mpr c23
                    have c23b1 : (t251 != a0) = true := bne_iff_ne.mpr c23
                    obtain rfl := Option.some.inj H
                    go_wp2_with (first | ((with_reducible refine gate_callee (f := 14) rfl ?_); refine goesL_ (some 38) rfl rfl Tryd.func14 (by kernel_rfl) rfl #[.int .u64 a0, .int .i64 a1] rfl (by (try simp only [List.map_toArray, List.map_cons, List.map_nil]); first | done | rfl | (simp only [List.length_drop, List.length_take]; rfl)) ?_; (with_reducible refine (bits_Has.calls a0 a1 false _ A12.out).mono ?_); rintro e w' ⟨rfl, ⟨nd, rfl⟩⟩; refine ⟨_, rfl, ?_⟩) | ((with_reducible refine gate_callee (f := 16) rfl ?_); refine goesL_ (some 40) rfl rfl Tryd.func16 (by kernel_rfl) rfl #[.int .u64 t250] rfl (by (try simp only [List.map_toArray, List.map_cons, List.map_nil]); first | done | rfl | (simp only [List.length_drop, List.length_take]; rfl)) ?_; (with_reducible refine (bits_Count.calls t250 t253 _ A13.out).mono ?_); rintro e w' ⟨rfl, ⟨nd, rfl⟩⟩; refine ⟨_, rfl, ?_⟩) | ((with_reducible refine gate_callee (f := 16) rfl ?_); refine goesL_ (some 42) rfl rfl Tryd.func16 (by kernel_rfl) rfl #[.int .u64 t251] rfl (by (try simp only [List.map_toArray, List.map_cons, List.map_nil]); first | done | rfl | (simp only [List.length_drop, List.length_take]; rfl)) ?_; (with_reducible refine (bits_Count.calls t251 t254 _ A14.out).mono ?_); rintro e w' ⟨rfl, ⟨nd, rfl⟩⟩; refine ⟨_, rfl, ?_⟩) | (go_at_call 26; (with_reducible refine (bits_Without.calls t250 a1 t255 _ A15.out).mono ?_); rintro e w' ⟨rfl, ⟨nd, rfl⟩⟩) | (go_at_call 25; (with_reducible refine (bits_With.calls t251 a1 t256 _ A17.out).mono ?_); rintro e w' ⟨rfl, ⟨nd, rfl⟩⟩))
                    go_ret
                    exact ⟨by first | rfl | (simp [errW_none, errW_some] <;> rfl) | (simp [*, errW_none, errW_some] <;> rfl), by repeat (first | (with_reducible first | exact HB.out | apply below_alloc | apply pw_below_drewN | apply below_drew1) | exact HB.out)⟩
              · rw [if_neg c19] at H
                have c19b0 : ((wrap64 (t253 - t254)) == 1) = false := beq_eq_false_iff_ne.mpr c19
                have c19b1 : ((wrap64 (t253 - t254)) != 1) = true := bne_iff_ne.mpr c19
                obtain rfl := Option.some.inj H
                go_wp2_with (first | ((with_reducible refine gate_callee (f := 14) rfl ?_); refine goesL_ (some 38) rfl rfl Tryd.func14 (by kernel_rfl) rfl #[.int .u64 a0, .int .i64 a1] rfl (by (try simp only [List.map_toArray, List.map_cons, List.map_nil]); first | done | rfl | (simp only [List.length_drop, List.length_take]; rfl)) ?_; (with_reducible refine (bits_Has.calls a0 a1 t252 _ A12.out).mono ?_); rintro e w' ⟨rfl, ⟨nd, rfl⟩⟩; refine ⟨_, rfl, ?_⟩) | ((with_reducible refine gate_callee (f := 16) rfl ?_); refine goesL_ (some 40) rfl rfl Tryd.func16 (by kernel_rfl) rfl #[.int .u64 t250] rfl (by (try simp only [List.map_toArray, List.map_cons, List.map_nil]); first | done | rfl | (simp only [List.length_drop, List.length_take]; rfl)) ?_; (with_reducible refine (bits_Count.calls t250 t253 _ A13.out).mono ?_); rintro e w' ⟨rfl, ⟨nd, rfl⟩⟩; refine ⟨_, rfl, ?_⟩) | ((with_reducible refine gate_callee (f := 16) rfl ?_); refine goesL_ (some 42) rfl rfl Tryd.func16 (by kernel_rfl) rfl #[.int .u64 t251] rfl (by (try simp only [List.map_toArray, List.map_cons, List.map_nil]); first | done | rfl | (simp only [List.length_drop, List.length_take]; rfl)) ?_; (with_reducible refine (bits_Count.calls t251 t254 _ A14.out).mono ?_); rintro e w' ⟨rfl, ⟨nd, rfl⟩⟩; refine ⟨_, rfl, ?_⟩) | (go_at_call 26; (with_reducible refine (bits_Without.calls t250 a1 t255 _ A15.out).mono ?_); rintro e w' ⟨rfl, ⟨nd, rfl⟩⟩) | (go_at_call 25; (with_reducible refine (bits_With.calls t251 a1 t256 _ A17.out).mono ?_); rintro e w' ⟨rfl, ⟨nd, rfl⟩⟩))
                go_ret
                exact ⟨by first | rfl | (simp [errW_none, errW_some] <;> rfl) | (simp [*, errW_none, errW_some] <;> rfl), by repeat (first | (with_reducible first | exact HB.out | apply below_alloc | apply pw_below_drewN | apply below_drew1) | exact HB.out)⟩
            · rw [if_neg c18] at H
              have c18b0 : (t256 == t250) = false := beq_eq_false_iff_ne.mpr c18
              have c18b1 : (t256 != t250) = true := bne_iff_ne.mpr c18
              obtain rfl := Option.some.inj H
              go_wp2_with (first | ((with_reducible refine gate_callee (f := 14) rfl ?_); refine goesL_ (some 38) rfl rfl Tryd.func14 (by kernel_rfl) rfl #[.int .u64 a0, .int .i64 a1] rfl (by (try simp only [List.map_toArray, List.map_cons, List.map_nil]); first | done | rfl | (simp only [List.length_drop, List.length_take]; rfl)) ?_; (with_reducible refine (bits_Has.calls a0 a1 t252 _ A12.out).mono ?_); rintro e w' ⟨rfl, ⟨nd, rfl⟩⟩; refine ⟨_, rfl, ?_⟩) | ((with_reducible refine gate_callee (f := 16) rfl ?_); refine goesL_ (some 40) rfl rfl Tryd.func16 (by kernel_rfl) rfl #[.int .u64 t250] rfl (by (try simp only [List.map_toArray, List.map_cons, List.map_nil]); first | done | rfl | (simp only [List.length_drop, List.length_take]; rfl)) ?_; (with_reducible refine (bits_Count.calls t250 t253 _ A13.out).mono ?_); rintro e w' ⟨rfl, ⟨nd, rfl⟩⟩; refine ⟨_, rfl, ?_⟩) | ((with_reducible refine gate_callee (f := 16) rfl ?_); refine goesL_ (some 42) rfl rfl Tryd.func16 (by kernel_rfl) rfl #[.int .u64 t251] rfl (by (try simp only [List.map_toArray, List.map_cons, List.map_nil]); first | done | rfl | (simp only [List.length_drop, List.length_take]; rfl)) ?_; (with_reducible refine (bits_Count.calls t251 t254 _ A14.out).mono ?_); rintro e w' ⟨rfl, ⟨nd, rfl⟩⟩; refine ⟨_, rfl, ?_⟩) | (go_at_call 26; (with_reducible refine (bits_Without.calls t250 a1 t255 _ A15.out).mono ?_); rintro e w' ⟨rfl, ⟨nd, rfl⟩⟩) | (go_at_call 25; (with_reducible refine (bits_With.calls t251 a1 t256 _ A17.out).mono ?_); rintro e w' ⟨rfl, ⟨nd, rfl⟩⟩))
              go_ret
              exact ⟨by first | rfl | (simp [errW_none, errW_some] <;> rfl) | (simp [*, errW_none, errW_some] <;> rfl), by repeat (first | (with_reducible first | exact HB.out | apply below_alloc | apply pw_below_drewN | apply below_drew1) | exact HB.out)⟩
          · rw [if_neg c16] at H
            have c16b0 : (t255 == t251) = false := beq_eq_false_iff_ne.mpr c16
            have c16b1 : (t255 != t251) = true := bne_iff_ne.mpr c16
            obtain rfl := Option.some.inj H
            go_wp2_with (first | ((with_reducible refine gate_callee (f := 14) rfl ?_); refine goesL_ (some 38) rfl rfl Tryd.func14 (by kernel_rfl) rfl #[.int .u64 a0, .int .i64 a1] rfl (by (try simp only [List.map_toArray, List.map_cons, List.map_nil]); first | done | rfl | (simp only [List.length_drop, List.length_take]; rfl)) ?_; (with_reducible refine (bits_Has.calls a0 a1 t252 _ A12.out).mono ?_); rintro e w' ⟨rfl, ⟨nd, rfl⟩⟩; refine ⟨_, rfl, ?_⟩) | ((with_reducible refine gate_callee (f := 16) rfl ?_); refine goesL_ (some 40) rfl rfl Tryd.func16 (by kernel_rfl) rfl #[.int .u64 t250] rfl (by (try simp only [List.map_toArray, List.map_cons, List.map_nil]); first | done | rfl | (simp only [List.length_drop, List.length_take]; rfl)) ?_; (with_reducible refine (bits_Count.calls t250 t253 _ A13.out).mono ?_); rintro e w' ⟨rfl, ⟨nd, rfl⟩⟩; refine ⟨_, rfl, ?_⟩) | ((with_reducible refine gate_callee (f := 16) rfl ?_); refine goesL_ (some 42) rfl rfl Tryd.func16 (by kernel_rfl) rfl #[.int .u64 t251] rfl (by (try simp only [List.map_toArray, List.map_cons, List.map_nil]); first | done | rfl | (simp only [List.length_drop, List.length_take]; rfl)) ?_; (with_reducible refine (bits_Count.calls t251 t254 _ A14.out).mono ?_); rintro e w' ⟨rfl, ⟨nd, rfl⟩⟩; refine ⟨_, rfl, ?_⟩) | (go_at_call 26; (with_reducible refine (bits_Without.calls t250 a1 t255 _ A15.out).mono ?_); rintro e w' ⟨rfl, ⟨nd, rfl⟩⟩))
            go_ret
            exact ⟨by first | rfl | (simp [errW_none, errW_some] <;> rfl) | (simp [*, errW_none, errW_some] <;> rfl), by repeat (first | (with_reducible first | exact HB.out | apply below_alloc | apply pw_below_drewN | apply below_drew1) | exact HB.out)⟩
  · replace c4 := Bool.eq_false_iff.mpr c4
    subst c4
    have H1 : (some false) = some r := by rw [if_neg (show ¬ (false = true) by decide)] at H; exact H
    clear H
    have H := H1
    clear H1
    obtain rfl := Option.some.inj H
    go_enter Tryd.func6, Tryd.ntmps6
    go_wp2_with (first | ((with_reducible refine gate_callee (f := 8) rfl ?_); refine goesL_ (some 10) rfl rfl Tryd.func8 (by kernel_rfl) rfl #[] rfl (by (try simp only [List.map_toArray, List.map_cons, List.map_nil]); first | done | rfl | (simp only [List.length_drop, List.length_take]; rfl)) ?_; (with_reducible refine (syntagmlaw01_works.calls k  false _ ?side1 A3.out).mono ?_); (case side1 => exact GTab.below HG.out (by repeat (first | (with_reducible first | exact HB.out | apply below_alloc | apply pw_below_drewN | apply below_drew1) | exact HB.out))); rintro e w25 ⟨rfl, hb⟩; refine ⟨_, rfl, ?_⟩; have n0_ := Aside0.mk (below_step (by repeat (first | (with_reducible first | exact HB.out | apply below_alloc | apply pw_below_drewN | apply below_drew1) | exact HB.out)) hb); clear HB; have HB := n0_; clear n0_; (try clear hb); (try clear hb2); (try clear hk); (try clear hi)))
    go_ret
    exact ⟨by first | rfl | (simp [errW_none, errW_some] <;> rfl) | (simp [*, errW_none, errW_some] <;> rfl), by repeat (first | (with_reducible first | exact HB.out | apply below_alloc | apply pw_below_drewN | apply below_drew1) | exact HB.out)⟩

end Go.Proofs.YtknkgponjjghcaaDoor.P
