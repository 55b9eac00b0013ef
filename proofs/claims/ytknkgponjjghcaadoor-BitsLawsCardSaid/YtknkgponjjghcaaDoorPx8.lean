/- Functions of the given program as plain Lean functions, each with the proof that its call comes to that function's answer (conditions: the hypotheses of each '.calls'). Printed by wip/tools/pw.py, a wrapper round the kit's print. -/
import Derived.Test.YtknkgponjjghcaaDoorPx0
import Derived.Test.YtknkgponjjghcaaDoorPx1
import Derived.Test.YtknkgponjjghcaaDoorPx2
namespace Go.Proofs.YtknkgponjjghcaaDoor.P
open Go.RowKit Go.Proofs.YtknkgponjjghcaaDoorW.PrintWords Go.Proofs.YtknkgponjjghcaaDoorW.PrintLast Go.Proofs.YtknkgponjjghcaaDoorW.PrintMore
attribute [local go_sem] max2_int min2_int max_two min_two max_three min_three max_four min_four   -- for this text's walks alone
set_option linter.unusedVariables false
set_option linter.unusedSimpArgs false

/-! ### syntagmlaw01_BitsLaws: function 5 -/
mutual
def syntagmlaw01_BitsLaws.j0 : Nat → Int → Int → Int → Bool → Int → Int → Bool → Option (Bool)
  | 0, _, _, _, _, _, _, _ => none
  | k + 1, x0, x1, x2, x7, x8, x9, x10 => (bits_Less.f x0 x1).bind fun t224 => ((bits_Union.f t224 x9).bind fun t225 => (if t225 = x0 then ((bits_Less.f x0 x1).bind fun t226 => ((bits_Meet.f t226 x1).bind fun t227 => (if t227 = 0 then ((bits_Meet.f x8 x2).bind fun t228 => ((bits_Meet.f x0 x2).bind fun t229 => ((bits_Meet.f x1 x2).bind fun t230 => ((bits_Union.f t229 t230).bind fun t231 => (syntagmlaw01_BitsLaws.j1 k x0 x1 x2 x7 x8 x9 x10 (t228 == t231)))))) else (syntagmlaw01_BitsLaws.j1 k x0 x1 x2 x7 x8 x9 x10 false)))) else (syntagmlaw01_BitsLaws.j1 k x0 x1 x2 x7 x8 x9 x10 false)))
def syntagmlaw01_BitsLaws.j1 : Nat → Int → Int → Int → Bool → Int → Int → Bool → Bool → Option (Bool)
  | 0, _, _, _, _, _, _, _, _ => none
  | k + 1, x0, x1, x2, x7, x8, x9, x10, x11 => if x7 = true then (if x10 = true then (if x11 = true then ((bits_In.f x9 x0).bind fun t232 => (if t232 = true then ((bits_In.f x0 x8).bind fun t233 => (if t233 = true then ((bits_In.f x0 x1).bind fun t234 => (if t234 = true then ((bits_In.f x1 x2).bind fun t235 => (if t235 = true then ((bits_In.f x0 x2).bind fun t236 => (if t236 = true then ((bits_Count.f x8).bind fun t237 => ((bits_Count.f x9).bind fun t238 => ((bits_Count.f x0).bind fun t239 => ((bits_Count.f x1).bind fun t240 => (some ((wrap64 (t237 + t238)) == (wrap64 (t239 + t240)))))))) else (some false))) else ((bits_Count.f x8).bind fun t241 => ((bits_Count.f x9).bind fun t242 => ((bits_Count.f x0).bind fun t243 => ((bits_Count.f x1).bind fun t244 => (some ((wrap64 (t241 + t242)) == (wrap64 (t243 + t244)))))))))) else ((bits_Count.f x8).bind fun t245 => ((bits_Count.f x9).bind fun t246 => ((bits_Count.f x0).bind fun t247 => ((bits_Count.f x1).bind fun t248 => (some ((wrap64 (t245 + t246)) == (wrap64 (t247 + t248)))))))))) else (some false))) else (some false))) else (some false)) else (some false)) else (some false)
end
def syntagmlaw01_BitsLaws.f (k : Nat) (a0 : Int) (a1 : Int) (a2 : Int) : Option (Bool) := (syntagmlaw01_works.f k).bind fun t213 => (if t213 = true then ((bits_Union.f a0 a1).bind fun t214 => ((bits_Meet.f a0 a1).bind fun t215 => ((bits_Union.f a1 a0).bind fun t216 => (if t214 = t216 then ((bits_Meet.f a1 a0).bind fun t217 => (if t215 = t217 then ((bits_Union.f t214 a2).bind fun t218 => ((bits_Union.f a1 a2).bind fun t219 => ((bits_Union.f a0 t219).bind fun t220 => (if t218 = t220 then ((bits_Meet.f t215 a2).bind fun t221 => ((bits_Meet.f a1 a2).bind fun t222 => ((bits_Meet.f a0 t222).bind fun t223 => (syntagmlaw01_BitsLaws.j0 k a0 a1 a2 t213 t214 t215 (t221 == t223))))) else (syntagmlaw01_BitsLaws.j0 k a0 a1 a2 t213 t214 t215 false))))) else (syntagmlaw01_BitsLaws.j0 k a0 a1 a2 t213 t214 t215 false))) else (syntagmlaw01_BitsLaws.j0 k a0 a1 a2 t213 t214 t215 false))))) else (some false))
theorem syntagmlaw01_BitsLaws.mono_l : ∀ k, (∀ y0 y1 y2 y3 y4 y5 y6, LeO (syntagmlaw01_BitsLaws.j0 k y0 y1 y2 y3 y4 y5 y6) (syntagmlaw01_BitsLaws.j0 (k + 1) y0 y1 y2 y3 y4 y5 y6)) ∧ (∀ y0 y1 y2 y3 y4 y5 y6 y7, LeO (syntagmlaw01_BitsLaws.j1 k y0 y1 y2 y3 y4 y5 y6 y7) (syntagmlaw01_BitsLaws.j1 (k + 1) y0 y1 y2 y3 y4 y5 y6 y7))
  | 0 => ⟨fun _ _ _ _ _ _ _ r h => by simp [syntagmlaw01_BitsLaws.j0] at h, fun _ _ _ _ _ _ _ _ r h => by simp [syntagmlaw01_BitsLaws.j1] at h⟩
  | k + 1 => by
    obtain ⟨ih0, ih1⟩ := syntagmlaw01_BitsLaws.mono_l k
    refine ⟨?_, ?_⟩
    · intro y0 y1 y2 y3 y4 y5 y6
      unfold syntagmlaw01_BitsLaws.j0
      repeat' first
      | (with_reducible exact ih0 _ _ _ _ _ _ _)
      | (with_reducible exact ih1 _ _ _ _ _ _ _ _)
      | (with_reducible exact syntagmlaw01_works.mono _)
      | (with_reducible exact LeO.refl _)
      | (with_reducible exact LeO.none _)
      | (with_reducible refine LeO.ite ?_ ?_)
      | (with_reducible refine LeO.bind ?_ (fun _ => ?_))
      | exact ih0 _ _ _ _ _ _ _
      | exact ih1 _ _ _ _ _ _ _ _
      | exact syntagmlaw01_works.mono _
      | exact LeO.none _
      | refine LeO.ite ?_ ?_
      | refine LeO.bind ?_ (fun _ => ?_)
    · intro y0 y1 y2 y3 y4 y5 y6 y7
      unfold syntagmlaw01_BitsLaws.j1
      repeat' first
      | (with_reducible exact ih0 _ _ _ _ _ _ _)
      | (with_reducible exact ih1 _ _ _ _ _ _ _ _)
      | (with_reducible exact syntagmlaw01_works.mono _)
      | (with_reducible exact LeO.refl _)
      | (with_reducible exact LeO.none _)
      | (with_reducible refine LeO.ite ?_ ?_)
      | (with_reducible refine LeO.bind ?_ (fun _ => ?_))
      | exact ih0 _ _ _ _ _ _ _
      | exact ih1 _ _ _ _ _ _ _ _
      | exact syntagmlaw01_works.mono _
      | exact LeO.none _
      | refine LeO.ite ?_ ?_
      | refine LeO.bind ?_ (fun _ => ?_)
theorem syntagmlaw01_BitsLaws.mono : ∀ a0 a1 a2 k, LeO (syntagmlaw01_BitsLaws.f k a0 a1 a2) (syntagmlaw01_BitsLaws.f (k + 1) a0 a1 a2) := by
  intro a0 a1 a2 k
  obtain ⟨ih0, ih1⟩ := syntagmlaw01_BitsLaws.mono_l k
  unfold syntagmlaw01_BitsLaws.f
  repeat' first
      | (with_reducible exact ih0 _ _ _ _ _ _ _)
      | (with_reducible exact ih1 _ _ _ _ _ _ _ _)
      | (with_reducible exact syntagmlaw01_works.mono _)
      | (with_reducible exact LeO.refl _)
      | (with_reducible exact LeO.none _)
      | (with_reducible refine LeO.ite ?_ ?_)
      | (with_reducible refine LeO.bind ?_ (fun _ => ?_))
      | exact ih0 _ _ _ _ _ _ _
      | exact ih1 _ _ _ _ _ _ _ _
      | exact syntagmlaw01_works.mono _
      | exact LeO.none _
      | refine LeO.ite ?_ ?_
      | refine LeO.bind ?_ (fun _ => ?_)
set_option maxHeartbeats 8000000 in
set_option maxRecDepth 100000 in
theorem syntagmlaw01_BitsLaws.calls (k : Nat) (a0 : Int) (a1 : Int) (a2 : Int) (r : Bool) (w : World) (hG : GTab w) (h : syntagmlaw01_BitsLaws.f k a0 a1 a2 = some r) :
    Calls Tryd.prog 5 #[.int .u64 a0, .int .u64 a1, .int .u64 a2] w fun e w' => e = .returned (.bool r) ∧ Below w.heap.size w w' := by
  have HG := Aside0.mk hG
  clear hG
  have HB := Aside0.mk (Below.refl w.heap.size w)
  have H : ((syntagmlaw01_works.f k).bind fun t213 => (if t213 = true then ((bits_Union.f a0 a1).bind fun t214 => ((bits_Meet.f a0 a1).bind fun t215 => ((bits_Union.f a1 a0).bind fun t216 => (if t214 = t216 then ((bits_Meet.f a1 a0).bind fun t217 => (if t215 = t217 then ((bits_Union.f t214 a2).bind fun t218 => ((bits_Union.f a1 a2).bind fun t219 => ((bits_Union.f a0 t219).bind fun t220 => (if t218 = t220 then ((bits_Meet.f t215 a2).bind fun t221 => ((bits_Meet.f a1 a2).bind fun t222 => ((bits_Meet.f a0 t222).bind fun t223 => (syntagmlaw01_BitsLaws.j0 k a0 a1 a2 t213 t214 t215 (t221 == t223))))) else (syntagmlaw01_BitsLaws.j0 k a0 a1 a2 t213 t214 t215 false))))) else (syntagmlaw01_BitsLaws.j0 k a0 a1 a2 t213 t214 t215 false))) else (syntagmlaw01_BitsLaws.j0 k a0 a1 a2 t213 t214 t215 false))))) else (some false))) = some r := h
  clear h
  replace H := Option.bind_eq_some_iff.mp H
  obtain ⟨t213, A40, H⟩ := H
  replace H : (if t213 = true then ((bits_Union.f a0 a1).bind fun t214 => ((bits_Meet.f a0 a1).bind fun t215 => ((bits_Union.f a1 a0).bind fun t216 => (if t214 = t216 then ((bits_Meet.f a1 a0).bind fun t217 => (if t215 = t217 then ((bits_Union.f t214 a2).bind fun t218 => ((bits_Union.f a1 a2).bind fun t219 => ((bits_Union.f a0 t219).bind fun t220 => (if t218 = t220 then ((bits_Meet.f t215 a2).bind fun t221 => ((bits_Meet.f a1 a2).bind fun t222 => ((bits_Meet.f a0 t222).bind fun t223 => (syntagmlaw01_BitsLaws.j0 k a0 a1 a2 t213 t214 t215 (t221 == t223))))) else (syntagmlaw01_BitsLaws.j0 k a0 a1 a2 t213 t214 t215 false))))) else (syntagmlaw01_BitsLaws.j0 k a0 a1 a2 t213 t214 t215 false))) else (syntagmlaw01_BitsLaws.j0 k a0 a1 a2 t213 t214 t215 false))))) else (some false)) = some r := H
  have A4 := Aside0.mk A40
  clear A40
  by_cases c5 : t213 = true
  · subst c5
    have H1 : ((bits_Union.f a0 a1).bind fun t214 => ((bits_Meet.f a0 a1).bind fun t215 => ((bits_Union.f a1 a0).bind fun t216 => (if t214 = t216 then ((bits_Meet.f a1 a0).bind fun t217 => (if t215 = t217 then ((bits_Union.f t214 a2).bind fun t218 => ((bits_Union.f a1 a2).bind fun t219 => ((bits_Union.f a0 t219).bind fun t220 => (if t218 = t220 then ((bits_Meet.f t215 a2).bind fun t221 => ((bits_Meet.f a1 a2).bind fun t222 => ((bits_Meet.f a0 t222).bind fun t223 => (syntagmlaw01_BitsLaws.j0 k a0 a1 a2 true t214 t215 (t221 == t223))))) else (syntagmlaw01_BitsLaws.j0 k a0 a1 a2 true t214 t215 false))))) else (syntagmlaw01_BitsLaws.j0 k a0 a1 a2 true t214 t215 false))) else (syntagmlaw01_BitsLaws.j0 k a0 a1 a2 true t214 t215 false))))) = some r := by rw [if_pos rfl] at H; exact H
    clear H
    have H := H1
    clear H1
    replace H := Option.bind_eq_some_iff.mp H
    obtain ⟨t214, A60, H⟩ := H
    replace H : ((bits_Meet.f a0 a1).bind fun t215 => ((bits_Union.f a1 a0).bind fun t216 => (if t214 = t216 then ((bits_Meet.f a1 a0).bind fun t217 => (if t215 = t217 then ((bits_Union.f t214 a2).bind fun t218 => ((bits_Union.f a1 a2).bind fun t219 => ((bits_Union.f a0 t219).bind fun t220 => (if t218 = t220 then ((bits_Meet.f t215 a2).bind fun t221 => ((bits_Meet.f a1 a2).bind fun t222 => ((bits_Meet.f a0 t222).bind fun t223 => (syntagmlaw01_BitsLaws.j0 k a0 a1 a2 true t214 t215 (t221 == t223))))) else (syntagmlaw01_BitsLaws.j0 k a0 a1 a2 true t214 t215 false))))) else (syntagmlaw01_BitsLaws.j0 k a0 a1 a2 true t214 t215 false))) else (syntagmlaw01_BitsLaws.j0 k a0 a1 a2 true t214 t215 false)))) = some r := H
    have A6 := Aside0.mk A60
    clear A60
    replace H := Option.bind_eq_some_iff.mp H
    obtain ⟨t215, A70, H⟩ := H
    replace H : ((bits_Union.f a1 a0).bind fun t216 => (if t214 = t216 then ((bits_Meet.f a1 a0).bind fun t217 => (if t215 = t217 then ((bits_Union.f t214 a2).bind fun t218 => ((bits_Union.f a1 a2).bind fun t219 => ((bits_Union.f a0 t219).bind fun t220 => (if t218 = t220 then ((bits_Meet.f t215 a2).bind fun t221 => ((bits_Meet.f a1 a2).bind fun t222 => ((bits_Meet.f a0 t222).bind fun t223 => (syntagmlaw01_BitsLaws.j0 k a0 a1 a2 true t214 t215 (t221 == t223))))) else (syntagmlaw01_BitsLaws.j0 k a0 a1 a2 true t214 t215 false))))) else (syntagmlaw01_BitsLaws.j0 k a0 a1 a2 true t214 t215 false))) else (syntagmlaw01_BitsLaws.j0 k a0 a1 a2 true t214 t215 false))) = some r := H
    have A7 := Aside0.mk A70
    clear A70
    have HC8 := Aside0.mk H
    clear H
    go_enter Tryd.func5, Tryd.ntmps5
    go_upto_region 6 with (first | ((with_reducible refine gate_callee (f := 8) rfl ?_); refine goesL_ (some 12) rfl rfl Tryd.func8 (by kernel_rfl) rfl #[] rfl (by (try simp only [List.map_toArray, List.map_cons, List.map_nil]); first | done | rfl | (simp only [List.length_drop, List.length_take]; rfl)) ?_; (with_reducible refine (syntagmlaw01_works.calls k  true _ ?side1 A4.out).mono ?_); (case side1 => exact GTab.below HG.out (by repeat (first | (with_reducible first | exact HB.out | apply below_alloc | apply pw_below_drewN | apply below_drew1) | exact HB.out))); rintro e w9 ⟨rfl, hb⟩; refine ⟨_, rfl, ?_⟩; have n0_ := Aside0.mk (below_step (by repeat (first | (with_reducible first | exact HB.out | apply below_alloc | apply pw_below_drewN | apply below_drew1) | exact HB.out)) hb); clear HB; have HB := n0_; clear n0_; (try clear hb); (try clear hb2); (try clear hk); (try clear hi)) | ((with_reducible refine gate_callee (f := 18) rfl ?_); refine goesL_ (some 17) rfl rfl Tryd.func18 (by kernel_rfl) rfl #[.int .u64 a0, .int .u64 a1] rfl (by (try simp only [List.map_toArray, List.map_cons, List.map_nil]); first | done | rfl | (simp only [List.length_drop, List.length_take]; rfl)) ?_; (with_reducible refine (bits_Union.calls a0 a1 t214 _ A6.out).mono ?_); rintro e w' ⟨rfl, ⟨nd, rfl⟩⟩; refine ⟨_, rfl, ?_⟩) | ((with_reducible refine gate_callee (f := 20) rfl ?_); refine goesL_ (some 20) rfl rfl Tryd.func20 (by kernel_rfl) rfl #[.int .u64 a0, .int .u64 a1] rfl (by (try simp only [List.map_toArray, List.map_cons, List.map_nil]); first | done | rfl | (simp only [List.length_drop, List.length_take]; rfl)) ?_; (with_reducible refine (bits_Meet.calls a0 a1 t215 _ A7.out).mono ?_); rintro e w' ⟨rfl, ⟨nd, rfl⟩⟩; refine ⟨_, rfl, ?_⟩))
    (try simp only [Act.put, List.setIfInBounds_toArray, List.set_cons_zero, List.set_cons_succ])
    go_cut [10] (fun v10 wc => ∃ (kq : Nat) (x10_7 : Bool), v10 = .bool x10_7 ∧ Aside0 (syntagmlaw01_BitsLaws.j0 kq a0 a1 a2 true t214 t215 x10_7 = some r) ∧ Aside0 (kq ≤ k) ∧ Aside0 (Below w.heap.size w wc))
    case first =>
      have H := HC8.out
      clear HC8
      replace H := Option.bind_eq_some_iff.mp H
      obtain ⟨t216, A100, H⟩ := H
      replace H : (if t214 = t216 then ((bits_Meet.f a1 a0).bind fun t217 => (if t215 = t217 then ((bits_Union.f t214 a2).bind fun t218 => ((bits_Union.f a1 a2).bind fun t219 => ((bits_Union.f a0 t219).bind fun t220 => (if t218 = t220 then ((bits_Meet.f t215 a2).bind fun t221 => ((bits_Meet.f a1 a2).bind fun t222 => ((bits_Meet.f a0 t222).bind fun t223 => (syntagmlaw01_BitsLaws.j0 k a0 a1 a2 true t214 t215 (t221 == t223))))) else (syntagmlaw01_BitsLaws.j0 k a0 a1 a2 true t214 t215 false))))) else (syntagmlaw01_BitsLaws.j0 k a0 a1 a2 true t214 t215 false))) else (syntagmlaw01_BitsLaws.j0 k a0 a1 a2 true t214 t215 false)) = some r := H
      have A10 := Aside0.mk A100
      clear A100
      by_cases c11 : t214 = t216
      · rw [if_pos c11] at H
        have c11b0 : (t214 == t216) = true := beq_iff_eq.mpr c11
        have c11b1 : (t214 != t216) = false := bne_eq_false_iff_eq.mpr c11
        clear c11
        (first | rw [c11b0] | (simp only [i64_w, i32_w]; rw [c11b0]) | skip)
        replace H := Option.bind_eq_some_iff.mp H
        obtain ⟨t217, A120, H⟩ := H
        replace H : (if t215 = t217 then ((bits_Union.f t214 a2).bind fun t218 => ((bits_Union.f a1 a2).bind fun t219 => ((bits_Union.f a0 t219).bind fun t220 => (if t218 = t220 then ((bits_Meet.f t215 a2).bind fun t221 => ((bits_Meet.f a1 a2).bind fun t222 => ((bits_Meet.f a0 t222).bind fun t223 => (syntagmlaw01_BitsLaws.j0 k a0 a1 a2 true t214 t215 (t221 == t223))))) else (syntagmlaw01_BitsLaws.j0 k a0 a1 a2 true t214 t215 false))))) else (syntagmlaw01_BitsLaws.j0 k a0 a1 a2 true t214 t215 false)) = some r := H
        have A12 := Aside0.mk A120
        clear A120
        by_cases c13 : t215 = t217
        · rw [if_pos c13] at H
          have c13b0 : (t215 == t217) = true := beq_iff_eq.mpr c13
          have c13b1 : (t215 != t217) = false := bne_eq_false_iff_eq.mpr c13
          clear c13
          replace H := Option.bind_eq_some_iff.mp H
          obtain ⟨t218, A140, H⟩ := H
          replace H : ((bits_Union.f a1 a2).bind fun t219 => ((bits_Union.f a0 t219).bind fun t220 => (if t218 = t220 then ((bits_Meet.f t215 a2).bind fun t221 => ((bits_Meet.f a1 a2).bind fun t222 => ((bits_Meet.f a0 t222).bind fun t223 => (syntagmlaw01_BitsLaws.j0 k a0 a1 a2 true t214 t215 (t221 == t223))))) else (syntagmlaw01_BitsLaws.j0 k a0 a1 a2 true t214 t215 false)))) = some r := H
          have A14 := Aside0.mk A140
          clear A140
          replace H := Option.bind_eq_some_iff.mp H
          obtain ⟨t219, A150, H⟩ := H
          replace H : ((bits_Union.f a0 t219).bind fun t220 => (if t218 = t220 then ((bits_Meet.f t215 a2).bind fun t221 => ((bits_Meet.f a1 a2).bind fun t222 => ((bits_Meet.f a0 t222).bind fun t223 => (syntagmlaw01_BitsLaws.j0 k a0 a1 a2 true t214 t215 (t221 == t223))))) else (syntagmlaw01_BitsLaws.j0 k a0 a1 a2 true t214 t215 false))) = some r := H
          have A15 := Aside0.mk A150
          clear A150
          replace H := Option.bind_eq_some_iff.mp H
          obtain ⟨t220, A160, H⟩ := H
          replace H : (if t218 = t220 then ((bits_Meet.f t215 a2).bind fun t221 => ((bits_Meet.f a1 a2).bind fun t222 => ((bits_Meet.f a0 t222).bind fun t223 => (syntagmlaw01_BitsLaws.j0 k a0 a1 a2 true t214 t215 (t221 == t223))))) else (syntagmlaw01_BitsLaws.j0 k a0 a1 a2 true t214 t215 false)) = some r := H
          have A16 := Aside0.mk A160
          clear A160
          by_cases c17 : t218 = t220
          · rw [if_pos c17] at H
            have c17b0 : (t218 == t220) = true := beq_iff_eq.mpr c17
            have c17b1 : (t218 != t220) = false := bne_eq_false_iff_eq.mpr c17
            clear c17
            replace H := Option.bind_eq_some_iff.mp H
            obtain ⟨t221, A180, H⟩ := H
            replace H : ((bits_Meet.f a1 a2).bind fun t222 => ((bits_Meet.f a0 t222).bind fun t223 => (syntagmlaw01_BitsLaws.j0 k a0 a1 a2 true t214 t215 (t221 == t223)))) = some r := H
            have A18 := Aside0.mk A180
            clear A180
            replace H := Option.bind_eq_some_iff.mp H
            obtain ⟨t222, A190, H⟩ := H
            replace H : ((bits_Meet.f a0 t222).bind fun t223 => (syntagmlaw01_BitsLaws.j0 k a0 a1 a2 true t214 t215 (t221 == t223))) = some r := H
            have A19 := Aside0.mk A190
            clear A190
            replace H := Option.bind_eq_some_iff.mp H
            obtain ⟨t223, A200, H⟩ := H
            replace H : (syntagmlaw01_BitsLaws.j0 k a0 a1 a2 true t214 t215 (t221 == t223)) = some r := H
            have A20 := Aside0.mk A200
            clear A200
            have H' := Aside0.mk H
            clear H
            go_wp2_with (first | ((with_reducible refine gate_callee (f := 18) rfl ?_); refine goesL_ (some 24) rfl rfl Tryd.func18 (by kernel_rfl) rfl #[.int .u64 a1, .int .u64 a0] rfl (by (try simp only [List.map_toArray, List.map_cons, List.map_nil]); first | done | rfl | (simp only [List.length_drop, List.length_take]; rfl)) ?_; (with_reducible refine (bits_Union.calls a1 a0 t216 _ A10.out).mono ?_); rintro e w' ⟨rfl, ⟨nd, rfl⟩⟩; refine ⟨_, rfl, ?_⟩) | (go_at_call 20; (with_reducible refine (bits_Meet.calls a1 a0 t217 _ A12.out).mono ?_); rintro e w' ⟨rfl, ⟨nd, rfl⟩⟩) | (go_at_call 18; (with_reducible refine (bits_Union.calls t214 a2 t218 _ A14.out).mono ?_); rintro e w' ⟨rfl, ⟨nd, rfl⟩⟩) | (go_at_call 18; (with_reducible refine (bits_Union.calls a1 a2 t219 _ A15.out).mono ?_); rintro e w' ⟨rfl, ⟨nd, rfl⟩⟩) | (go_at_call 18; (with_reducible refine (bits_Union.calls a0 t219 t220 _ A16.out).mono ?_); rintro e w' ⟨rfl, ⟨nd, rfl⟩⟩) | (go_at_call 20; (with_reducible refine (bits_Meet.calls t215 a2 t221 _ A18.out).mono ?_); rintro e w' ⟨rfl, ⟨nd, rfl⟩⟩) | (go_at_call 20; (with_reducible refine (bits_Meet.calls a1 a2 t222 _ A19.out).mono ?_); rintro e w' ⟨rfl, ⟨nd, rfl⟩⟩) | (go_at_call 20; (with_reducible refine (bits_Meet.calls a0 t222 t223 _ A20.out).mono ?_); rintro e w' ⟨rfl, ⟨nd, rfl⟩⟩))
            go_meet
            case rel => exact ⟨_, ((t221 == t223)), (by first | rfl | (simp; done) | (simp [*]; done)), H', ⟨by first | omega | exact Nat.le_refl _⟩, ⟨by repeat (first | (with_reducible first | exact HB.out | apply below_alloc | apply pw_below_drewN | apply below_drew1) | exact HB.out)⟩⟩
          · rw [if_neg c17] at H
            have c17b0 : (t218 == t220) = false := beq_eq_false_iff_ne.mpr c17
            have c17b1 : (t218 != t220) = true := bne_iff_ne.mpr c17
            have H' := Aside0.mk H
            clear H
            go_wp2_with (first | ((with_reducible refine gate_callee (f := 18) rfl ?_); refine goesL_ (some 24) rfl rfl Tryd.func18 (by kernel_rfl) rfl #[.int .u64 a1, .int .u64 a0] rfl (by (try simp only [List.map_toArray, List.map_cons, List.map_nil]); first | done | rfl | (simp only [List.length_drop, List.length_take]; rfl)) ?_; (with_reducible refine (bits_Union.calls a1 a0 t216 _ A10.out).mono ?_); rintro e w' ⟨rfl, ⟨nd, rfl⟩⟩; refine ⟨_, rfl, ?_⟩) | (go_at_call 20; (with_reducible refine (bits_Meet.calls a1 a0 t217 _ A12.out).mono ?_); rintro e w' ⟨rfl, ⟨nd, rfl⟩⟩) | (go_at_call 18; (with_reducible refine (bits_Union.calls t214 a2 t218 _ A14.out).mono ?_); rintro e w' ⟨rfl, ⟨nd, rfl⟩⟩) | (go_at_call 18; (with_reducible refine (bits_Union.calls a1 a2 t219 _ A15.out).mono ?_); rintro e w' ⟨rfl, ⟨nd, rfl⟩⟩) | (go_at_call 18; (with_reducible refine (bits_Union.calls a0 t219 t220 _ A16.out).mono ?_); rintro e w' ⟨rfl, ⟨nd, rfl⟩⟩))
            go_meet
            case rel => exact ⟨_, (false), (by first | rfl | (simp; done) | (simp [*]; done)), H', ⟨by first | omega | exact Nat.le_refl _⟩, ⟨by repeat (first | (with_reducible first | exact HB.out | apply below_alloc | apply pw_below_drewN | apply below_drew1) | exact HB.out)⟩⟩
        · rw [if_neg c13] at H
          have c13b0 : (t215 == t217) = false := beq_eq_false_iff_ne.mpr c13
          have c13b1 : (t215 != t217) = true := bne_iff_ne.mpr c13
          have H' := Aside0.mk H
          clear H
          go_wp2_with (first | ((with_reducible refine gate_callee (f := 18) rfl ?_); refine goesL_ (some 24) rfl rfl Tryd.func18 (by kernel_rfl) rfl #[.int .u64 a1, .int .u64 a0] rfl (by (try simp only [List.map_toArray, List.map_cons, List.map_nil]); first | done | rfl | (simp only [List.length_drop, List.length_take]; rfl)) ?_; (with_reducible refine (bits_Union.calls a1 a0 t216 _ A10.out).mono ?_); rintro e w' ⟨rfl, ⟨nd, rfl⟩⟩; refine ⟨_, rfl, ?_⟩) | (go_at_call 20; (with_reducible refine (bits_Meet.calls a1 a0 t217 _ A12.out).mono ?_); rintro e w' ⟨rfl, ⟨nd, rfl⟩⟩))
          go_meet
          case rel => exact ⟨_, (false), (by first | rfl | (simp; done) | (simp [*]; done)), H', ⟨by first | omega | exact Nat.le_refl _⟩, ⟨by repeat (first | (with_reducible first | exact HB.out | apply below_alloc | apply pw_below_drewN | apply below_drew1) | exact HB.out)⟩⟩
      · rw [if_neg c11] at H
        have c11b0 : (t214 == t216) = false := beq_eq_false_iff_ne.mpr c11
        have c11b1 : (t214 != t216) = true := bne_iff_ne.mpr c11
        (first | rw [c11b0] | (simp only [i64_w, i32_w]; rw [c11b0]) | skip)
        have H' := Aside0.mk H
        clear H
        go_wp2_with (first | ((with_reducible refine gate_callee (f := 18) rfl ?_); refine goesL_ (some 24) rfl rfl Tryd.func18 (by kernel_rfl) rfl #[.int .u64 a1, .int .u64 a0] rfl (by (try simp only [List.map_toArray, List.map_cons, List.map_nil]); first | done | rfl | (simp only [List.length_drop, List.length_take]; rfl)) ?_; (with_reducible refine (bits_Union.calls a1 a0 t216 _ A10.out).mono ?_); rintro e w' ⟨rfl, ⟨nd, rfl⟩⟩; refine ⟨_, rfl, ?_⟩))
        go_meet
        case rel => exact ⟨_, (false), (by first | rfl | (simp; done) | (simp [*]; done)), H', ⟨by first | omega | exact Nat.le_refl _⟩, ⟨by repeat (first | (with_reducible first | exact HB.out | apply below_alloc | apply pw_below_drewN | apply below_drew1) | exact HB.out)⟩⟩
    case rest =>
      clear HC8
      try clear c1
      try clear c2
      try clear p2
      try clear c5
      try clear c8
      try clear c11
      try clear c11b0
      try clear c11b1
      try clear c13
      try clear c13b0
      try clear c13b1
      try clear c17
      try clear c17b0
      try clear c17b1
      try clear c18
      try clear c20
      obtain ⟨kq, x10_7, rfl, HA, HJ7, HB⟩ := hcut
      cases kq with
      | zero => exact absurd HA.out (by simp [syntagmlaw01_BitsLaws.j0])
      | succ kj7 =>
        have H := HA.out
        clear HA
        simp only [syntagmlaw01_BitsLaws.j0] at H
        have HC21 := Aside0.mk H
        clear H
        go_upto_region 7 with (fail)
        go_cut [11] (fun v11 wc => ∃ (kq : Nat) (x11_20 : Bool), v11 = .bool x11_20 ∧ Aside0 (syntagmlaw01_BitsLaws.j1 kq a0 a1 a2 true t214 t215 x10_7 x11_20 = some r) ∧ Aside0 (kq ≤ kj7) ∧ Aside0 (Below w.heap.size w wc))
        case first =>
          have H := HC21.out
          clear HC21
          replace H := Option.bind_eq_some_iff.mp H
          obtain ⟨t224, A220, H⟩ := H
          replace H : ((bits_Union.f t224 t215).bind fun t225 => (if t225 = a0 then ((bits_Less.f a0 a1).bind fun t226 => ((bits_Meet.f t226 a1).bind fun t227 => (if t227 = 0 then ((bits_Meet.f t214 a2).bind fun t228 => ((bits_Meet.f a0 a2).bind fun t229 => ((bits_Meet.f a1 a2).bind fun t230 => ((bits_Union.f t229 t230).bind fun t231 => (syntagmlaw01_BitsLaws.j1 kj7 a0 a1 a2 true t214 t215 x10_7 (t228 == t231)))))) else (syntagmlaw01_BitsLaws.j1 kj7 a0 a1 a2 true t214 t215 x10_7 false)))) else (syntagmlaw01_BitsLaws.j1 kj7 a0 a1 a2 true t214 t215 x10_7 false))) = some r := H
          have A22 := Aside0.mk A220
          clear A220
          replace H := Option.bind_eq_some_iff.mp H
          obtain ⟨t225, A230, H⟩ := H
          replace H : (if t225 = a0 then ((bits_Less.f a0 a1).bind fun t226 => ((bits_Meet.f t226 a1).bind fun t227 => (if t227 = 0 then ((bits_Meet.f t214 a2).bind fun t228 => ((bits_Meet.f a0 a2).bind fun t229 => ((bits_Meet.f a1 a2).bind fun t230 => ((bits_Union.f t229 t230).bind fun t231 => (syntagmlaw01_BitsLaws.j1 kj7 a0 a1 a2 true t214 t215 x10_7 (t228 == t231)))))) else (syntagmlaw01_BitsLaws.j1 kj7 a0 a1 a2 true t214 t215 x10_7 false)))) else (syntagmlaw01_BitsLaws.j1 kj7 a0 a1 a2 true t214 t215 x10_7 false)) = some r := H
          have A23 := Aside0.mk A230
          clear A230
          by_cases c24 : t225 = a0
          · rw [if_pos c24] at H
            have c24b0 : (t225 == a0) = true := beq_iff_eq.mpr c24
            have c24b1 : (t225 != a0) = false := bne_eq_false_iff_eq.mpr c24
            clear c24
            (first | rw [c24b0] | (simp only [i64_w, i32_w]; rw [c24b0]) | skip)
            replace H := Option.bind_eq_some_iff.mp H
            obtain ⟨t226, A250, H⟩ := H
            replace H : ((bits_Meet.f t226 a1).bind fun t227 => (if t227 = 0 then ((bits_Meet.f t214 a2).bind fun t228 => ((bits_Meet.f a0 a2).bind fun t229 => ((bits_Meet.f a1 a2).bind fun t230 => ((bits_Union.f t229 t230).bind fun t231 => (syntagmlaw01_BitsLaws.j1 kj7 a0 a1 a2 true t214 t215 x10_7 (t228 == t231)))))) else (syntagmlaw01_BitsLaws.j1 kj7 a0 a1 a2 true t214 t215 x10_7 false))) = some r := H
            have A25 := Aside0.mk A250
            clear A250
            replace H := Option.bind_eq_some_iff.mp H
            obtain ⟨t227, A260, H⟩ := H
            replace H : (if t227 = 0 then ((bits_Meet.f t214 a2).bind fun t228 => ((bits_Meet.f a0 a2).bind fun t229 => ((bits_Meet.f a1 a2).bind fun t230 => ((bits_Union.f t229 t230).bind fun t231 => (syntagmlaw01_BitsLaws.j1 kj7 a0 a1 a2 true t214 t215 x10_7 (t228 == t231)))))) else (syntagmlaw01_BitsLaws.j1 kj7 a0 a1 a2 true t214 t215 x10_7 false)) = some r := H
            have A26 := Aside0.mk A260
            clear A260
            by_cases c27 : t227 = 0
            · rw [if_pos c27] at H
              have c27b0 : (t227 == 0) = true := beq_iff_eq.mpr c27
              have c27b1 : (t227 != 0) = false := bne_eq_false_iff_eq.mpr c27
              clear c27
              replace H := Option.bind_eq_some_iff.mp H
              obtain ⟨t228, A280, H⟩ := H
              replace H : ((bits_Meet.f a0 a2).bind fun t229 => ((bits_Meet.f a1 a2).bind fun t230 => ((bits_Union.f t229 t230).bind fun t231 => (syntagmlaw01_BitsLaws.j1 kj7 a0 a1 a2 true t214 t215 x10_7 (t228 == t231))))) = some r := H
              have A28 := Aside0.mk A280
              clear A280
              replace H := Option.bind_eq_some_iff.mp H
              obtain ⟨t229, A290, H⟩ := H
              replace H : ((bits_Meet.f a1 a2).bind fun t230 => ((bits_Union.f t229 t230).bind fun t231 => (syntagmlaw01_BitsLaws.j1 kj7 a0 a1 a2 true t214 t215 x10_7 (t228 == t231)))) = some r := H
              have A29 := Aside0.mk A290
              clear A290
              replace H := Option.bind_eq_some_iff.mp H
              obtain ⟨t230, A300, H⟩ := H
              replace H : ((bits_Union.f t229 t230).bind fun t231 => (syntagmlaw01_BitsLaws.j1 kj7 a0 a1 a2 true t214 t215 x10_7 (t228 == t231))) = some r := H
              have A30 := Aside0.mk A300
              clear A300
              replace H := Option.bind_eq_some_iff.mp H
              obtain ⟨t231, A310, H⟩ := H
              replace H : (syntagmlaw01_BitsLaws.j1 kj7 a0 a1 a2 true t214 t215 x10_7 (t228 == t231)) = some r := H
              have A31 := Aside0.mk A310
              clear A310
              have H' := Aside0.mk H
              clear H
              go_wp2_with (first | ((with_reducible refine gate_callee (f := 22) rfl ?_); refine goesL_ (some 57) rfl rfl Tryd.func22 (by kernel_rfl) rfl #[.int .u64 a0, .int .u64 a1] rfl (by (try simp only [List.map_toArray, List.map_cons, List.map_nil]); first | done | rfl | (simp only [List.length_drop, List.length_take]; rfl)) ?_; (with_reducible refine (bits_Less.calls a0 a1 t224 _ A22.out).mono ?_); rintro e w' ⟨rfl, ⟨nd, rfl⟩⟩; refine ⟨_, rfl, ?_⟩) | ((with_reducible refine gate_callee (f := 18) rfl ?_); refine goesL_ (some 59) rfl rfl Tryd.func18 (by kernel_rfl) rfl #[.int .u64 t224, .int .u64 t215] rfl (by (try simp only [List.map_toArray, List.map_cons, List.map_nil]); first | done | rfl | (simp only [List.length_drop, List.length_take]; rfl)) ?_; (with_reducible refine (bits_Union.calls t224 t215 t225 _ A23.out).mono ?_); rintro e w' ⟨rfl, ⟨nd, rfl⟩⟩; refine ⟨_, rfl, ?_⟩) | (go_at_call 22; (with_reducible refine (bits_Less.calls a0 a1 t226 _ A25.out).mono ?_); rintro e w' ⟨rfl, ⟨nd, rfl⟩⟩) | (go_at_call 20; (with_reducible refine (bits_Meet.calls t226 a1 t227 _ A26.out).mono ?_); rintro e w' ⟨rfl, ⟨nd, rfl⟩⟩) | (go_at_call 20; (with_reducible refine (bits_Meet.calls t214 a2 t228 _ A28.out).mono ?_); rintro e w' ⟨rfl, ⟨nd, rfl⟩⟩) | (go_at_call 20; (with_reducible refine (bits_Meet.calls a0 a2 t229 _ A29.out).mono ?_); rintro e w' ⟨rfl, ⟨nd, rfl⟩⟩) | (go_at_call 20; (with_reducible refine (bits_Meet.calls a1 a2 t230 _ A30.out).mono ?_); rintro e w' ⟨rfl, ⟨nd, rfl⟩⟩) | (go_at_call 18; (with_reducible refine (bits_Union.calls t229 t230 t231 _ A31.out).mono ?_); rintro e w' ⟨rfl, ⟨nd, rfl⟩⟩))
              go_meet
              case rel => exact ⟨_, ((t228 == t231)), (by first | rfl | (simp; done) | (simp [*]; done)), H', ⟨by have := HJ7.out; first | omega | exact Nat.le_refl _⟩, ⟨by repeat (first | (with_reducible first | exact HB.out | apply below_alloc | apply pw_below_drewN | apply below_drew1) | exact HB.out)⟩⟩
            · rw [if_neg c27] at H
              have c27b0 : (t227 == 0) = false := beq_eq_false_iff_ne.mpr c27
              have c27b1 : (t227 != 0) = true := bne_iff_ne.mpr c27
              have H' := Aside0.mk H
              clear H
              go_wp2_with (first | ((with_reducible refine gate_callee (f := 22) rfl ?_); refine goesL_ (some 57) rfl rfl Tryd.func22 (by kernel_rfl) rfl #[.int .u64 a0, .int .u64 a1] rfl (by (try simp only [List.map_toArray, List.map_cons, List.map_nil]); first | done | rfl | (simp only [List.length_drop, List.length_take]; rfl)) ?_; (with_reducible refine (bits_Less.calls a0 a1 t224 _ A22.out).mono ?_); rintro e w' ⟨rfl, ⟨nd, rfl⟩⟩; refine ⟨_, rfl, ?_⟩) | ((with_reducible refine gate_callee (f := 18) rfl ?_); refine goesL_ (some 59) rfl rfl Tryd.func18 (by kernel_rfl) rfl #[.int .u64 t224, .int .u64 t215] rfl (by (try simp only [List.map_toArray, List.map_cons, List.map_nil]); first | done | rfl | (simp only [List.length_drop, List.length_take]; rfl)) ?_; (with_reducible refine (bits_Union.calls t224 t215 t225 _ A23.out).mono ?_); rintro e w' ⟨rfl, ⟨nd, rfl⟩⟩; refine ⟨_, rfl, ?_⟩) | (go_at_call 22; (with_reducible refine (bits_Less.calls a0 a1 t226 _ A25.out).mono ?_); rintro e w' ⟨rfl, ⟨nd, rfl⟩⟩) | (go_at_call 20; (with_reducible refine (bits_Meet.calls t226 a1 t227 _ A26.out).mono ?_); rintro e w' ⟨rfl, ⟨nd, rfl⟩⟩))
              go_meet
              case rel => exact ⟨_, (false), (by first | rfl | (simp; done) | (simp [*]; done)), H', ⟨by have := HJ7.out; first | omega | exact Nat.le_refl _⟩, ⟨by repeat (first | (with_reducible first | exact HB.out | apply below_alloc | apply pw_below_drewN | apply below_drew1) | exact HB.out)⟩⟩
          · rw [if_neg c24] at H
            have c24b0 : (t225 == a0) = false := beq_eq_false_iff_ne.mpr c24
            have c24b1 : (t225 != a0) = true := bne_iff_ne.mpr c24
            (first | rw [c24b0] | (simp only [i64_w, i32_w]; rw [c24b0]) | skip)
            have H' := Aside0.mk H
            clear H
            go_wp2_with (first | ((with_reducible refine gate_callee (f := 22) rfl ?_); refine goesL_ (some 57) rfl rfl Tryd.func22 (by kernel_rfl) rfl #[.int .u64 a0, .int .u64 a1] rfl (by (try simp only [List.map_toArray, List.map_cons, List.map_nil]); first | done | rfl | (simp only [List.length_drop, List.length_take]; rfl)) ?_; (with_reducible refine (bits_Less.calls a0 a1 t224 _ A22.out).mono ?_); rintro e w' ⟨rfl, ⟨nd, rfl⟩⟩; refine ⟨_, rfl, ?_⟩) | ((with_reducible refine gate_callee (f := 18) rfl ?_); refine goesL_ (some 59) rfl rfl Tryd.func18 (by kernel_rfl) rfl #[.int .u64 t224, .int .u64 t215] rfl (by (try simp only [List.map_toArray, List.map_cons, List.map_nil]); first | done | rfl | (simp only [List.length_drop, List.length_take]; rfl)) ?_; (with_reducible refine (bits_Union.calls t224 t215 t225 _ A23.out).mono ?_); rintro e w' ⟨rfl, ⟨nd, rfl⟩⟩; refine ⟨_, rfl, ?_⟩))
            go_meet
            case rel => exact ⟨_, (false), (by first | rfl | (simp; done) | (simp [*]; done)), H', ⟨by have := HJ7.out; first | omega | exact Nat.le_refl _⟩, ⟨by repeat (first | (with_reducible first | exact HB.out | apply below_alloc | apply pw_below_drewN | apply below_drew1) | exact HB.out)⟩⟩
        case rest =>
          clear HC21
          try clear c1
          try clear c2
          try clear p2
          try clear c5
          try clear c8
          try clear c11
          try clear c11b0
          try clear c11b1
          try clear c13
          try clear c13b0
          try clear c13b1
          try clear c17
          try clear c17b0
          try clear c17b1
          try clear c18
          try clear c20
          try clear c22
          try clear c24
          try clear c24b0
          try clear c24b1
          try clear c27
          try clear c27b0
          try clear c27b1
          try clear p2
          obtain ⟨kq, x11_20, rfl, HA, HJ20, HB⟩ := hcut
          cases kq with
          | zero => exact absurd HA.out (by simp [syntagmlaw01_BitsLaws.j1])
          | succ kj20 =>
            have H := HA.out
            clear HA
            simp only [syntagmlaw01_BitsLaws.j1] at H
            replace H : (if x10_7 = true then (if x11_20 = true then ((bits_In.f t215 a0).bind fun t232 => (if t232 = true then ((bits_In.f a0 t214).bind fun t233 => (if t233 = true then ((bits_In.f a0 a1).bind fun t234 => (if t234 = true then ((bits_In.f a1 a2).bind fun t235 => (if t235 = true then ((bits_In.f a0 a2).bind fun t236 => (if t236 = true then ((bits_Count.f t214).bind fun t237 => ((bits_Count.f t215).bind fun t238 => ((bits_Count.f a0).bind fun t239 => ((bits_Count.f a1).bind fun t240 => (some ((wrap64 (t237 + t238)) == (wrap64 (t239 + t240)))))))) else (some false))) else ((bits_Count.f t214).bind fun t241 => ((bits_Count.f t215).bind fun t242 => ((bits_Count.f a0).bind fun t243 => ((bits_Count.f a1).bind fun t244 => (some ((wrap64 (t241 + t242)) == (wrap64 (t243 + t244)))))))))) else ((bits_Count.f t214).bind fun t245 => ((bits_Count.f t215).bind fun t246 => ((bits_Count.f a0).bind fun t247 => ((bits_Count.f a1).bind fun t248 => (some ((wrap64 (t245 + t246)) == (wrap64 (t247 + t248)))))))))) else (some false))) else (some false))) else (some false)) else (some false)) = some r := by first | (rw [if_pos rfl] at H; exact H) | (rw [if_pos trivial] at H; exact H)
            by_cases c32 : x10_7 = true
            · subst c32
              have H1 : (if x11_20 = true then ((bits_In.f t215 a0).bind fun t232 => (if t232 = true then ((bits_In.f a0 t214).bind fun t233 => (if t233 = true then ((bits_In.f a0 a1).bind fun t234 => (if t234 = true then ((bits_In.f a1 a2).bind fun t235 => (if t235 = true then ((bits_In.f a0 a2).bind fun t236 => (if t236 = true then ((bits_Count.f t214).bind fun t237 => ((bits_Count.f t215).bind fun t238 => ((bits_Count.f a0).bind fun t239 => ((bits_Count.f a1).bind fun t240 => (some ((wrap64 (t237 + t238)) == (wrap64 (t239 + t240)))))))) else (some false))) else ((bits_Count.f t214).bind fun t241 => ((bits_Count.f t215).bind fun t242 => ((bits_Count.f a0).bind fun t243 => ((bits_Count.f a1).bind fun t244 => (some ((wrap64 (t241 + t242)) == (wrap64 (t243 + t244)))))))))) else ((bits_Count.f t214).bind fun t245 => ((bits_Count.f t215).bind fun t246 => ((bits_Count.f a0).bind fun t247 => ((bits_Count.f a1).bind fun t248 => (some ((wrap64 (t245 + t246)) == (wrap64 (t247 + t248)))))))))) else (some false))) else (some false))) else (some false)) = some r := by rw [if_pos rfl] at H; exact H
              clear H
              have H := H1
              clear H1
              by_cases c33 : x11_20 = true
              · subst c33
                have H1 : ((bits_In.f t215 a0).bind fun t232 => (if t232 = true then ((bits_In.f a0 t214).bind fun t233 => (if t233 = true then ((bits_In.f a0 a1).bind fun t234 => (if t234 = true then ((bits_In.f a1 a2).bind fun t235 => (if t235 = true then ((bits_In.f a0 a2).bind fun t236 => (if t236 = true then ((bits_Count.f t214).bind fun t237 => ((bits_Count.f t215).bind fun t238 => ((bits_Count.f a0).bind fun t239 => ((bits_Count.f a1).bind fun t240 => (some ((wrap64 (t237 + t238)) == (wrap64 (t239 + t240)))))))) else (some false))) else ((bits_Count.f t214).bind fun t241 => ((bits_Count.f t215).bind fun t242 => ((bits_Count.f a0).bind fun t243 => ((bits_Count.f a1).bind fun t244 => (some ((wrap64 (t241 + t242)) == (wrap64 (t243 + t244)))))))))) else ((bits_Count.f t214).bind fun t245 => ((bits_Count.f t215).bind fun t246 => ((bits_Count.f a0).bind fun t247 => ((bits_Count.f a1).bind fun t248 => (some ((wrap64 (t245 + t246)) == (wrap64 (t247 + t248)))))))))) else (some false))) else (some false))) = some r := by rw [if_pos rfl] at H; exact H
                clear H
                have H := H1
                clear H1
                replace H := Option.bind_eq_some_iff.mp H
                obtain ⟨t232, A340, H⟩ := H
                replace H : (if t232 = true then ((bits_In.f a0 t214).bind fun t233 => (if t233 = true then ((bits_In.f a0 a1).bind fun t234 => (if t234 = true then ((bits_In.f a1 a2).bind fun t235 => (if t235 = true then ((bits_In.f a0 a2).bind fun t236 => (if t236 = true then ((bits_Count.f t214).bind fun t237 => ((bits_Count.f t215).bind fun t238 => ((bits_Count.f a0).bind fun t239 => ((bits_Count.f a1).bind fun t240 => (some ((wrap64 (t237 + t238)) == (wrap64 (t239 + t240)))))))) else (some false))) else ((bits_Count.f t214).bind fun t241 => ((bits_Count.f t215).bind fun t242 => ((bits_Count.f a0).bind fun t243 => ((bits_Count.f a1).bind fun t244 => (some ((wrap64 (t241 + t242)) == (wrap64 (t243 + t244)))))))))) else ((bits_Count.f t214).bind fun t245 => ((bits_Count.f t215).bind fun t246 => ((bits_Count.f a0).bind fun t247 => ((bits_Count.f a1).bind fun t248 => (some ((wrap64 (t245 + t246)) == (wrap64 (t247 + t248)))))))))) else (some false))) else (some false)) = some r := H
                have A34 := Aside0.mk A340
                clear A340
                by_cases c35 : t232 = true
                · subst c35
                  have H1 : ((bits_In.f a0 t214).bind fun t233 => (if t233 = true then ((bits_In.f a0 a1).bind fun t234 => (if t234 = true then ((bits_In.f a1 a2).bind fun t235 => (if t235 = true then ((bits_In.f a0 a2).bind fun t236 => (if t236 = true then ((bits_Count.f t214).bind fun t237 => ((bits_Count.f t215).bind fun t238 => ((bits_Count.f a0).bind fun t239 => ((bits_Count.f a1).bind fun t240 => (some ((wrap64 (t237 + t238)) == (wrap64 (t239 + t240)))))))) else (some false))) else ((bits_Count.f t214).bind fun t241 => ((bits_Count.f t215).bind fun t242 => ((bits_Count.f a0).bind fun t243 => ((bits_Count.f a1).bind fun t244 => (some ((wrap64 (t241 + t242)) == (wrap64 (t243 + t244)))))))))) else ((bits_Count.f t214).bind fun t245 => ((bits_Count.f t215).bind fun t246 => ((bits_Count.f a0).bind fun t247 => ((bits_Count.f a1).bind fun t248 => (some ((wrap64 (t245 + t246)) == (wrap64 (t247 + t248)))))))))) else (some false))) = some r := by rw [if_pos rfl] at H; exact H
                  clear H
                  have H := H1
                  clear H1
                  replace H := Option.bind_eq_some_iff.mp H
                  obtain ⟨t233, A360, H⟩ := H
                  replace H : (if t233 = true then ((bits_In.f a0 a1).bind fun t234 => (if t234 = true then ((bits_In.f a1 a2).bind fun t235 => (if t235 = true then ((bits_In.f a0 a2).bind fun t236 => (if t236 = true then ((bits_Count.f t214).bind fun t237 => ((bits_Count.f t215).bind fun t238 => ((bits_Count.f a0).bind fun t239 => ((bits_Count.f a1).bind fun t240 => (some ((wrap64 (t237 + t238)) == (wrap64 (t239 + t240)))))))) else (some false))) else ((bits_Count.f t214).bind fun t241 => ((bits_Count.f t215).bind fun t242 => ((bits_Count.f a0).bind fun t243 => ((bits_Count.f a1).bind fun t244 => (some ((wrap64 (t241 + t242)) == (wrap64 (t243 + t244)))))))))) else ((bits_Count.f t214).bind fun t245 => ((bits_Count.f t215).bind fun t246 => ((bits_Count.f a0).bind fun t247 => ((bits_Count.f a1).bind fun t248 => (some ((wrap64 (t245 + t246)) == (wrap64 (t247 + t248)))))))))) else (some false)) = some r := H
                  have A36 := Aside0.mk A360
                  clear A360
                  by_cases c37 : t233 = true
                  · subst c37
                    have H1 : ((bits_In.f a0 a1).bind fun t234 => (if t234 = true then ((bits_In.f a1 a2).bind fun t235 => (if t235 = true then ((bits_In.f a0 a2).bind fun t236 => (if t236 = true then ((bits_Count.f t214).bind fun t237 => ((bits_Count.f t215).bind fun t238 => ((bits_Count.f a0).bind fun t239 => ((bits_Count.f a1).bind fun t240 => (some ((wrap64 (t237 + t238)) == (wrap64 (t239 + t240)))))))) else (some false))) else ((bits_Count.f t214).bind fun t241 => ((bits_Count.f t215).bind fun t242 => ((bits_Count.f a0).bind fun t243 => ((bits_Count.f a1).bind fun t244 => (some ((wrap64 (t241 + t242)) == (wrap64 (t243 + t244)))))))))) else ((bits_Count.f t214).bind fun t245 => ((bits_Count.f t215).bind fun t246 => ((bits_Count.f a0).bind fun t247 => ((bits_Count.f a1).bind fun t248 => (some ((wrap64 (t245 + t246)) == (wrap64 (t247 + t248)))))))))) = some r := by rw [if_pos rfl] at H; exact H
                    clear H
                    have H := H1
                    clear H1
                    replace H := Option.bind_eq_some_iff.mp H
                    obtain ⟨t234, A380, H⟩ := H
                    replace H : (if t234 = true then ((bits_In.f a1 a2).bind fun t235 => (if t235 = true then ((bits_In.f a0 a2).bind fun t236 => (if t236 = true then ((bits_Count.f t214).bind fun t237 => ((bits_Count.f t215).bind fun t238 => ((bits_Count.f a0).bind fun t239 => ((bits_Count.f a1).bind fun t240 => (some ((wrap64 (t237 + t238)) == (wrap64 (t239 + t240)))))))) else (some false))) else ((bits_Count.f t214).bind fun t241 => ((bits_Count.f t215).bind fun t242 => ((bits_Count.f a0).bind fun t243 => ((bits_Count.f a1).bind fun t244 => (some ((wrap64 (t241 + t242)) == (wrap64 (t243 + t244)))))))))) else ((bits_Count.f t214).bind fun t245 => ((bits_Count.f t215).bind fun t246 => ((bits_Count.f a0).bind fun t247 => ((bits_Count.f a1).bind fun t248 => (some ((wrap64 (t245 + t246)) == (wrap64 (t247 + t248))))))))) = some r := H
                    have A38 := Aside0.mk A380
                    clear A380
                    by_cases c39 : t234 = true
                    · subst c39
                      have H1 : ((bits_In.f a1 a2).bind fun t235 => (if t235 = true then ((bits_In.f a0 a2).bind fun t236 => (if t236 = true then ((bits_Count.f t214).bind fun t237 => ((bits_Count.f t215).bind fun t238 => ((bits_Count.f a0).bind fun t239 => ((bits_Count.f a1).bind fun t240 => (some ((wrap64 (t237 + t238)) == (wrap64 (t239 + t240)))))))) else (some false))) else ((bits_Count.f t214).bind fun t241 => ((bits_Count.f t215).bind fun t242 => ((bits_Count.f a0).bind fun t243 => ((bits_Count.f a1).bind fun t244 => (some ((wrap64 (t241 + t242)) == (wrap64 (t243 + t244)))))))))) = some r := by rw [if_pos rfl] at H; exact H
                      clear H
                      have H := H1
                      clear H1
                      replace H := Option.bind_eq_some_iff.mp H
                      obtain ⟨t235, A400, H⟩ := H
                      replace H : (if t235 = true then ((bits_In.f a0 a2).bind fun t236 => (if t236 = true then ((bits_Count.f t214).bind fun t237 => ((bits_Count.f t215).bind fun t238 => ((bits_Count.f a0).bind fun t239 => ((bits_Count.f a1).bind fun t240 => (some ((wrap64 (t237 + t238)) == (wrap64 (t239 + t240)))))))) else (some false))) else ((bits_Count.f t214).bind fun t241 => ((bits_Count.f t215).bind fun t242 => ((bits_Count.f a0).bind fun t243 => ((bits_Count.f a1).bind fun t244 => (some ((wrap64 (t241 + t242)) == (wrap64 (t243 + t244))))))))) = some r := H
                      have A40 := Aside0.mk A400
                      clear A400
                      by_cases c41 : t235 = true
                      · subst c41
                        have H1 : ((bits_In.f a0 a2).bind fun t236 => (if t236 = true then ((bits_Count.f t214).bind fun t237 => ((bits_Count.f t215).bind fun t238 => ((bits_Count.f a0).bind fun t239 => ((bits_Count.f a1).bind fun t240 => (some ((wrap64 (t237 + t238)) == (wrap64 (t239 + t240)))))))) else (some false))) = some r := by rw [if_pos rfl] at H; exact H
                        clear H
                        have H := H1
                        clear H1
                        replace H := Option.bind_eq_some_iff.mp H
                        obtain ⟨t236, A420, H⟩ := H
                        replace H : (if t236 = true then ((bits_Count.f t214).bind fun t237 => ((bits_Count.f t215).bind fun t238 => ((bits_Count.f a0).bind fun t239 => ((bits_Count.f a1).bind fun t240 => (some ((wrap64 (t237 + t238)) == (wrap64 (t239 + t240)))))))) else (some false)) = some r := H
                        have A42 := Aside0.mk A420
                        clear A420
                        by_cases c43 : t236 = true
                        · subst c43
                          have H1 : ((bits_Count.f t214).bind fun t237 => ((bits_Count.f t215).bind fun t238 => ((bits_Count.f a0).bind fun t239 => ((bits_Count.f a1).bind fun t240 => (some ((wrap64 (t237 + t238)) == (wrap64 (t239 + t240)))))))) = some r := by rw [if_pos rfl] at H; exact H
                          clear H
                          have H := H1
                          clear H1
                          replace H := Option.bind_eq_some_iff.mp H
                          obtain ⟨t237, A440, H⟩ := H
                          replace H : ((bits_Count.f t215).bind fun t238 => ((bits_Count.f a0).bind fun t239 => ((bits_Count.f a1).bind fun t240 => (some ((wrap64 (t237 + t238)) == (wrap64 (t239 + t240))))))) = some r := H
                          have A44 := Aside0.mk A440
                          clear A440
                          replace H := Option.bind_eq_some_iff.mp H
                          obtain ⟨t238, A450, H⟩ := H
                          replace H : ((bits_Count.f a0).bind fun t239 => ((bits_Count.f a1).bind fun t240 => (some ((wrap64 (t237 + t238)) == (wrap64 (t239 + t240)))))) = some r := H
                          have A45 := Aside0.mk A450
                          clear A450
                          replace H := Option.bind_eq_some_iff.mp H
                          obtain ⟨t239, A460, H⟩ := H
                          replace H : ((bits_Count.f a1).bind fun t240 => (some ((wrap64 (t237 + t238)) == (wrap64 (t239 + t240))))) = some r := H
                          have A46 := Aside0.mk A460
                          clear A460
                          replace H := Option.bind_eq_some_iff.mp H
                          obtain ⟨t240, A470, H⟩ := H
                          replace H : (some ((wrap64 (t237 + t238)) == (wrap64 (t239 + t240)))) = some r := H
                          have A47 := Aside0.mk A470
                          clear A470
                          obtain rfl := Option.some.inj H
                          go_wp2_with (first | (go_at_call 24; (with_reducible refine (bits_In.calls t215 a0 true _ A34.out).mono ?_); rintro e w' ⟨rfl, ⟨nd, rfl⟩⟩) | (go_at_call 24; (with_reducible refine (bits_In.calls a0 t214 true _ A36.out).mono ?_); rintro e w' ⟨rfl, ⟨nd, rfl⟩⟩) | (go_at_call 24; (with_reducible refine (bits_In.calls a0 a1 true _ A38.out).mono ?_); rintro e w' ⟨rfl, ⟨nd, rfl⟩⟩) | (go_at_call 24; (with_reducible refine (bits_In.calls a1 a2 true _ A40.out).mono ?_); rintro e w' ⟨rfl, ⟨nd, rfl⟩⟩) | (go_at_call 24; (with_reducible refine (bits_In.calls a0 a2 true _ A42.out).mono ?_); rintro e w' ⟨rfl, ⟨nd, rfl⟩⟩) | (go_at_call 16; (with_reducible refine (bits_Count.calls t214 t237 _ A44.out).mono ?_); rintro e w' ⟨rfl, ⟨nd, rfl⟩⟩) | (go_at_call 16; (with_reducible refine (bits_Count.calls t215 t238 _ A45.out).mono ?_); rintro e w' ⟨rfl, ⟨nd, rfl⟩⟩) | (go_at_call 16; (with_reducible refine (bits_Count.calls a0 t239 _ A46.out).mono ?_); rintro e w' ⟨rfl, ⟨nd, rfl⟩⟩) | (go_at_call 16; (with_reducible refine (bits_Count.calls a1 t240 _ A47.out).mono ?_); rintro e w' ⟨rfl, ⟨nd, rfl⟩⟩))
                          go_ret
                          exact ⟨by first | rfl | (simp [errW_none, errW_some] <;> rfl) | (simp [*, errW_none, errW_some] <;> rfl), by repeat (first | (with_reducible first | exact HB.out | apply below_alloc | apply pw_below_drewN | apply below_drew1) | exact HB.out)⟩
                        · replace c43 := Bool.eq_false_iff.mpr c43
                          subst c43
                          have H1 : (some false) = some r := by rw [if_neg (show ¬ (false = true) by decide)] at H; exact H
                          clear H
                          have H := H1
                          clear H1
                          obtain rfl := Option.some.inj H
                          go_wp2_with (first | (go_at_call 24; (with_reducible refine (bits_In.calls t215 a0 true _ A34.out).mono ?_); rintro e w' ⟨rfl, ⟨nd, rfl⟩⟩) | (go_at_call 24; (with_reducible refine (bits_In.calls a0 t214 true _ A36.out).mono ?_); rintro e w' ⟨rfl, ⟨nd, rfl⟩⟩) | (go_at_call 24; (with_reducible refine (bits_In.calls a0 a1 true _ A38.out).mono ?_); rintro e w' ⟨rfl, ⟨nd, rfl⟩⟩) | (go_at_call 24; (with_reducible refine (bits_In.calls a1 a2 true _ A40.out).mono ?_); rintro e w' ⟨rfl, ⟨nd, rfl⟩⟩) | (go_at_call 24; (with_reducible refine (bits_In.calls a0 a2 false _ A42.out).mono ?_); rintro e w' ⟨rfl, ⟨nd, rfl⟩⟩))
                          go_ret
                          exact ⟨by first | rfl | (simp [errW_none, errW_some] <;> rfl) | (simp [*, errW_none, errW_some] <;> rfl), by repeat (first | (with_reducible first | exact HB.out | apply below_alloc | apply pw_below_drewN | apply below_drew1) | exact HB.out)⟩
                      · replace c41 := Bool.eq_false_iff.mpr c41
                        subst c41
                        have H1 : ((bits_Count.f t214).bind fun t241 => ((bits_Count.f t215).bind fun t242 => ((bits_Count.f a0).bind fun t243 => ((bits_Count.f a1).bind fun t244 => (some ((wrap64 (t241 + t242)) == (wrap64 (t243 + t244)))))))) = some r := by rw [if_neg (show ¬ (false = true) by decide)] at H; exact H
                        clear H
                        have H := H1
                        clear H1
                        replace H := Option.bind_eq_some_iff.mp H
                        obtain ⟨t241, A480, H⟩ := H
                        replace H : ((bits_Count.f t215).bind fun t242 => ((bits_Count.f a0).bind fun t243 => ((bits_Count.f a1).bind fun t244 => (some ((wrap64 (t241 + t242)) == (wrap64 (t243 + t244))))))) = some r := H
                        have A48 := Aside0.mk A480
                        clear A480
                        replace H := Option.bind_eq_some_iff.mp H
                        obtain ⟨t242, A490, H⟩ := H
                        replace H : ((bits_Count.f a0).bind fun t243 => ((bits_Count.f a1).bind fun t244 => (some ((wrap64 (t241 + t242)) == (wrap64 (t243 + t244)))))) = some r := H
                        have A49 := Aside0.mk A490
                        clear A490
                        replace H := Option.bind_eq_some_iff.mp H
                        obtain ⟨t243, A500, H⟩ := H
                        replace H : ((bits_Count.f a1).bind fun t244 => (some ((wrap64 (t241 + t242)) == (wrap64 (t243 + t244))))) = some r := H
                        have A50 := Aside0.mk A500
                        clear A500
                        replace H := Option.bind_eq_some_iff.mp H
                        obtain ⟨t244, A510, H⟩ := H
                        replace H : (some ((wrap64 (t241 + t242)) == (wrap64 (t243 + t244)))) = some r := H
                        have A51 := Aside0.mk A510
                        clear A510
                        obtain rfl := Option.some.inj H
                        go_wp2_with (first | (go_at_call 24; (with_reducible refine (bits_In.calls t215 a0 true _ A34.out).mono ?_); rintro e w' ⟨rfl, ⟨nd, rfl⟩⟩) | (go_at_call 24; (with_reducible refine (bits_In.calls a0 t214 true _ A36.out).mono ?_); rintro e w' ⟨rfl, ⟨nd, rfl⟩⟩) | (go_at_call 24; (with_reducible refine (bits_In.calls a0 a1 true _ A38.out).mono ?_); rintro e w' ⟨rfl, ⟨nd, rfl⟩⟩) | (go_at_call 24; (with_reducible refine (bits_In.calls a1 a2 false _ A40.out).mono ?_); rintro e w' ⟨rfl, ⟨nd, rfl⟩⟩) | (go_at_call 16; (with_reducible refine (bits_Count.calls t214 t241 _ A48.out).mono ?_); rintro e w' ⟨rfl, ⟨nd, rfl⟩⟩) | (go_at_call 16; (with_reducible refine (bits_Count.calls t215 t242 _ A49.out).mono ?_); rintro e w' ⟨rfl, ⟨nd, rfl⟩⟩) | (go_at_call 16; (with_reducible refine (bits_Count.calls a0 t243 _ A50.out).mono ?_); rintro e w' ⟨rfl, ⟨nd, rfl⟩⟩) | (go_at_call 16; (with_reducible refine (bits_Count.calls a1 t244 _ A51.out).mono ?_); rintro e w' ⟨rfl, ⟨nd, rfl⟩⟩))
                        go_ret
                        exact ⟨by first | rfl | (simp [errW_none, errW_some] <;> rfl) | (simp [*, errW_none, errW_some] <;> rfl), by repeat (first | (with_reducible first | exact HB.out | apply below_alloc | apply pw_below_drewN | apply below_drew1) | exact HB.out)⟩
                    · replace c39 := Bool.eq_false_iff.mpr c39
                      subst c39
                      have H1 : ((bits_Count.f t214).bind fun t245 => ((bits_Count.f t215).bind fun t246 => ((bits_Count.f a0).bind fun t247 => ((bits_Count.f a1).bind fun t248 => (some ((wrap64 (t245 + t246)) == (wrap64 (t247 + t248)))))))) = some r := by rw [if_neg (show ¬ (false = true) by decide)] at H; exact H
                      clear H
                      have H := H1
                      clear H1
                      replace H := Option.bind_eq_some_iff.mp H
                      obtain ⟨t245, A520, H⟩ := H
                      replace H : ((bits_Count.f t215).bind fun t246 => ((bits_Count.f a0).bind fun t247 => ((bits_Count.f a1).bind fun t248 => (some ((wrap64 (t245 + t246)) == (wrap64 (t247 + t248))))))) = some r := H
                      have A52 := Aside0.mk A520
                      clear A520
                      replace H := Option.bind_eq_some_iff.mp H
                      obtain ⟨t246, A530, H⟩ := H
                      replace H : ((bits_Count.f a0).bind fun t247 => ((bits_Count.f a1).bind fun t248 => (some ((wrap64 (t245 + t246)) == (wrap64 (t247 + t248)))))) = some r := H
                      have A53 := Aside0.mk A530
                      clear A530
                      replace H := Option.bind_eq_some_iff.mp H
                      obtain ⟨t247, A540, H⟩ := H
                      replace H : ((bits_Count.f a1).bind fun t248 => (some ((wrap64 (t245 + t246)) == (wrap64 (t247 + t248))))) = some r := H
                      have A54 := Aside0.mk A540
                      clear A540
                      replace H := Option.bind_eq_some_iff.mp H
                      obtain ⟨t248, A550, H⟩ := H
                      replace H : (some ((wrap64 (t245 + t246)) == (wrap64 (t247 + t248)))) = some r := H
                      have A55 := Aside0.mk A550
                      clear A550
                      obtain rfl := Option.some.inj H
                      go_wp2_with (first | (go_at_call 24; (with_reducible refine (bits_In.calls t215 a0 true _ A34.out).mono ?_); rintro e w' ⟨rfl, ⟨nd, rfl⟩⟩) | (go_at_call 24; (with_reducible refine (bits_In.calls a0 t214 true _ A36.out).mono ?_); rintro e w' ⟨rfl, ⟨nd, rfl⟩⟩) | (go_at_call 24; (with_reducible refine (bits_In.calls a0 a1 false _ A38.out).mono ?_); rintro e w' ⟨rfl, ⟨nd, rfl⟩⟩) | (go_at_call 16; (with_reducible refine (bits_Count.calls t214 t245 _ A52.out).mono ?_); rintro e w' ⟨rfl, ⟨nd, rfl⟩⟩) | (go_at_call 16; (with_reducible refine (bits_Count.calls t215 t246 _ A53.out).mono ?_); rintro e w' ⟨rfl, ⟨nd, rfl⟩⟩) | (go_at_call 16; (with_reducible refine (bits_Count.calls a0 t247 _ A54.out).mono ?_); rintro e w' ⟨rfl, ⟨nd, rfl⟩⟩) | (go_at_call 16; (with_reducible refine (bits_Count.calls a1 t248 _ A55.out).mono ?_); rintro e w' ⟨rfl, ⟨nd, rfl⟩⟩))
                      go_ret
                      exact ⟨by first | rfl | (simp [errW_none, errW_some] <;> rfl) | (simp [*, errW_none, errW_some] <;> rfl), by repeat (first | (with_reducible first | exact HB.out | apply below_alloc | apply pw_below_drewN | apply below_drew1) | exact HB.out)⟩
                  · replace c37 := Bool.eq_false_iff.mpr c37
                    subst c37
                    have H1 : (some false) = some r := by rw [if_neg (show ¬ (false = true) by decide)] at H; exact H
                    clear H
                    have H := H1
                    clear H1
                    obtain rfl := Option.some.inj H
                    go_wp2_with (first | (go_at_call 24; (with_reducible refine (bits_In.calls t215 a0 true _ A34.out).mono ?_); rintro e w' ⟨rfl, ⟨nd, rfl⟩⟩) | (go_at_call 24; (with_reducible refine (bits_In.calls a0 t214 false _ A36.out).mono ?_); rintro e w' ⟨rfl, ⟨nd, rfl⟩⟩))
                    go_ret
                    exact ⟨by first | rfl | (simp [errW_none, errW_some] <;> rfl) | (simp [*, errW_none, errW_some] <;> rfl), by repeat (first | (with_reducible first | exact HB.out | apply below_alloc | apply pw_below_drewN | apply below_drew1) | exact HB.out)⟩
                · replace c35 := Bool.eq_false_iff.mpr c35
                  subst c35
                  have H1 : (some false) = some r := by rw [if_neg (show ¬ (false = true) by decide)] at H; exact H
                  clear H
                  have H := H1
                  clear H1
                  obtain rfl := Option.some.inj H
                  go_wp2_with (first | (go_at_call 24; (with_reducible refine (bits_In.calls t215 a0 false _ A34.out).mono ?_); rintro e w' ⟨rfl, ⟨nd, rfl⟩⟩))
                  go_ret
                  exact ⟨by first | rfl | (simp [errW_none, errW_some] <;> rfl) | (simp [*, errW_none, errW_some] <;> rfl), by repeat (first | (with_reducible first | exact HB.out | apply below_alloc | apply pw_below_drewN | apply below_drew1) | exact HB.out)⟩
              · replace c33 := Bool.eq_false_iff.mpr c33
                subst c33
                have H1 : (some false) = some r := by rw [if_neg (show ¬ (false = true) by decide)] at H; exact H
                clear H
                have H := H1
                clear H1
                obtain rfl := Option.some.inj H
                go_wp2
                go_ret
                exact ⟨by first | rfl | (simp [errW_none, errW_some] <;> rfl) | (simp [*, errW_none, errW_some] <;> rfl), by repeat (first | (with_reducible first | exact HB.out | apply below_alloc | apply pw_below_drewN | apply below_drew1) | exact HB.out)⟩
            · replace c32 := Bool.eq_false_iff.mpr c32
              subst c32
              have H1 : (some false) = some r := by rw [if_neg (show ¬ (false = true) by decide)] at H; exact H
              clear H
              have H := H1
              clear H1
              obtain rfl := Option.some.inj H
              go_wp2
              go_ret
              exact ⟨by first | rfl | (simp [errW_none, errW_some] <;> rfl) | (simp [*, errW_none, errW_some] <;> rfl), by repeat (first | (with_reducible first | exact HB.out | apply below_alloc | apply pw_below_drewN | apply below_drew1) | exact HB.out)⟩
  · replace c5 := Bool.eq_false_iff.mpr c5
    subst c5
    have H1 : (some false) = some r := by rw [if_neg (show ¬ (false = true) by decide)] at H; exact H
    clear H
    have H := H1
    clear H1
    obtain rfl := Option.some.inj H
    go_enter Tryd.func5, Tryd.ntmps5
    go_wp2_with (first | ((with_reducible refine gate_callee (f := 8) rfl ?_); refine goesL_ (some 12) rfl rfl Tryd.func8 (by kernel_rfl) rfl #[] rfl (by (try simp only [List.map_toArray, List.map_cons, List.map_nil]); first | done | rfl | (simp only [List.length_drop, List.length_take]; rfl)) ?_; (with_reducible refine (syntagmlaw01_works.calls k  false _ ?side1 A4.out).mono ?_); (case side1 => exact GTab.below HG.out (by repeat (first | (with_reducible first | exact HB.out | apply below_alloc | apply pw_below_drewN | apply below_drew1) | exact HB.out))); rintro e w56 ⟨rfl, hb⟩; refine ⟨_, rfl, ?_⟩; have n0_ := Aside0.mk (below_step (by repeat (first | (with_reducible first | exact HB.out | apply below_alloc | apply pw_below_drewN | apply below_drew1) | exact HB.out)) hb); clear HB; have HB := n0_; clear n0_; (try clear hb); (try clear hb2); (try clear hk); (try clear hi)))
    go_ret
    exact ⟨by first | rfl | (simp [errW_none, errW_some] <;> rfl) | (simp [*, errW_none, errW_some] <;> rfl), by repeat (first | (with_reducible first | exact HB.out | apply below_alloc | apply pw_below_drewN | apply below_drew1) | exact HB.out)⟩

end Go.Proofs.YtknkgponjjghcaaDoor.P
