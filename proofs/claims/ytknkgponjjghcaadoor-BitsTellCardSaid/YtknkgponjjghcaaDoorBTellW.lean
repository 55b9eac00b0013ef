/- syntagmlaw01.BitsTell: its call comes to the printed function's answer (conditions: the hypotheses of '.calls'). Written by wip/tools/pw.py, some steps by hand. -/
import Derived.Test.YtknkgponjjghcaaDoorPx0
import Derived.Test.YtknkgponjjghcaaDoorPx1
import Derived.Test.YtknkgponjjghcaaDoorPx2
import Derived.Test.YtknkgponjjghcaaDoorPx3
import Derived.Test.YtknkgponjjghcaaDoorPx4
import Derived.Test.YtknkgponjjghcaaDoorPx5
import Derived.Test.YtknkgponjjghcaaDoorBList
import Derived.Test.YtknkgponjjghcaaDoorBTz
namespace Go.Proofs.YtknkgponjjghcaaDoor.P
open Go.RowKit Go.Proofs.YtknkgponjjghcaaDoorW.PrintWords Go.Proofs.YtknkgponjjghcaaDoorW.PrintLast Go.Proofs.YtknkgponjjghcaaDoorW.PrintMore
attribute [local go_sem] max2_int min2_int max_two min_two max_three min_three max_four min_four   -- for this text's walks alone
set_option linter.unusedVariables false
set_option linter.unusedSimpArgs false

/-! ### syntagmlaw01_BitsTell: function 3 -/
mutual
def syntagmlaw01_BitsTell.j0 : Nat → Int → Int → List Int → Int → Bool → List Int → Int → Option (Bool)
  | 0, _, _, _, _, _, _, _ => none
  | k + 1, x0, x1, x2, x3, x9, x10, x11 => (bits_Of.f k x2).bind fun t165 => ((syntagmref01_Of.f k x2).bind fun t166 => (if t165 = t166 then ((bits_List.f x0).bind fun t167 => ((syntagmref01_Row.f k t167 x10).bind fun t170 => (if t170 = true then ((bits_Has.f x0 x3).bind fun t171 => ((syntagmref01_Has.f k x0 x3).bind fun t172 => (if (t171 == t172) = true then ((bits_Count.f x0).bind fun t173 => (if t173 = (x10.length : Int) then ((bits_First.f x0).bind fun t174 => (syntagmlaw01_BitsTell.j1 k x0 x1 x3 x9 (t174 == x11))) else (syntagmlaw01_BitsTell.j1 k x0 x1 x3 x9 false))) else (syntagmlaw01_BitsTell.j1 k x0 x1 x3 x9 false)))) else (syntagmlaw01_BitsTell.j1 k x0 x1 x3 x9 false)))) else (syntagmlaw01_BitsTell.j1 k x0 x1 x3 x9 false)))
def syntagmlaw01_BitsTell.j1 : Nat → Int → Int → Int → Bool → Bool → Option (Bool)
  | 0, _, _, _, _, _ => none
  | k + 1, x0, x1, x3, x9, x12 => (bits_Union.f x0 x1).bind fun t175 => ((syntagmref01_Union.f k x0 x1).bind fun t176 => (if t175 = t176 then ((bits_Meet.f x0 x1).bind fun t177 => ((syntagmref01_Meet.f k x0 x1).bind fun t178 => (if t177 = t178 then ((bits_Less.f x0 x1).bind fun t179 => ((syntagmref01_Less.f k x0 x1).bind fun t180 => (syntagmlaw01_BitsTell.j2 k x0 x1 x3 x9 x12 (t179 == t180)))) else (syntagmlaw01_BitsTell.j2 k x0 x1 x3 x9 x12 false)))) else (syntagmlaw01_BitsTell.j2 k x0 x1 x3 x9 x12 false)))
def syntagmlaw01_BitsTell.j2 : Nat → Int → Int → Int → Bool → Bool → Bool → Option (Bool)
  | 0, _, _, _, _, _, _ => none
  | k + 1, x0, x1, x3, x9, x12, x13 => if x9 = true then (if x12 = true then (if x13 = true then ((bits_In.f x0 x1).bind fun t181 => ((syntagmref01_Less.f k x0 x1).bind fun t182 => (if (t181 == (t182 == 0)) = true then ((bits_With.f x0 x3).bind fun t183 => ((syntagmref01_Of.f k (([x3] : List Int))).bind fun t187 => ((syntagmref01_Union.f k x0 t187).bind fun t188 => (if t183 = t188 then ((bits_Without.f x0 x3).bind fun t189 => ((syntagmref01_Of.f k (([x3] : List Int))).bind fun t193 => ((syntagmref01_Less.f k x0 t193).bind fun t194 => (some (t189 == t194))))) else (some false))))) else (some false)))) else (some false)) else (some false)) else (some false)
end
def syntagmlaw01_BitsTell.f (k : Nat) (a0 : Int) (a1 : Int) (l2 : List Int) (a3 : Int) : Option (Bool) := (syntagmlaw01_works.f k).bind fun t160 => (if t160 = true then (if (l2.length : Int) > 1000 then (some t160) else ((syntagmref01_List.f k a0).bind fun t161 => (if (t161.length : Int) > 0 then (if 0 < (t161.length : Int) then (syntagmlaw01_BitsTell.j0 k a0 a1 l2 a3 t160 t161 (rd t161 0)) else (none)) else (syntagmlaw01_BitsTell.j0 k a0 a1 l2 a3 t160 t161 (-1))))) else (some false))
theorem syntagmlaw01_BitsTell.mono_l : ∀ k, (∀ y0 y1 y2 y3 y4 y5 y6, LeO (syntagmlaw01_BitsTell.j0 k y0 y1 y2 y3 y4 y5 y6) (syntagmlaw01_BitsTell.j0 (k + 1) y0 y1 y2 y3 y4 y5 y6)) ∧ (∀ y0 y1 y2 y3 y4, LeO (syntagmlaw01_BitsTell.j1 k y0 y1 y2 y3 y4) (syntagmlaw01_BitsTell.j1 (k + 1) y0 y1 y2 y3 y4)) ∧ (∀ y0 y1 y2 y3 y4 y5, LeO (syntagmlaw01_BitsTell.j2 k y0 y1 y2 y3 y4 y5) (syntagmlaw01_BitsTell.j2 (k + 1) y0 y1 y2 y3 y4 y5))
  | 0 => ⟨fun _ _ _ _ _ _ _ r h => by simp [syntagmlaw01_BitsTell.j0] at h, fun _ _ _ _ _ r h => by simp [syntagmlaw01_BitsTell.j1] at h, fun _ _ _ _ _ _ r h => by simp [syntagmlaw01_BitsTell.j2] at h⟩
  | k + 1 => by
    obtain ⟨ih0, ih1, ih2⟩ := syntagmlaw01_BitsTell.mono_l k
    refine ⟨?_, ?_, ?_⟩
    · intro y0 y1 y2 y3 y4 y5 y6
      unfold syntagmlaw01_BitsTell.j0
      repeat' first
      | (with_reducible exact ih0 _ _ _ _ _ _ _)
      | (with_reducible exact ih1 _ _ _ _ _)
      | (with_reducible exact ih2 _ _ _ _ _ _)
      | (with_reducible exact bits_Of.mono _ _)
      | (with_reducible exact syntagmlaw01_works.mono _)
      | (with_reducible exact syntagmref01_Has.mono _ _ _)
      | (with_reducible exact syntagmref01_Less.mono _ _ _)
      | (with_reducible exact syntagmref01_List.mono _ _)
      | (with_reducible exact syntagmref01_Meet.mono _ _ _)
      | (with_reducible exact syntagmref01_Of.mono _ _)
      | (with_reducible exact syntagmref01_Row.mono _ _ _)
      | (with_reducible exact syntagmref01_Union.mono _ _ _)
      | (with_reducible exact LeO.refl _)
      | (with_reducible exact LeO.none _)
      | (with_reducible refine LeO.ite ?_ ?_)
      | (with_reducible refine LeO.bind ?_ (fun _ => ?_))
      | exact ih0 _ _ _ _ _ _ _
      | exact ih1 _ _ _ _ _
      | exact ih2 _ _ _ _ _ _
      | exact bits_Of.mono _ _
      | exact syntagmlaw01_works.mono _
      | exact syntagmref01_Has.mono _ _ _
      | exact syntagmref01_Less.mono _ _ _
      | exact syntagmref01_List.mono _ _
      | exact syntagmref01_Meet.mono _ _ _
      | exact syntagmref01_Of.mono _ _
      | exact syntagmref01_Row.mono _ _ _
      | exact syntagmref01_Union.mono _ _ _
      | exact LeO.none _
      | refine LeO.ite ?_ ?_
      | refine LeO.bind ?_ (fun _ => ?_)
    · intro y0 y1 y2 y3 y4
      unfold syntagmlaw01_BitsTell.j1
      repeat' first
      | (with_reducible exact ih0 _ _ _ _ _ _ _)
      | (with_reducible exact ih1 _ _ _ _ _)
      | (with_reducible exact ih2 _ _ _ _ _ _)
      | (with_reducible exact bits_Of.mono _ _)
      | (with_reducible exact syntagmlaw01_works.mono _)
      | (with_reducible exact syntagmref01_Has.mono _ _ _)
      | (with_reducible exact syntagmref01_Less.mono _ _ _)
      | (with_reducible exact syntagmref01_List.mono _ _)
      | (with_reducible exact syntagmref01_Meet.mono _ _ _)
      | (with_reducible exact syntagmref01_Of.mono _ _)
      | (with_reducible exact syntagmref01_Row.mono _ _ _)
      | (with_reducible exact syntagmref01_Union.mono _ _ _)
      | (with_reducible exact LeO.refl _)
      | (with_reducible exact LeO.none _)
      | (with_reducible refine LeO.ite ?_ ?_)
      | (with_reducible refine LeO.bind ?_ (fun _ => ?_))
      | exact ih0 _ _ _ _ _ _ _
      | exact ih1 _ _ _ _ _
      | exact ih2 _ _ _ _ _ _
      | exact bits_Of.mono _ _
      | exact syntagmlaw01_works.mono _
      | exact syntagmref01_Has.mono _ _ _
      | exact syntagmref01_Less.mono _ _ _
      | exact syntagmref01_List.mono _ _
      | exact syntagmref01_Meet.mono _ _ _
      | exact syntagmref01_Of.mono _ _
      | exact syntagmref01_Row.mono _ _ _
      | exact syntagmref01_Union.mono _ _ _
      | exact LeO.none _
      | refine LeO.ite ?_ ?_
      | refine LeO.bind ?_ (fun _ => ?_)
    · intro y0 y1 y2 y3 y4 y5
      unfold syntagmlaw01_BitsTell.j2
      repeat' first
      | (with_reducible exact ih0 _ _ _ _ _ _ _)
      | (with_reducible exact ih1 _ _ _ _ _)
      | (with_reducible exact ih2 _ _ _ _ _ _)
      | (with_reducible exact bits_Of.mono _ _)
      | (with_reducible exact syntagmlaw01_works.mono _)
      | (with_reducible exact syntagmref01_Has.mono _ _ _)
      | (with_reducible exact syntagmref01_Less.mono _ _ _)
      | (with_reducible exact syntagmref01_List.mono _ _)
      | (with_reducible exact syntagmref01_Meet.mono _ _ _)
      | (with_reducible exact syntagmref01_Of.mono _ _)
      | (with_reducible exact syntagmref01_Row.mono _ _ _)
      | (with_reducible exact syntagmref01_Union.mono _ _ _)
      | (with_reducible exact LeO.refl _)
      | (with_reducible exact LeO.none _)
      | (with_reducible refine LeO.ite ?_ ?_)
      | (with_reducible refine LeO.bind ?_ (fun _ => ?_))
      | exact ih0 _ _ _ _ _ _ _
      | exact ih1 _ _ _ _ _
      | exact ih2 _ _ _ _ _ _
      | exact bits_Of.mono _ _
      | exact syntagmlaw01_works.mono _
      | exact syntagmref01_Has.mono _ _ _
      | exact syntagmref01_Less.mono _ _ _
      | exact syntagmref01_List.mono _ _
      | exact syntagmref01_Meet.mono _ _ _
      | exact syntagmref01_Of.mono _ _
      | exact syntagmref01_Row.mono _ _ _
      | exact syntagmref01_Union.mono _ _ _
      | exact LeO.none _
      | refine LeO.ite ?_ ?_
      | refine LeO.bind ?_ (fun _ => ?_)
theorem syntagmlaw01_BitsTell.mono : ∀ a0 a1 a2 a3 k, LeO (syntagmlaw01_BitsTell.f k a0 a1 a2 a3) (syntagmlaw01_BitsTell.f (k + 1) a0 a1 a2 a3) := by
  intro a0 a1 a2 a3 k
  obtain ⟨ih0, ih1, ih2⟩ := syntagmlaw01_BitsTell.mono_l k
  unfold syntagmlaw01_BitsTell.f
  repeat' first
      | (with_reducible exact ih0 _ _ _ _ _ _ _)
      | (with_reducible exact ih1 _ _ _ _ _)
      | (with_reducible exact ih2 _ _ _ _ _ _)
      | (with_reducible exact bits_Of.mono _ _)
      | (with_reducible exact syntagmlaw01_works.mono _)
      | (with_reducible exact syntagmref01_Has.mono _ _ _)
      | (with_reducible exact syntagmref01_Less.mono _ _ _)
      | (with_reducible exact syntagmref01_List.mono _ _)
      | (with_reducible exact syntagmref01_Meet.mono _ _ _)
      | (with_reducible exact syntagmref01_Of.mono _ _)
      | (with_reducible exact syntagmref01_Row.mono _ _ _)
      | (with_reducible exact syntagmref01_Union.mono _ _ _)
      | (with_reducible exact LeO.refl _)
      | (with_reducible exact LeO.none _)
      | (with_reducible refine LeO.ite ?_ ?_)
      | (with_reducible refine LeO.bind ?_ (fun _ => ?_))
      | exact ih0 _ _ _ _ _ _ _
      | exact ih1 _ _ _ _ _
      | exact ih2 _ _ _ _ _ _
      | exact bits_Of.mono _ _
      | exact syntagmlaw01_works.mono _
      | exact syntagmref01_Has.mono _ _ _
      | exact syntagmref01_Less.mono _ _ _
      | exact syntagmref01_List.mono _ _
      | exact syntagmref01_Meet.mono _ _ _
      | exact syntagmref01_Of.mono _ _
      | exact syntagmref01_Row.mono _ _ _
      | exact syntagmref01_Union.mono _ _ _
      | exact LeO.none _
      | refine LeO.ite ?_ ?_
      | refine LeO.bind ?_ (fun _ => ?_)
set_option maxHeartbeats 8000000 in
set_option maxRecDepth 100000 in
theorem syntagmlaw01_BitsTell.calls (k : Nat) (a0 : Int) (a1 : Int) (A2 : Option Addr) (c2 : Nat) (l2 : List Int) (a3 : Int) (r : Bool) (w : World) (hG : GTab w) (hr2 : Kd.C (Kd.int .i64) w A2 l2.length l2) (hc2 : l2.length ≤ c2) (h : syntagmlaw01_BitsTell.f k a0 a1 l2 a3 = some r) :
    Calls Tryd.prog 3 #[.int .u64 a0, .int .u64 a1, .slice A2 l2.length c2, .int .i64 a3] w fun e w' => e = .returned (.bool r) ∧ Below w.heap.size w w' := by
  have HG := Aside0.mk hG
  clear hG
  have HR2 := Aside0.mk hr2
  have HC2 := Aside0.mk hc2
  clear hr2 hc2
  have HB := Aside0.mk (Below.refl w.heap.size w)
  have H : ((syntagmlaw01_works.f k).bind fun t160 => (if t160 = true then (if (l2.length : Int) > 1000 then (some t160) else ((syntagmref01_List.f k a0).bind fun t161 => (if (t161.length : Int) > 0 then (if 0 < (t161.length : Int) then (syntagmlaw01_BitsTell.j0 k a0 a1 l2 a3 t160 t161 (rd t161 0)) else (none)) else (syntagmlaw01_BitsTell.j0 k a0 a1 l2 a3 t160 t161 (-1))))) else (some false))) = some r := h
  clear h
  replace H := Option.bind_eq_some_iff.mp H
  obtain ⟨t160, A50, H⟩ := H
  replace H : (if t160 = true then (if (l2.length : Int) > 1000 then (some t160) else ((syntagmref01_List.f k a0).bind fun t161 => (if (t161.length : Int) > 0 then (if 0 < (t161.length : Int) then (syntagmlaw01_BitsTell.j0 k a0 a1 l2 a3 t160 t161 (rd t161 0)) else (none)) else (syntagmlaw01_BitsTell.j0 k a0 a1 l2 a3 t160 t161 (-1))))) else (some false)) = some r := H
  have A5 := Aside0.mk A50
  clear A50
  by_cases c6 : t160 = true
  · subst c6
    have H1 : (if (l2.length : Int) > 1000 then (some true) else ((syntagmref01_List.f k a0).bind fun t161 => (if (t161.length : Int) > 0 then (if 0 < (t161.length : Int) then (syntagmlaw01_BitsTell.j0 k a0 a1 l2 a3 true t161 (rd t161 0)) else (none)) else (syntagmlaw01_BitsTell.j0 k a0 a1 l2 a3 true t161 (-1))))) = some r := by rw [if_pos rfl] at H; exact H
    clear H
    have H := H1
    clear H1
    by_cases c7 : (l2.length : Int) > 1000
    · rw [if_pos c7] at H
      have c7b0 : decide (1000 < (l2.length : Int)) = true := decide_eq_true c7
      have c7b1 : decide (1000 < l2.length) = true := decide_eq_true (by omega)
      clear c7
      obtain rfl := Option.some.inj H
      go_enter Tryd.func3, Tryd.ntmps3
      go_wp2_with (first | ((with_reducible refine gate_callee (f := 8) rfl ?_); refine goesL_ (some 14) rfl rfl Tryd.func8 (by kernel_rfl) rfl #[] rfl (by (try simp only [List.map_toArray, List.map_cons, List.map_nil]); first | done | rfl | (simp only [List.length_drop, List.length_take]; rfl)) ?_; (with_reducible refine (syntagmlaw01_works.calls k  true _ ?side1 A5.out).mono ?_); (case side1 => exact GTab.below HG.out (by repeat (first | (with_reducible first | exact HB.out | apply below_alloc | apply pw_below_drewN | apply below_drew1) | exact HB.out))); rintro e w8 ⟨rfl, hb⟩; refine ⟨_, rfl, ?_⟩; have n0_ := Aside0.mk (below_step (by repeat (first | (with_reducible first | exact HB.out | apply below_alloc | apply pw_below_drewN | apply below_drew1) | exact HB.out)) hb); clear HB; have HB := n0_; clear n0_; (try clear hb); (try clear hb2); (try clear hk); (try clear hi)))
      go_ret
      exact ⟨by first | rfl | (simp [errW_none, errW_some] <;> rfl) | (simp [*, errW_none, errW_some] <;> rfl), by repeat (first | (with_reducible first | exact HB.out | apply below_alloc | apply pw_below_drewN | apply below_drew1) | exact HB.out)⟩
    · rw [if_neg c7] at H
      have c7b0 : decide (1000 < (l2.length : Int)) = false := decide_eq_false c7
      have c7b1 : decide (1000 < l2.length) = false := decide_eq_false (by omega)
      clear c7
      replace H := Option.bind_eq_some_iff.mp H
      obtain ⟨t161, A90, H⟩ := H
      replace H : (if (t161.length : Int) > 0 then (if 0 < (t161.length : Int) then (syntagmlaw01_BitsTell.j0 k a0 a1 l2 a3 true t161 (rd t161 0)) else (none)) else (syntagmlaw01_BitsTell.j0 k a0 a1 l2 a3 true t161 (-1))) = some r := H
      have A9 := Aside0.mk A90
      clear A90
      have HC10 := Aside0.mk H
      clear H
      go_enter Tryd.func3, Tryd.ntmps3
      go_upto_if 25 with (first | ((with_reducible refine gate_callee (f := 8) rfl ?_); refine goesL_ (some 14) rfl rfl Tryd.func8 (by kernel_rfl) rfl #[] rfl (by (try simp only [List.map_toArray, List.map_cons, List.map_nil]); first | done | rfl | (simp only [List.length_drop, List.length_take]; rfl)) ?_; (with_reducible refine (syntagmlaw01_works.calls k  true _ ?side1 A5.out).mono ?_); (case side1 => exact GTab.below HG.out (by repeat (first | (with_reducible first | exact HB.out | apply below_alloc | apply pw_below_drewN | apply below_drew1) | exact HB.out))); rintro e w11 ⟨rfl, hb⟩; refine ⟨_, rfl, ?_⟩; have n0_ := Aside0.mk (below_step (by repeat (first | (with_reducible first | exact HB.out | apply below_alloc | apply pw_below_drewN | apply below_drew1) | exact HB.out)) hb); clear HB; have HB := n0_; clear n0_; (try clear hb); (try clear hb2); (try clear hk); (try clear hi)) | ((with_reducible refine gate_callee (f := 9) rfl ?_); refine goesL_ (some 22) rfl rfl Tryd.func9 (by kernel_rfl) rfl #[.int .u64 a0] rfl (by (try simp only [List.map_toArray, List.map_cons, List.map_nil]); first | done | rfl | (simp only [List.length_drop, List.length_take]; rfl)) ?_; (with_reducible refine (syntagmref01_List.calls k a0 t161 _ A9.out).mono ?_); rintro e w12 ⟨v162, rfl, ho0, hb⟩; refine ⟨_, rfl, ?_⟩; have n0_ := Aside0.mk (Kd.R_lower ho0 (below_size (by repeat (first | (with_reducible first | exact HB.out | apply below_alloc | apply pw_below_drewN | apply below_drew1) | exact HB.out)))); have n1_ := Aside0.mk (below_step (by repeat (first | (with_reducible first | exact HB.out | apply below_alloc | apply pw_below_drewN | apply below_drew1) | exact HB.out)) hb); clear HB; have HO163 := n0_; have HB := n1_; clear n0_ n1_; (try clear hb); (try clear hb2); (try clear hk); (try clear hi); (try clear ho0); obtain ⟨Ao13, co13, eo13⟩ := Kd.R_slice HO163.out; subst eo13))
      (try simp only [Act.put, List.setIfInBounds_toArray, List.set_cons_zero, List.set_cons_succ])
      go_cut [11] (fun v11 wc => ∃ (kq : Nat) (x11_9 : Int), v11 = .int .i64 x11_9 ∧ Aside0 (syntagmlaw01_BitsTell.j0 kq a0 a1 l2 a3 true t161 x11_9 = some r) ∧ Aside0 (kq ≤ k) ∧ Aside0 (Kd.R (Kd.int .i64) 3 wc w.heap.size (fun _ => True) (.slice Ao13 t161.length co13) t161) ∧ Aside0 (Below w.heap.size w wc))
      case first =>
        have H := HC10.out
        clear HC10
        by_cases c14 : (t161.length : Int) > 0
        · rw [if_pos c14] at H
          have c14b0 : decide (0 < (t161.length : Int)) = true := decide_eq_true c14
          have c14b1 : decide (0 < t161.length) = true := decide_eq_true (by omega)
          clear c14
          (first | rw [c14b1] | rw [c14b0] | (simp only [i64_w, i32_w]; rw [c14b0]) | skip)
          by_cases c15 : 0 < (t161.length : Int)
          · rw [if_pos c15] at H
            have c15b0 : decide (0 < (t161.length : Int)) = true := decide_eq_true c15
            have c15b1 : decide (0 < t161.length) = true := decide_eq_true (by omega)
            clear c15
            have H' := Aside0.mk H
            clear H
            have p164 : 0 ≤ (0 : Int) := (by omega)
            have q164 : 0 < (t161.length : Int) := of_decide_eq_true (by first | (with_reducible assumption) | assumption)
            obtain ⟨ad164, e164, hx164_0⟩ := Kd.at_int (Kd.R_reads' HO163.out).2.2 0 p164 q164
            cases e164
            have qi164 : (0 < t161.length) = True := eq_true (by omega)
            (try rw [show ((0 : Int)).toNat = 0 from rfl] at hx164_0)
            (try rw [Addr.add_zero'] at hx164_0)
            replace p164 := eq_true p164
            replace q164 := eq_true q164
            go_wp2
            go_meet
            case rel => exact ⟨_, (rd t161 0), (by first | rfl | (simp; done) | (simp [*]; done)), H', ⟨by first | omega | exact Nat.le_refl _⟩, ⟨by (with_reducible repeat (first | apply Kd.R_alloc | apply Kd.R_drewN | apply Kd.R_drew)); exact HO163.out⟩, ⟨by repeat (first | (with_reducible first | exact HB.out | apply below_alloc | apply pw_below_drewN | apply below_drew1) | exact HB.out)⟩⟩
          · rw [if_neg c15] at H
            exact absurd H (by simp)
        · rw [if_neg c14] at H
          have c14b0 : decide (0 < (t161.length : Int)) = false := decide_eq_false c14
          have c14b1 : decide (0 < t161.length) = false := decide_eq_false (by omega)
          clear c14
          (first | rw [c14b1] | rw [c14b0] | (simp only [i64_w, i32_w]; rw [c14b0]) | skip)
          have H' := Aside0.mk H
          clear H
          go_wp2
          go_meet
          case rel => exact ⟨_, ((-1)), (by first | rfl | (simp; done) | (simp [*]; done)), H', ⟨by first | omega | exact Nat.le_refl _⟩, ⟨by (with_reducible repeat (first | apply Kd.R_alloc | apply Kd.R_drewN | apply Kd.R_drew)); exact HO163.out⟩, ⟨by repeat (first | (with_reducible first | exact HB.out | apply below_alloc | apply pw_below_drewN | apply below_drew1) | exact HB.out)⟩⟩
      case rest =>
        clear HC10
        try clear c1
        try clear p1
        try clear q1
        try clear hx1
        try clear qi1
        try clear c2
        try clear p2
        try clear c3
        try clear c6
        try clear c7
        try clear c7b0
        try clear c7b1
        try clear c8
        try clear c9
        try clear c14
        try clear c14b0
        try clear c14b1
        try clear c15
        try clear c15b0
        try clear c15b1
        try clear hx164_0
        try clear p164
        try clear q164
        obtain ⟨kq, x11_9, rfl, HA, HJ9, HO_10, HB⟩ := hcut
        cases kq with
        | zero => exact absurd HA.out (by simp [syntagmlaw01_BitsTell.j0])
        | succ kj9 =>
          have H := HA.out
          clear HA
          simp only [syntagmlaw01_BitsTell.j0] at H
          have HC16 := Aside0.mk H
          clear H
          go_upto_region 10 with (fail)
          go_cut [12] (fun v12 wc => ∃ (kq : Nat) (x12_15 : Bool), v12 = .bool x12_15 ∧ Aside0 (syntagmlaw01_BitsTell.j1 kq a0 a1 a3 true x12_15 = some r) ∧ Aside0 (kq ≤ kj9) ∧ Aside0 (Below w.heap.size w wc))
          case first =>
            have H := HC16.out
            clear HC16
            replace H := Option.bind_eq_some_iff.mp H
            obtain ⟨t165, A170, H⟩ := H
            replace H : ((syntagmref01_Of.f kj9 l2).bind fun t166 => (if t165 = t166 then ((bits_List.f a0).bind fun t167 => ((syntagmref01_Row.f kj9 t167 t161).bind fun t170 => (if t170 = true then ((bits_Has.f a0 a3).bind fun t171 => ((syntagmref01_Has.f kj9 a0 a3).bind fun t172 => (if (t171 == t172) = true then ((bits_Count.f a0).bind fun t173 => (if t173 = (t161.length : Int) then ((bits_First.f a0).bind fun t174 => (syntagmlaw01_BitsTell.j1 kj9 a0 a1 a3 true (t174 == x11_9))) else (syntagmlaw01_BitsTell.j1 kj9 a0 a1 a3 true false))) else (syntagmlaw01_BitsTell.j1 kj9 a0 a1 a3 true false)))) else (syntagmlaw01_BitsTell.j1 kj9 a0 a1 a3 true false)))) else (syntagmlaw01_BitsTell.j1 kj9 a0 a1 a3 true false))) = some r := H
            have A17 := Aside0.mk A170
            clear A170
            replace H := Option.bind_eq_some_iff.mp H
            obtain ⟨t166, A180, H⟩ := H
            replace H : (if t165 = t166 then ((bits_List.f a0).bind fun t167 => ((syntagmref01_Row.f kj9 t167 t161).bind fun t170 => (if t170 = true then ((bits_Has.f a0 a3).bind fun t171 => ((syntagmref01_Has.f kj9 a0 a3).bind fun t172 => (if (t171 == t172) = true then ((bits_Count.f a0).bind fun t173 => (if t173 = (t161.length : Int) then ((bits_First.f a0).bind fun t174 => (syntagmlaw01_BitsTell.j1 kj9 a0 a1 a3 true (t174 == x11_9))) else (syntagmlaw01_BitsTell.j1 kj9 a0 a1 a3 true false))) else (syntagmlaw01_BitsTell.j1 kj9 a0 a1 a3 true false)))) else (syntagmlaw01_BitsTell.j1 kj9 a0 a1 a3 true false)))) else (syntagmlaw01_BitsTell.j1 kj9 a0 a1 a3 true false)) = some r := H
            have A18 := Aside0.mk A180
            clear A180
            by_cases c19 : t165 = t166
            · rw [if_pos c19] at H
              have c19b0 : (t165 == t166) = true := beq_iff_eq.mpr c19
              have c19b1 : (t165 != t166) = false := bne_eq_false_iff_eq.mpr c19
              clear c19
              (first | rw [c19b0] | (simp only [i64_w, i32_w]; rw [c19b0]) | skip)
              replace H := Option.bind_eq_some_iff.mp H
              obtain ⟨t167, A200, H⟩ := H
              replace H : ((syntagmref01_Row.f kj9 t167 t161).bind fun t170 => (if t170 = true then ((bits_Has.f a0 a3).bind fun t171 => ((syntagmref01_Has.f kj9 a0 a3).bind fun t172 => (if (t171 == t172) = true then ((bits_Count.f a0).bind fun t173 => (if t173 = (t161.length : Int) then ((bits_First.f a0).bind fun t174 => (syntagmlaw01_BitsTell.j1 kj9 a0 a1 a3 true (t174 == x11_9))) else (syntagmlaw01_BitsTell.j1 kj9 a0 a1 a3 true false))) else (syntagmlaw01_BitsTell.j1 kj9 a0 a1 a3 true false)))) else (syntagmlaw01_BitsTell.j1 kj9 a0 a1 a3 true false))) = some r := H
              have A20 := Aside0.mk A200
              clear A200
              replace H := Option.bind_eq_some_iff.mp H
              obtain ⟨t170, A210, H⟩ := H
              replace H : (if t170 = true then ((bits_Has.f a0 a3).bind fun t171 => ((syntagmref01_Has.f kj9 a0 a3).bind fun t172 => (if (t171 == t172) = true then ((bits_Count.f a0).bind fun t173 => (if t173 = (t161.length : Int) then ((bits_First.f a0).bind fun t174 => (syntagmlaw01_BitsTell.j1 kj9 a0 a1 a3 true (t174 == x11_9))) else (syntagmlaw01_BitsTell.j1 kj9 a0 a1 a3 true false))) else (syntagmlaw01_BitsTell.j1 kj9 a0 a1 a3 true false)))) else (syntagmlaw01_BitsTell.j1 kj9 a0 a1 a3 true false)) = some r := H
              have A21 := Aside0.mk A210
              clear A210
              by_cases c22 : t170 = true
              · subst c22
                have H1 : ((bits_Has.f a0 a3).bind fun t171 => ((syntagmref01_Has.f kj9 a0 a3).bind fun t172 => (if (t171 == t172) = true then ((bits_Count.f a0).bind fun t173 => (if t173 = (t161.length : Int) then ((bits_First.f a0).bind fun t174 => (syntagmlaw01_BitsTell.j1 kj9 a0 a1 a3 true (t174 == x11_9))) else (syntagmlaw01_BitsTell.j1 kj9 a0 a1 a3 true false))) else (syntagmlaw01_BitsTell.j1 kj9 a0 a1 a3 true false)))) = some r := by rw [if_pos rfl] at H; exact H
                clear H
                have H := H1
                clear H1
                replace H := Option.bind_eq_some_iff.mp H
                obtain ⟨t171, A230, H⟩ := H
                replace H : ((syntagmref01_Has.f kj9 a0 a3).bind fun t172 => (if (t171 == t172) = true then ((bits_Count.f a0).bind fun t173 => (if t173 = (t161.length : Int) then ((bits_First.f a0).bind fun t174 => (syntagmlaw01_BitsTell.j1 kj9 a0 a1 a3 true (t174 == x11_9))) else (syntagmlaw01_BitsTell.j1 kj9 a0 a1 a3 true false))) else (syntagmlaw01_BitsTell.j1 kj9 a0 a1 a3 true false))) = some r := H
                have A23 := Aside0.mk A230
                clear A230
                replace H := Option.bind_eq_some_iff.mp H
                obtain ⟨t172, A240, H⟩ := H
                replace H : (if (t171 == t172) = true then ((bits_Count.f a0).bind fun t173 => (if t173 = (t161.length : Int) then ((bits_First.f a0).bind fun t174 => (syntagmlaw01_BitsTell.j1 kj9 a0 a1 a3 true (t174 == x11_9))) else (syntagmlaw01_BitsTell.j1 kj9 a0 a1 a3 true false))) else (syntagmlaw01_BitsTell.j1 kj9 a0 a1 a3 true false)) = some r := H
                have A24 := Aside0.mk A240
                clear A240
                by_cases c25 : (t171 == t172) = true
                · rw [if_pos c25] at H
                  have c25b0 : (t171 == t172) = true := c25
                  (try (have c25b1 : decide (t171 = t172) = true := by simpa using c25))
                  (try (have c25b2 : (t171 == t172) = true := by simpa using c25))
                  clear c25
                  replace H := Option.bind_eq_some_iff.mp H
                  obtain ⟨t173, A260, H⟩ := H
                  replace H : (if t173 = (t161.length : Int) then ((bits_First.f a0).bind fun t174 => (syntagmlaw01_BitsTell.j1 kj9 a0 a1 a3 true (t174 == x11_9))) else (syntagmlaw01_BitsTell.j1 kj9 a0 a1 a3 true false)) = some r := H
                  have A26 := Aside0.mk A260
                  clear A260
                  by_cases c27 : t173 = (t161.length : Int)
                  · rw [if_pos c27] at H
                    have c27b0 : (t173 == (t161.length : Int)) = true := beq_iff_eq.mpr c27
                    have c27b1 : (t173 != (t161.length : Int)) = false := bne_eq_false_iff_eq.mpr c27
                    clear c27
                    replace H := Option.bind_eq_some_iff.mp H
                    obtain ⟨t174, A280, H⟩ := H
                    replace H : (syntagmlaw01_BitsTell.j1 kj9 a0 a1 a3 true (t174 == x11_9)) = some r := H
                    have A28 := Aside0.mk A280
                    clear A280
                    have H' := Aside0.mk H
                    clear H
                    go_wp2_with (first | ((with_reducible refine gate_callee (f := 10) rfl ?_); refine goesL_ (some 30) rfl rfl Tryd.func10 (by kernel_rfl) rfl #[.slice A2 l2.length c2] rfl (by (try simp only [List.map_toArray, List.map_cons, List.map_nil]); first | done | rfl | (simp only [List.length_drop, List.length_take]; rfl)) ?_; (with_reducible refine (bits_Of.calls kj9 _ _ l2 t165 _ ?side1 ?side2 A17.out).mono ?_); (case side1 => repeat (first | exact (Kd.C_below HR2.out HB.out) | (with_reducible refine Kd.C_alloc ?_ _) | (with_reducible refine Kd.C_drewN ?_ _) | (with_reducible refine Kd.C_drew ?_))); (case side2 => exact HC2.out); rintro e w' ⟨rfl, ⟨nd, rfl⟩⟩; refine ⟨_, rfl, ?_⟩) | ((with_reducible refine gate_callee (f := 11) rfl ?_); refine goesL_ (some 32) rfl rfl Tryd.func11 (by kernel_rfl) rfl #[.slice A2 l2.length c2] rfl (by (try simp only [List.map_toArray, List.map_cons, List.map_nil]); first | done | rfl | (simp only [List.length_drop, List.length_take]; rfl)) ?_; (with_reducible refine (syntagmref01_Of.calls kj9 _ _ l2 t166 _ ?side1 ?side2 A18.out).mono ?_); (case side1 => repeat (first | exact (Kd.C_below HR2.out (by repeat (first | (with_reducible first | exact HB.out | apply below_alloc | apply pw_below_drewN | apply below_drew1) | exact HB.out))) | (with_reducible refine Kd.C_alloc ?_ _) | (with_reducible refine Kd.C_drewN ?_ _) | (with_reducible refine Kd.C_drew ?_))); (case side2 => exact HC2.out); rintro e w' ⟨rfl, ⟨nd, rfl⟩⟩; refine ⟨_, rfl, ?_⟩) | (go_at_call 13; (with_reducible refine (bits_List.calls a0 t167 _ ?side1 A20.out).mono ?_); (case side1 => exact GTab.below HG.out (by repeat (first | (with_reducible first | exact HB.out | apply below_alloc | apply pw_below_drewN | apply below_drew1) | exact HB.out))); rintro e w29 ⟨v168, rfl, ho0, hb⟩; have n0_ := Aside0.mk (Kd.R_elder' (by (with_reducible repeat (first | apply Kd.R_alloc | apply Kd.R_drewN | apply Kd.R_drew)); exact HO_10.out) (Kd.R_base ho0) hb); have n1_ := Aside0.mk (Kd.R_lower (Kd.R_new' ho0 (Kd.R_lt (by (with_reducible repeat (first | apply Kd.R_alloc | apply Kd.R_drewN | apply Kd.R_drew)); exact HO_10.out))) (below_size (by repeat (first | (with_reducible first | exact HB.out | apply below_alloc | apply pw_below_drewN | apply below_drew1) | exact HB.out)))); have n2_ := Aside0.mk (below_step (by repeat (first | (with_reducible first | exact HB.out | apply below_alloc | apply pw_below_drewN | apply below_drew1) | exact HB.out)) hb); clear HO_10; clear HB; have HO_10 := n0_; have HO169 := n1_; have HB := n2_; clear n0_ n1_ n2_; (try clear hb); (try clear hb2); (try clear hk); (try clear hi); (try clear ho0); obtain ⟨Ao30, co30, eo30⟩ := Kd.R_slice HO169.out; subst eo30) | (go_at_call 12; (with_reducible refine (syntagmref01_Row.calls kj9 _ _ t167 _ _ t161 true _ ?side1 ?side2 ?side3 ?side4 A21.out).mono ?_); (case side1 => repeat (first | exact (Kd.R_reads' HO169.out).2.2 | (with_reducible refine Kd.C_alloc ?_ _) | (with_reducible refine Kd.C_drewN ?_ _) | (with_reducible refine Kd.C_drew ?_))); (case side2 => exact (Kd.R_reads' HO169.out).2.1); (case side3 => repeat (first | exact (Kd.R_reads' HO_10.out).2.2 | (with_reducible refine Kd.C_alloc ?_ _) | (with_reducible refine Kd.C_drewN ?_ _) | (with_reducible refine Kd.C_drew ?_))); (case side4 => exact (Kd.R_reads' HO_10.out).2.1); rintro e w' ⟨rfl, ⟨nd, rfl⟩⟩) | (go_at_call 14; (with_reducible refine (bits_Has.calls a0 a3 t171 _ A23.out).mono ?_); rintro e w' ⟨rfl, ⟨nd, rfl⟩⟩) | (go_at_call 15; (with_reducible refine (syntagmref01_Has.calls kj9 a0 a3 t172 _ A24.out).mono ?_); rintro e w' ⟨rfl, ⟨nd, rfl⟩⟩) | (go_at_call 16; (with_reducible refine (bits_Count.calls a0 t173 _ A26.out).mono ?_); rintro e w' ⟨rfl, ⟨nd, rfl⟩⟩) | (go_at_call 17; (with_reducible refine (bits_First.calls a0 t174 _ ?side1 A28.out).mono ?_); (case side1 => exact GTab.below HG.out (by repeat (first | (with_reducible first | exact HB.out | apply below_alloc | apply pw_below_drewN | apply below_drew1) | exact HB.out))); rintro e w' ⟨rfl, ⟨nd, rfl⟩⟩))
                    go_meet
                    case rel => exact ⟨_, ((t174 == x11_9)), (by first | rfl | (simp; done) | (simp [*]; done)), H', ⟨by have := HJ9.out; first | omega | exact Nat.le_refl _⟩, ⟨by repeat (first | (with_reducible first | exact HB.out | apply below_alloc | apply pw_below_drewN | apply below_drew1) | exact HB.out)⟩⟩
                  · rw [if_neg c27] at H
                    have c27b0 : (t173 == (t161.length : Int)) = false := beq_eq_false_iff_ne.mpr c27
                    have c27b1 : (t173 != (t161.length : Int)) = true := bne_iff_ne.mpr c27
                    have H' := Aside0.mk H
                    clear H
                    go_wp2_with (first | ((with_reducible refine gate_callee (f := 10) rfl ?_); refine goesL_ (some 30) rfl rfl Tryd.func10 (by kernel_rfl) rfl #[.slice A2 l2.length c2] rfl (by (try simp only [List.map_toArray, List.map_cons, List.map_nil]); first | done | rfl | (simp only [List.length_drop, List.length_take]; rfl)) ?_; (with_reducible refine (bits_Of.calls kj9 _ _ l2 t165 _ ?side1 ?side2 A17.out).mono ?_); (case side1 => repeat (first | exact (Kd.C_below HR2.out HB.out) | (with_reducible refine Kd.C_alloc ?_ _) | (with_reducible refine Kd.C_drewN ?_ _) | (with_reducible refine Kd.C_drew ?_))); (case side2 => exact HC2.out); rintro e w' ⟨rfl, ⟨nd, rfl⟩⟩; refine ⟨_, rfl, ?_⟩) | ((with_reducible refine gate_callee (f := 11) rfl ?_); refine goesL_ (some 32) rfl rfl Tryd.func11 (by kernel_rfl) rfl #[.slice A2 l2.length c2] rfl (by (try simp only [List.map_toArray, List.map_cons, List.map_nil]); first | done | rfl | (simp only [List.length_drop, List.length_take]; rfl)) ?_; (with_reducible refine (syntagmref01_Of.calls kj9 _ _ l2 t166 _ ?side1 ?side2 A18.out).mono ?_); (case side1 => repeat (first | exact (Kd.C_below HR2.out (by repeat (first | (with_reducible first | exact HB.out | apply below_alloc | apply pw_below_drewN | apply below_drew1) | exact HB.out))) | (with_reducible refine Kd.C_alloc ?_ _) | (with_reducible refine Kd.C_drewN ?_ _) | (with_reducible refine Kd.C_drew ?_))); (case side2 => exact HC2.out); rintro e w' ⟨rfl, ⟨nd, rfl⟩⟩; refine ⟨_, rfl, ?_⟩) | (go_at_call 13; (with_reducible refine (bits_List.calls a0 t167 _ ?side1 A20.out).mono ?_); (case side1 => exact GTab.below HG.out (by repeat (first | (with_reducible first | exact HB.out | apply below_alloc | apply pw_below_drewN | apply below_drew1) | exact HB.out))); rintro e w31 ⟨v168, rfl, ho0, hb⟩; have n0_ := Aside0.mk (Kd.R_elder' (by (with_reducible repeat (first | apply Kd.R_alloc | apply Kd.R_drewN | apply Kd.R_drew)); exact HO_10.out) (Kd.R_base ho0) hb); have n1_ := Aside0.mk (Kd.R_lower (Kd.R_new' ho0 (Kd.R_lt (by (with_reducible repeat (first | apply Kd.R_alloc | apply Kd.R_drewN | apply Kd.R_drew)); exact HO_10.out))) (below_size (by repeat (first | (with_reducible first | exact HB.out | apply below_alloc | apply pw_below_drewN | apply below_drew1) | exact HB.out)))); have n2_ := Aside0.mk (below_step (by repeat (first | (with_reducible first | exact HB.out | apply below_alloc | apply pw_below_drewN | apply below_drew1) | exact HB.out)) hb); clear HO_10; clear HB; have HO_10 := n0_; have HO169 := n1_; have HB := n2_; clear n0_ n1_ n2_; (try clear hb); (try clear hb2); (try clear hk); (try clear hi); (try clear ho0); obtain ⟨Ao32, co32, eo32⟩ := Kd.R_slice HO169.out; subst eo32) | (go_at_call 12; (with_reducible refine (syntagmref01_Row.calls kj9 _ _ t167 _ _ t161 true _ ?side1 ?side2 ?side3 ?side4 A21.out).mono ?_); (case side1 => repeat (first | exact (Kd.R_reads' HO169.out).2.2 | (with_reducible refine Kd.C_alloc ?_ _) | (with_reducible refine Kd.C_drewN ?_ _) | (with_reducible refine Kd.C_drew ?_))); (case side2 => exact (Kd.R_reads' HO169.out).2.1); (case side3 => repeat (first | exact (Kd.R_reads' HO_10.out).2.2 | (with_reducible refine Kd.C_alloc ?_ _) | (with_reducible refine Kd.C_drewN ?_ _) | (with_reducible refine Kd.C_drew ?_))); (case side4 => exact (Kd.R_reads' HO_10.out).2.1); rintro e w' ⟨rfl, ⟨nd, rfl⟩⟩) | (go_at_call 14; (with_reducible refine (bits_Has.calls a0 a3 t171 _ A23.out).mono ?_); rintro e w' ⟨rfl, ⟨nd, rfl⟩⟩) | (go_at_call 15; (with_reducible refine (syntagmref01_Has.calls kj9 a0 a3 t172 _ A24.out).mono ?_); rintro e w' ⟨rfl, ⟨nd, rfl⟩⟩) | (go_at_call 16; (with_reducible refine (bits_Count.calls a0 t173 _ A26.out).mono ?_); rintro e w' ⟨rfl, ⟨nd, rfl⟩⟩))
                    go_meet
                    case rel => exact ⟨_, (false), (by first | rfl | (simp; done) | (simp [*]; done)), H', ⟨by have := HJ9.out; first | omega | exact Nat.le_refl _⟩, ⟨by repeat (first | (with_reducible first | exact HB.out | apply below_alloc | apply pw_below_drewN | apply below_drew1) | exact HB.out)⟩⟩
                · rw [if_neg c25] at H
                  have c25b0 : (t171 == t172) = false := by simpa using c25
                  (try (have c25b1 : decide (t171 = t172) = false := by simpa using c25))
                  (try (have c25b2 : (t171 == t172) = false := by simpa using c25))
                  (try (have c25b3 : ¬ (t171 = t172) := by simpa using c25))
                  clear c25
                  have H' := Aside0.mk H
                  clear H
                  go_wp2_with (first | ((with_reducible refine gate_callee (f := 10) rfl ?_); refine goesL_ (some 30) rfl rfl Tryd.func10 (by kernel_rfl) rfl #[.slice A2 l2.length c2] rfl (by (try simp only [List.map_toArray, List.map_cons, List.map_nil]); first | done | rfl | (simp only [List.length_drop, List.length_take]; rfl)) ?_; (with_reducible refine (bits_Of.calls kj9 _ _ l2 t165 _ ?side1 ?side2 A17.out).mono ?_); (case side1 => repeat (first | exact (Kd.C_below HR2.out HB.out) | (with_reducible refine Kd.C_alloc ?_ _) | (with_reducible refine Kd.C_drewN ?_ _) | (with_reducible refine Kd.C_drew ?_))); (case side2 => exact HC2.out); rintro e w' ⟨rfl, ⟨nd, rfl⟩⟩; refine ⟨_, rfl, ?_⟩) | ((with_reducible refine gate_callee (f := 11) rfl ?_); refine goesL_ (some 32) rfl rfl Tryd.func11 (by kernel_rfl) rfl #[.slice A2 l2.length c2] rfl (by (try simp only [List.map_toArray, List.map_cons, List.map_nil]); first | done | rfl | (simp only [List.length_drop, List.length_take]; rfl)) ?_; (with_reducible refine (syntagmref01_Of.calls kj9 _ _ l2 t166 _ ?side1 ?side2 A18.out).mono ?_); (case side1 => repeat (first | exact (Kd.C_below HR2.out (by repeat (first | (with_reducible first | exact HB.out | apply below_alloc | apply pw_below_drewN | apply below_drew1) | exact HB.out))) | (with_reducible refine Kd.C_alloc ?_ _) | (with_reducible refine Kd.C_drewN ?_ _) | (with_reducible refine Kd.C_drew ?_))); (case side2 => exact HC2.out); rintro e w' ⟨rfl, ⟨nd, rfl⟩⟩; refine ⟨_, rfl, ?_⟩) | (go_at_call 13; (with_reducible refine (bits_List.calls a0 t167 _ ?side1 A20.out).mono ?_); (case side1 => exact GTab.below HG.out (by repeat (first | (with_reducible first | exact HB.out | apply below_alloc | apply pw_below_drewN | apply below_drew1) | exact HB.out))); rintro e w33 ⟨v168, rfl, ho0, hb⟩; have n0_ := Aside0.mk (Kd.R_elder' (by (with_reducible repeat (first | apply Kd.R_alloc | apply Kd.R_drewN | apply Kd.R_drew)); exact HO_10.out) (Kd.R_base ho0) hb); have n1_ := Aside0.mk (Kd.R_lower (Kd.R_new' ho0 (Kd.R_lt (by (with_reducible repeat (first | apply Kd.R_alloc | apply Kd.R_drewN | apply Kd.R_drew)); exact HO_10.out))) (below_size (by repeat (first | (with_reducible first | exact HB.out | apply below_alloc | apply pw_below_drewN | apply below_drew1) | exact HB.out)))); have n2_ := Aside0.mk (below_step (by repeat (first | (with_reducible first | exact HB.out | apply below_alloc | apply pw_below_drewN | apply below_drew1) | exact HB.out)) hb); clear HO_10; clear HB; have HO_10 := n0_; have HO169 := n1_; have HB := n2_; clear n0_ n1_ n2_; (try clear hb); (try clear hb2); (try clear hk); (try clear hi); (try clear ho0); obtain ⟨Ao34, co34, eo34⟩ := Kd.R_slice HO169.out; subst eo34) | (go_at_call 12; (with_reducible refine (syntagmref01_Row.calls kj9 _ _ t167 _ _ t161 true _ ?side1 ?side2 ?side3 ?side4 A21.out).mono ?_); (case side1 => repeat (first | exact (Kd.R_reads' HO169.out).2.2 | (with_reducible refine Kd.C_alloc ?_ _) | (with_reducible refine Kd.C_drewN ?_ _) | (with_reducible refine Kd.C_drew ?_))); (case side2 => exact (Kd.R_reads' HO169.out).2.1); (case side3 => repeat (first | exact (Kd.R_reads' HO_10.out).2.2 | (with_reducible refine Kd.C_alloc ?_ _) | (with_reducible refine Kd.C_drewN ?_ _) | (with_reducible refine Kd.C_drew ?_))); (case side4 => exact (Kd.R_reads' HO_10.out).2.1); rintro e w' ⟨rfl, ⟨nd, rfl⟩⟩) | (go_at_call 14; (with_reducible refine (bits_Has.calls a0 a3 t171 _ A23.out).mono ?_); rintro e w' ⟨rfl, ⟨nd, rfl⟩⟩) | (go_at_call 15; (with_reducible refine (syntagmref01_Has.calls kj9 a0 a3 t172 _ A24.out).mono ?_); rintro e w' ⟨rfl, ⟨nd, rfl⟩⟩))
                  go_meet
                  case rel => exact ⟨_, (false), (by first | rfl | (simp; done) | (simp [*]; done)), H', ⟨by have := HJ9.out; first | omega | exact Nat.le_refl _⟩, ⟨by repeat (first | (with_reducible first | exact HB.out | apply below_alloc | apply pw_below_drewN | apply below_drew1) | exact HB.out)⟩⟩
              · replace c22 := Bool.eq_false_iff.mpr c22
                subst c22
                have H1 : (syntagmlaw01_BitsTell.j1 kj9 a0 a1 a3 true false) = some r := by rw [if_neg (show ¬ (false = true) by decide)] at H; exact H
                clear H
                have H := H1
                clear H1
                have H' := Aside0.mk H
                clear H
                go_wp2_with (first | ((with_reducible refine gate_callee (f := 10) rfl ?_); refine goesL_ (some 30) rfl rfl Tryd.func10 (by kernel_rfl) rfl #[.slice A2 l2.length c2] rfl (by (try simp only [List.map_toArray, List.map_cons, List.map_nil]); first | done | rfl | (simp only [List.length_drop, List.length_take]; rfl)) ?_; (with_reducible refine (bits_Of.calls kj9 _ _ l2 t165 _ ?side1 ?side2 A17.out).mono ?_); (case side1 => repeat (first | exact (Kd.C_below HR2.out HB.out) | (with_reducible refine Kd.C_alloc ?_ _) | (with_reducible refine Kd.C_drewN ?_ _) | (with_reducible refine Kd.C_drew ?_))); (case side2 => exact HC2.out); rintro e w' ⟨rfl, ⟨nd, rfl⟩⟩; refine ⟨_, rfl, ?_⟩) | ((with_reducible refine gate_callee (f := 11) rfl ?_); refine goesL_ (some 32) rfl rfl Tryd.func11 (by kernel_rfl) rfl #[.slice A2 l2.length c2] rfl (by (try simp only [List.map_toArray, List.map_cons, List.map_nil]); first | done | rfl | (simp only [List.length_drop, List.length_take]; rfl)) ?_; (with_reducible refine (syntagmref01_Of.calls kj9 _ _ l2 t166 _ ?side1 ?side2 A18.out).mono ?_); (case side1 => repeat (first | exact (Kd.C_below HR2.out (by repeat (first | (with_reducible first | exact HB.out | apply below_alloc | apply pw_below_drewN | apply below_drew1) | exact HB.out))) | (with_reducible refine Kd.C_alloc ?_ _) | (with_reducible refine Kd.C_drewN ?_ _) | (with_reducible refine Kd.C_drew ?_))); (case side2 => exact HC2.out); rintro e w' ⟨rfl, ⟨nd, rfl⟩⟩; refine ⟨_, rfl, ?_⟩) | (go_at_call 13; (with_reducible refine (bits_List.calls a0 t167 _ ?side1 A20.out).mono ?_); (case side1 => exact GTab.below HG.out (by repeat (first | (with_reducible first | exact HB.out | apply below_alloc | apply pw_below_drewN | apply below_drew1) | exact HB.out))); rintro e w35 ⟨v168, rfl, ho0, hb⟩; have n0_ := Aside0.mk (Kd.R_elder' (by (with_reducible repeat (first | apply Kd.R_alloc | apply Kd.R_drewN | apply Kd.R_drew)); exact HO_10.out) (Kd.R_base ho0) hb); have n1_ := Aside0.mk (Kd.R_lower (Kd.R_new' ho0 (Kd.R_lt (by (with_reducible repeat (first | apply Kd.R_alloc | apply Kd.R_drewN | apply Kd.R_drew)); exact HO_10.out))) (below_size (by repeat (first | (with_reducible first | exact HB.out | apply below_alloc | apply pw_below_drewN | apply below_drew1) | exact HB.out)))); have n2_ := Aside0.mk (below_step (by repeat (first | (with_reducible first | exact HB.out | apply below_alloc | apply pw_below_drewN | apply below_drew1) | exact HB.out)) hb); clear HO_10; clear HB; have HO_10 := n0_; have HO169 := n1_; have HB := n2_; clear n0_ n1_ n2_; (try clear hb); (try clear hb2); (try clear hk); (try clear hi); (try clear ho0); obtain ⟨Ao36, co36, eo36⟩ := Kd.R_slice HO169.out; subst eo36) | (go_at_call 12; (with_reducible refine (syntagmref01_Row.calls kj9 _ _ t167 _ _ t161 false _ ?side1 ?side2 ?side3 ?side4 A21.out).mono ?_); (case side1 => repeat (first | exact (Kd.R_reads' HO169.out).2.2 | (with_reducible refine Kd.C_alloc ?_ _) | (with_reducible refine Kd.C_drewN ?_ _) | (with_reducible refine Kd.C_drew ?_))); (case side2 => exact (Kd.R_reads' HO169.out).2.1); (case side3 => repeat (first | exact (Kd.R_reads' HO_10.out).2.2 | (with_reducible refine Kd.C_alloc ?_ _) | (with_reducible refine Kd.C_drewN ?_ _) | (with_reducible refine Kd.C_drew ?_))); (case side4 => exact (Kd.R_reads' HO_10.out).2.1); rintro e w' ⟨rfl, ⟨nd, rfl⟩⟩))
                go_meet
                case rel => exact ⟨_, (false), (by first | rfl | (simp; done) | (simp [*]; done)), H', ⟨by have := HJ9.out; first | omega | exact Nat.le_refl _⟩, ⟨by repeat (first | (with_reducible first | exact HB.out | apply below_alloc | apply pw_below_drewN | apply below_drew1) | exact HB.out)⟩⟩
            · rw [if_neg c19] at H
              have c19b0 : (t165 == t166) = false := beq_eq_false_iff_ne.mpr c19
              have c19b1 : (t165 != t166) = true := bne_iff_ne.mpr c19
              (first | rw [c19b0] | (simp only [i64_w, i32_w]; rw [c19b0]) | skip)
              have H' := Aside0.mk H
              clear H
              go_wp2_with (first | ((with_reducible refine gate_callee (f := 10) rfl ?_); refine goesL_ (some 30) rfl rfl Tryd.func10 (by kernel_rfl) rfl #[.slice A2 l2.length c2] rfl (by (try simp only [List.map_toArray, List.map_cons, List.map_nil]); first | done | rfl | (simp only [List.length_drop, List.length_take]; rfl)) ?_; (with_reducible refine (bits_Of.calls kj9 _ _ l2 t165 _ ?side1 ?side2 A17.out).mono ?_); (case side1 => repeat (first | exact (Kd.C_below HR2.out HB.out) | (with_reducible refine Kd.C_alloc ?_ _) | (with_reducible refine Kd.C_drewN ?_ _) | (with_reducible refine Kd.C_drew ?_))); (case side2 => exact HC2.out); rintro e w' ⟨rfl, ⟨nd, rfl⟩⟩; refine ⟨_, rfl, ?_⟩) | ((with_reducible refine gate_callee (f := 11) rfl ?_); refine goesL_ (some 32) rfl rfl Tryd.func11 (by kernel_rfl) rfl #[.slice A2 l2.length c2] rfl (by (try simp only [List.map_toArray, List.map_cons, List.map_nil]); first | done | rfl | (simp only [List.length_drop, List.length_take]; rfl)) ?_; (with_reducible refine (syntagmref01_Of.calls kj9 _ _ l2 t166 _ ?side1 ?side2 A18.out).mono ?_); (case side1 => repeat (first | exact (Kd.C_below HR2.out (by repeat (first | (with_reducible first | exact HB.out | apply below_alloc | apply pw_below_drewN | apply below_drew1) | exact HB.out))) | (with_reducible refine Kd.C_alloc ?_ _) | (with_reducible refine Kd.C_drewN ?_ _) | (with_reducible refine Kd.C_drew ?_))); (case side2 => exact HC2.out); rintro e w' ⟨rfl, ⟨nd, rfl⟩⟩; refine ⟨_, rfl, ?_⟩))
              go_meet
              case rel => exact ⟨_, (false), (by first | rfl | (simp; done) | (simp [*]; done)), H', ⟨by have := HJ9.out; first | omega | exact Nat.le_refl _⟩, ⟨by repeat (first | (with_reducible first | exact HB.out | apply below_alloc | apply pw_below_drewN | apply below_drew1) | exact HB.out)⟩⟩
          case rest =>
            clear HC16
            try clear c1
            try clear p1
            try clear q1
            try clear hx1
            try clear qi1
            try clear c2
            try clear p2
            try clear c3
            try clear c6
            try clear c7
            try clear c7b0
            try clear c7b1
            try clear c8
            try clear c9
            try clear c10
            try clear c11
            try clear c14
            try clear c14b0
            try clear c14b1
            try clear c15
            try clear c15b0
            try clear c15b1
            try clear p16
            try clear q16
            try clear hx16
            try clear qi16
            try clear c19
            try clear c19b0
            try clear c19b1
            try clear c22
            try clear c25
            try clear c25b0
            try clear c25b1
            try clear c25b2
            try clear c27
            try clear c27b0
            try clear c27b1
            try clear hx164_0
            try clear p1
            try clear p164
            try clear p2
            try clear q1
            try clear q164
            obtain ⟨kq, x12_15, rfl, HA, HJ15, HB⟩ := hcut
            cases kq with
            | zero => exact absurd HA.out (by simp [syntagmlaw01_BitsTell.j1])
            | succ kj15 =>
              have H := HA.out
              clear HA
              simp only [syntagmlaw01_BitsTell.j1] at H
              have HC37 := Aside0.mk H
              clear H
              go_upto_region 11 with (fail)
              go_cut [13] (fun v13 wc => ∃ (kq : Nat) (x13_36 : Bool), v13 = .bool x13_36 ∧ Aside0 (syntagmlaw01_BitsTell.j2 kq a0 a1 a3 true x12_15 x13_36 = some r) ∧ Aside0 (kq ≤ kj15) ∧ Aside0 (Below w.heap.size w wc))
              case first =>
                have H := HC37.out
                clear HC37
                replace H := Option.bind_eq_some_iff.mp H
                obtain ⟨t175, A380, H⟩ := H
                replace H : ((syntagmref01_Union.f kj15 a0 a1).bind fun t176 => (if t175 = t176 then ((bits_Meet.f a0 a1).bind fun t177 => ((syntagmref01_Meet.f kj15 a0 a1).bind fun t178 => (if t177 = t178 then ((bits_Less.f a0 a1).bind fun t179 => ((syntagmref01_Less.f kj15 a0 a1).bind fun t180 => (syntagmlaw01_BitsTell.j2 kj15 a0 a1 a3 true x12_15 (t179 == t180)))) else (syntagmlaw01_BitsTell.j2 kj15 a0 a1 a3 true x12_15 false)))) else (syntagmlaw01_BitsTell.j2 kj15 a0 a1 a3 true x12_15 false))) = some r := H
                have A38 := Aside0.mk A380
                clear A380
                replace H := Option.bind_eq_some_iff.mp H
                obtain ⟨t176, A390, H⟩ := H
                replace H : (if t175 = t176 then ((bits_Meet.f a0 a1).bind fun t177 => ((syntagmref01_Meet.f kj15 a0 a1).bind fun t178 => (if t177 = t178 then ((bits_Less.f a0 a1).bind fun t179 => ((syntagmref01_Less.f kj15 a0 a1).bind fun t180 => (syntagmlaw01_BitsTell.j2 kj15 a0 a1 a3 true x12_15 (t179 == t180)))) else (syntagmlaw01_BitsTell.j2 kj15 a0 a1 a3 true x12_15 false)))) else (syntagmlaw01_BitsTell.j2 kj15 a0 a1 a3 true x12_15 false)) = some r := H
                have A39 := Aside0.mk A390
                clear A390
                by_cases c40 : t175 = t176
                · rw [if_pos c40] at H
                  have c40b0 : (t175 == t176) = true := beq_iff_eq.mpr c40
                  have c40b1 : (t175 != t176) = false := bne_eq_false_iff_eq.mpr c40
                  clear c40
                  (first | rw [c40b0] | (simp only [i64_w, i32_w]; rw [c40b0]) | skip)
                  replace H := Option.bind_eq_some_iff.mp H
                  obtain ⟨t177, A410, H⟩ := H
                  replace H : ((syntagmref01_Meet.f kj15 a0 a1).bind fun t178 => (if t177 = t178 then ((bits_Less.f a0 a1).bind fun t179 => ((syntagmref01_Less.f kj15 a0 a1).bind fun t180 => (syntagmlaw01_BitsTell.j2 kj15 a0 a1 a3 true x12_15 (t179 == t180)))) else (syntagmlaw01_BitsTell.j2 kj15 a0 a1 a3 true x12_15 false))) = some r := H
                  have A41 := Aside0.mk A410
                  clear A410
                  replace H := Option.bind_eq_some_iff.mp H
                  obtain ⟨t178, A420, H⟩ := H
                  replace H : (if t177 = t178 then ((bits_Less.f a0 a1).bind fun t179 => ((syntagmref01_Less.f kj15 a0 a1).bind fun t180 => (syntagmlaw01_BitsTell.j2 kj15 a0 a1 a3 true x12_15 (t179 == t180)))) else (syntagmlaw01_BitsTell.j2 kj15 a0 a1 a3 true x12_15 false)) = some r := H
                  have A42 := Aside0.mk A420
                  clear A420
                  by_cases c43 : t177 = t178
                  · rw [if_pos c43] at H
                    have c43b0 : (t177 == t178) = true := beq_iff_eq.mpr c43
                    have c43b1 : (t177 != t178) = false := bne_eq_false_iff_eq.mpr c43
                    clear c43
                    replace H := Option.bind_eq_some_iff.mp H
                    obtain ⟨t179, A440, H⟩ := H
                    replace H : ((syntagmref01_Less.f kj15 a0 a1).bind fun t180 => (syntagmlaw01_BitsTell.j2 kj15 a0 a1 a3 true x12_15 (t179 == t180))) = some r := H
                    have A44 := Aside0.mk A440
                    clear A440
                    replace H := Option.bind_eq_some_iff.mp H
                    obtain ⟨t180, A450, H⟩ := H
                    replace H : (syntagmlaw01_BitsTell.j2 kj15 a0 a1 a3 true x12_15 (t179 == t180)) = some r := H
                    have A45 := Aside0.mk A450
                    clear A450
                    have H' := Aside0.mk H
                    clear H
                    go_wp2_with (first | ((with_reducible refine gate_callee (f := 18) rfl ?_); refine goesL_ (some 64) rfl rfl Tryd.func18 (by kernel_rfl) rfl #[.int .u64 a0, .int .u64 a1] rfl (by (try simp only [List.map_toArray, List.map_cons, List.map_nil]); first | done | rfl | (simp only [List.length_drop, List.length_take]; rfl)) ?_; (with_reducible refine (bits_Union.calls a0 a1 t175 _ A38.out).mono ?_); rintro e w' ⟨rfl, ⟨nd, rfl⟩⟩; refine ⟨_, rfl, ?_⟩) | ((with_reducible refine gate_callee (f := 19) rfl ?_); refine goesL_ (some 67) rfl rfl Tryd.func19 (by kernel_rfl) rfl #[.int .u64 a0, .int .u64 a1] rfl (by (try simp only [List.map_toArray, List.map_cons, List.map_nil]); first | done | rfl | (simp only [List.length_drop, List.length_take]; rfl)) ?_; (with_reducible refine (syntagmref01_Union.calls kj15 a0 a1 t176 _ A39.out).mono ?_); rintro e w46 ⟨rfl, hb⟩; refine ⟨_, rfl, ?_⟩; have n0_ := Aside0.mk (below_step (by repeat (first | (with_reducible first | exact HB.out | apply below_alloc | apply pw_below_drewN | apply below_drew1) | exact HB.out)) hb); clear HB; have HB := n0_; clear n0_; (try clear hb); (try clear hb2); (try clear hk); (try clear hi)) | (go_at_call 20; (with_reducible refine (bits_Meet.calls a0 a1 t177 _ A41.out).mono ?_); rintro e w' ⟨rfl, ⟨nd, rfl⟩⟩) | (go_at_call 21; (with_reducible refine (syntagmref01_Meet.calls kj15 a0 a1 t178 _ A42.out).mono ?_); rintro e w47 ⟨rfl, hb⟩; have n0_ := Aside0.mk (below_step (by repeat (first | (with_reducible first | exact HB.out | apply below_alloc | apply pw_below_drewN | apply below_drew1) | exact HB.out)) hb); clear HB; have HB := n0_; clear n0_; (try clear hb); (try clear hb2); (try clear hk); (try clear hi)) | (go_at_call 22; (with_reducible refine (bits_Less.calls a0 a1 t179 _ A44.out).mono ?_); rintro e w' ⟨rfl, ⟨nd, rfl⟩⟩) | (go_at_call 23; (with_reducible refine (syntagmref01_Less.calls kj15 a0 a1 t180 _ A45.out).mono ?_); rintro e w48 ⟨rfl, hb⟩; have n0_ := Aside0.mk (below_step (by repeat (first | (with_reducible first | exact HB.out | apply below_alloc | apply pw_below_drewN | apply below_drew1) | exact HB.out)) hb); clear HB; have HB := n0_; clear n0_; (try clear hb); (try clear hb2); (try clear hk); (try clear hi)))
                    go_meet
                    case rel => exact ⟨_, ((t179 == t180)), (by first | rfl | (simp; done) | (simp [*]; done)), H', ⟨by have := HJ9.out; have := HJ15.out; first | omega | exact Nat.le_refl _⟩, ⟨by repeat (first | (with_reducible first | exact HB.out | apply below_alloc | apply pw_below_drewN | apply below_drew1) | exact HB.out)⟩⟩
                  · rw [if_neg c43] at H
                    have c43b0 : (t177 == t178) = false := beq_eq_false_iff_ne.mpr c43
                    have c43b1 : (t177 != t178) = true := bne_iff_ne.mpr c43
                    have H' := Aside0.mk H
                    clear H
                    go_wp2_with (first | ((with_reducible refine gate_callee (f := 18) rfl ?_); refine goesL_ (some 64) rfl rfl Tryd.func18 (by kernel_rfl) rfl #[.int .u64 a0, .int .u64 a1] rfl (by (try simp only [List.map_toArray, List.map_cons, List.map_nil]); first | done | rfl | (simp only [List.length_drop, List.length_take]; rfl)) ?_; (with_reducible refine (bits_Union.calls a0 a1 t175 _ A38.out).mono ?_); rintro e w' ⟨rfl, ⟨nd, rfl⟩⟩; refine ⟨_, rfl, ?_⟩) | ((with_reducible refine gate_callee (f := 19) rfl ?_); refine goesL_ (some 67) rfl rfl Tryd.func19 (by kernel_rfl) rfl #[.int .u64 a0, .int .u64 a1] rfl (by (try simp only [List.map_toArray, List.map_cons, List.map_nil]); first | done | rfl | (simp only [List.length_drop, List.length_take]; rfl)) ?_; (with_reducible refine (syntagmref01_Union.calls kj15 a0 a1 t176 _ A39.out).mono ?_); rintro e w49 ⟨rfl, hb⟩; refine ⟨_, rfl, ?_⟩; have n0_ := Aside0.mk (below_step (by repeat (first | (with_reducible first | exact HB.out | apply below_alloc | apply pw_below_drewN | apply below_drew1) | exact HB.out)) hb); clear HB; have HB := n0_; clear n0_; (try clear hb); (try clear hb2); (try clear hk); (try clear hi)) | (go_at_call 20; (with_reducible refine (bits_Meet.calls a0 a1 t177 _ A41.out).mono ?_); rintro e w' ⟨rfl, ⟨nd, rfl⟩⟩) | (go_at_call 21; (with_reducible refine (syntagmref01_Meet.calls kj15 a0 a1 t178 _ A42.out).mono ?_); rintro e w50 ⟨rfl, hb⟩; have n0_ := Aside0.mk (below_step (by repeat (first | (with_reducible first | exact HB.out | apply below_alloc | apply pw_below_drewN | apply below_drew1) | exact HB.out)) hb); clear HB; have HB := n0_; clear n0_; (try clear hb); (try clear hb2); (try clear hk); (try clear hi)))
                    go_meet
                    case rel => exact ⟨_, (false), (by first | rfl | (simp; done) | (simp [*]; done)), H', ⟨by have := HJ9.out; have := HJ15.out; first | omega | exact Nat.le_refl _⟩, ⟨by repeat (first | (with_reducible first | exact HB.out | apply below_alloc | apply pw_below_drewN | apply below_drew1) | exact HB.out)⟩⟩
                · rw [if_neg c40] at H
                  have c40b0 : (t175 == t176) = false := beq_eq_false_iff_ne.mpr c40
                  have c40b1 : (t175 != t176) = true := bne_iff_ne.mpr c40
                  (first | rw [c40b0] | (simp only [i64_w, i32_w]; rw [c40b0]) | skip)
                  have H' := Aside0.mk H
                  clear H
                  go_wp2_with (first | ((with_reducible refine gate_callee (f := 18) rfl ?_); refine goesL_ (some 64) rfl rfl Tryd.func18 (by kernel_rfl) rfl #[.int .u64 a0, .int .u64 a1] rfl (by (try simp only [List.map_toArray, List.map_cons, List.map_nil]); first | done | rfl | (simp only [List.length_drop, List.length_take]; rfl)) ?_; (with_reducible refine (bits_Union.calls a0 a1 t175 _ A38.out).mono ?_); rintro e w' ⟨rfl, ⟨nd, rfl⟩⟩; refine ⟨_, rfl, ?_⟩) | ((with_reducible refine gate_callee (f := 19) rfl ?_); refine goesL_ (some 67) rfl rfl Tryd.func19 (by kernel_rfl) rfl #[.int .u64 a0, .int .u64 a1] rfl (by (try simp only [List.map_toArray, List.map_cons, List.map_nil]); first | done | rfl | (simp only [List.length_drop, List.length_take]; rfl)) ?_; (with_reducible refine (syntagmref01_Union.calls kj15 a0 a1 t176 _ A39.out).mono ?_); rintro e w51 ⟨rfl, hb⟩; refine ⟨_, rfl, ?_⟩; have n0_ := Aside0.mk (below_step (by repeat (first | (with_reducible first | exact HB.out | apply below_alloc | apply pw_below_drewN | apply below_drew1) | exact HB.out)) hb); clear HB; have HB := n0_; clear n0_; (try clear hb); (try clear hb2); (try clear hk); (try clear hi)))
                  go_meet
                  case rel => exact ⟨_, (false), (by first | rfl | (simp; done) | (simp [*]; done)), H', ⟨by have := HJ9.out; have := HJ15.out; first | omega | exact Nat.le_refl _⟩, ⟨by repeat (first | (with_reducible first | exact HB.out | apply below_alloc | apply pw_below_drewN | apply below_drew1) | exact HB.out)⟩⟩
              case rest =>
                clear HC37
                try clear c1
                try clear p1
                try clear q1
                try clear hx1
                try clear qi1
                try clear c2
                try clear p2
                try clear c3
                try clear c4
                try clear c6
                try clear c7
                try clear c7b0
                try clear c7b1
                try clear c8
                try clear c9
                try clear c10
                try clear c11
                try clear c14
                try clear c14b0
                try clear c14b1
                try clear c15
                try clear c15b0
                try clear c15b1
                try clear p16
                try clear q16
                try clear hx16
                try clear qi16
                try clear c18
                try clear c19
                try clear c19b0
                try clear c19b1
                try clear c22
                try clear c25
                try clear c25b0
                try clear c25b1
                try clear c25b2
                try clear c27
                try clear c27b0
                try clear c27b1
                try clear c40
                try clear c40b0
                try clear c40b1
                try clear c43
                try clear c43b0
                try clear c43b1
                try clear hx164_0
                try clear p1
                try clear p16
                try clear p164
                try clear p2
                try clear q1
                try clear q16
                try clear q164
                obtain ⟨kq, x13_36, rfl, HA, HJ36, HB⟩ := hcut
                cases kq with
                | zero => exact absurd HA.out (by simp [syntagmlaw01_BitsTell.j2])
                | succ kj36 =>
                  have H := HA.out
                  clear HA
                  simp only [syntagmlaw01_BitsTell.j2] at H
                  replace H : (if x12_15 = true then (if x13_36 = true then ((bits_In.f a0 a1).bind fun t181 => ((syntagmref01_Less.f kj36 a0 a1).bind fun t182 => (if (t181 == (t182 == 0)) = true then ((bits_With.f a0 a3).bind fun t183 => ((syntagmref01_Of.f kj36 (([a3] : List Int))).bind fun t187 => ((syntagmref01_Union.f kj36 a0 t187).bind fun t188 => (if t183 = t188 then ((bits_Without.f a0 a3).bind fun t189 => ((syntagmref01_Of.f kj36 (([a3] : List Int))).bind fun t193 => ((syntagmref01_Less.f kj36 a0 t193).bind fun t194 => (some (t189 == t194))))) else (some false))))) else (some false)))) else (some false)) else (some false)) = some r := by first | (rw [if_pos rfl] at H; exact H) | (rw [if_pos trivial] at H; exact H)
                  by_cases c52 : x12_15 = true
                  · subst c52
                    have H1 : (if x13_36 = true then ((bits_In.f a0 a1).bind fun t181 => ((syntagmref01_Less.f kj36 a0 a1).bind fun t182 => (if (t181 == (t182 == 0)) = true then ((bits_With.f a0 a3).bind fun t183 => ((syntagmref01_Of.f kj36 (([a3] : List Int))).bind fun t187 => ((syntagmref01_Union.f kj36 a0 t187).bind fun t188 => (if t183 = t188 then ((bits_Without.f a0 a3).bind fun t189 => ((syntagmref01_Of.f kj36 (([a3] : List Int))).bind fun t193 => ((syntagmref01_Less.f kj36 a0 t193).bind fun t194 => (some (t189 == t194))))) else (some false))))) else (some false)))) else (some false)) = some r := by rw [if_pos rfl] at H; exact H
                    clear H
                    have H := H1
                    clear H1
                    by_cases c53 : x13_36 = true
                    · subst c53
                      have H1 : ((bits_In.f a0 a1).bind fun t181 => ((syntagmref01_Less.f kj36 a0 a1).bind fun t182 => (if (t181 == (t182 == 0)) = true then ((bits_With.f a0 a3).bind fun t183 => ((syntagmref01_Of.f kj36 (([a3] : List Int))).bind fun t187 => ((syntagmref01_Union.f kj36 a0 t187).bind fun t188 => (if t183 = t188 then ((bits_Without.f a0 a3).bind fun t189 => ((syntagmref01_Of.f kj36 (([a3] : List Int))).bind fun t193 => ((syntagmref01_Less.f kj36 a0 t193).bind fun t194 => (some (t189 == t194))))) else (some false))))) else (some false)))) = some r := by rw [if_pos rfl] at H; exact H
                      clear H
                      have H := H1
                      clear H1
                      replace H := Option.bind_eq_some_iff.mp H
                      obtain ⟨t181, A540, H⟩ := H
                      replace H : ((syntagmref01_Less.f kj36 a0 a1).bind fun t182 => (if (t181 == (t182 == 0)) = true then ((bits_With.f a0 a3).bind fun t183 => ((syntagmref01_Of.f kj36 (([a3] : List Int))).bind fun t187 => ((syntagmref01_Union.f kj36 a0 t187).bind fun t188 => (if t183 = t188 then ((bits_Without.f a0 a3).bind fun t189 => ((syntagmref01_Of.f kj36 (([a3] : List Int))).bind fun t193 => ((syntagmref01_Less.f kj36 a0 t193).bind fun t194 => (some (t189 == t194))))) else (some false))))) else (some false))) = some r := H
                      have A54 := Aside0.mk A540
                      clear A540
                      replace H := Option.bind_eq_some_iff.mp H
                      obtain ⟨t182, A550, H⟩ := H
                      replace H : (if (t181 == (t182 == 0)) = true then ((bits_With.f a0 a3).bind fun t183 => ((syntagmref01_Of.f kj36 (([a3] : List Int))).bind fun t187 => ((syntagmref01_Union.f kj36 a0 t187).bind fun t188 => (if t183 = t188 then ((bits_Without.f a0 a3).bind fun t189 => ((syntagmref01_Of.f kj36 (([a3] : List Int))).bind fun t193 => ((syntagmref01_Less.f kj36 a0 t193).bind fun t194 => (some (t189 == t194))))) else (some false))))) else (some false)) = some r := H
                      have A55 := Aside0.mk A550
                      clear A550
                      by_cases c56 : (t181 == (t182 == 0)) = true
                      · rw [if_pos c56] at H
                        have c56b0 : (t181 == (t182 == 0)) = true := c56
                        (try (have c56b1 : decide (t181 = (t182 == 0)) = true := by simpa using c56))
                        (try (have c56b2 : (t181 == (t182 == 0)) = true := by simpa using c56))
                        clear c56
                        replace H := Option.bind_eq_some_iff.mp H
                        obtain ⟨t183, A570, H⟩ := H
                        replace H : ((syntagmref01_Of.f kj36 (([a3] : List Int))).bind fun t187 => ((syntagmref01_Union.f kj36 a0 t187).bind fun t188 => (if t183 = t188 then ((bits_Without.f a0 a3).bind fun t189 => ((syntagmref01_Of.f kj36 (([a3] : List Int))).bind fun t193 => ((syntagmref01_Less.f kj36 a0 t193).bind fun t194 => (some (t189 == t194))))) else (some false)))) = some r := H
                        have A57 := Aside0.mk A570
                        clear A570
                        obtain ⟨y184, hy184⟩ : ∃ y_ : List Int, y_ = (([a3] : List Int)) := ⟨_, rfl⟩
                        replace H : ((syntagmref01_Of.f kj36 y184).bind fun t187 => ((syntagmref01_Union.f kj36 a0 t187).bind fun t188 => (if t183 = t188 then ((bits_Without.f a0 a3).bind fun t189 => ((syntagmref01_Of.f kj36 (([a3] : List Int))).bind fun t193 => ((syntagmref01_Less.f kj36 a0 t193).bind fun t194 => (some (t189 == t194))))) else (some false)))) = some r := by first | (rw [hy184]; with_reducible exact H) | (have H2_ := (Option.bind_some _ _).symm.trans H; rw [hy184]; with_reducible exact H2_) | (have H2_ := (Option.bind_some _ _).symm.trans H; with_reducible exact H2_) | with_reducible exact H | (rw [hy184]; exact H) | exact H
                        have Ny184 := Aside0.mk hy184
                        clear hy184
                        replace H := Option.bind_eq_some_iff.mp H
                        obtain ⟨t187, A580, H⟩ := H
                        replace H : ((syntagmref01_Union.f kj36 a0 t187).bind fun t188 => (if t183 = t188 then ((bits_Without.f a0 a3).bind fun t189 => ((syntagmref01_Of.f kj36 (([a3] : List Int))).bind fun t193 => ((syntagmref01_Less.f kj36 a0 t193).bind fun t194 => (some (t189 == t194))))) else (some false))) = some r := H
                        have A58 := Aside0.mk A580
                        clear A580
                        replace H := Option.bind_eq_some_iff.mp H
                        obtain ⟨t188, A590, H⟩ := H
                        replace H : (if t183 = t188 then ((bits_Without.f a0 a3).bind fun t189 => ((syntagmref01_Of.f kj36 (([a3] : List Int))).bind fun t193 => ((syntagmref01_Less.f kj36 a0 t193).bind fun t194 => (some (t189 == t194))))) else (some false)) = some r := H
                        have A59 := Aside0.mk A590
                        clear A590
                        by_cases c60 : t183 = t188
                        · rw [if_pos c60] at H
                          have c60b0 : (t183 == t188) = true := beq_iff_eq.mpr c60
                          have c60b1 : (t183 != t188) = false := bne_eq_false_iff_eq.mpr c60
                          clear c60
                          replace H := Option.bind_eq_some_iff.mp H
                          obtain ⟨t189, A610, H⟩ := H
                          replace H : ((syntagmref01_Of.f kj36 (([a3] : List Int))).bind fun t193 => ((syntagmref01_Less.f kj36 a0 t193).bind fun t194 => (some (t189 == t194)))) = some r := H
                          have A61 := Aside0.mk A610
                          clear A610
                          obtain ⟨y190, hy190⟩ : ∃ y_ : List Int, y_ = (([a3] : List Int)) := ⟨_, rfl⟩
                          replace H : ((syntagmref01_Of.f kj36 y190).bind fun t193 => ((syntagmref01_Less.f kj36 a0 t193).bind fun t194 => (some (t189 == t194)))) = some r := by first | (rw [hy190]; with_reducible exact H) | (have H2_ := (Option.bind_some _ _).symm.trans H; rw [hy190]; with_reducible exact H2_) | (have H2_ := (Option.bind_some _ _).symm.trans H; with_reducible exact H2_) | with_reducible exact H | (rw [hy190]; exact H) | exact H
                          have Ny190 := Aside0.mk hy190
                          clear hy190
                          replace H := Option.bind_eq_some_iff.mp H
                          obtain ⟨t193, A620, H⟩ := H
                          replace H : ((syntagmref01_Less.f kj36 a0 t193).bind fun t194 => (some (t189 == t194))) = some r := H
                          have A62 := Aside0.mk A620
                          clear A620
                          replace H := Option.bind_eq_some_iff.mp H
                          obtain ⟨t194, A630, H⟩ := H
                          replace H : (some (t189 == t194)) = some r := H
                          have A63 := Aside0.mk A630
                          clear A630
                          obtain rfl := Option.some.inj H
                          go_wp2_with (first | (go_at_call 24; (with_reducible refine (bits_In.calls a0 a1 t181 _ A54.out).mono ?_); rintro e w' ⟨rfl, ⟨nd, rfl⟩⟩) | (go_at_call 23; (with_reducible refine (syntagmref01_Less.calls kj36 a0 a1 t182 _ A55.out).mono ?_); rintro e w64 ⟨rfl, hb⟩; have n0_ := Aside0.mk (below_step (by repeat (first | (with_reducible first | exact HB.out | apply below_alloc | apply pw_below_drewN | apply below_drew1) | exact HB.out)) hb); clear HB; have HB := n0_; clear n0_; (try clear hb); (try clear hb2); (try clear hk); (try clear hi)) | (go_at_call 25; (with_reducible refine (bits_With.calls a0 a3 t183 _ A57.out).mono ?_); rintro e w' ⟨rfl, ⟨nd, rfl⟩⟩) | ((with_reducible refine gate_dst (N := 110) rfl ?_); (try (refine gate_guard (by rfl) ?_; dsimp only)); refine Kd.R_lit (Kd.int .i64) _ 3 ?hg (N := 110) ?hd (xs := ([a3] : List Int)) (inner := [.int .i64 a3]) (ok := fun _ => True) (okp := fun _ => True) ?hr ?hp (fun _ hk => hk) trivial (Below.refl _ _) (Nat.le_refl _) (by simp) ?_; (case hd => rfl); (case hg => rfl); (case hr => first | (go_simp; done) | (go_simp; rfl)); (case hp => exact (Reps.one (show Kd.M (Kd.int .i64) _ _ _ a3 [.int .i64 a3] from rfl) (Reps.none _ _))); intro v185 w65 ho66 hb hg_ hnew_; clear hg_ hnew_; (first | rw [← Ny184.out] at ho66 | (simp only [Int.reduceToNat] at ho66; rw [← Ny184.out] at ho66)); have n0_ := Aside0.mk (Kd.R_lower ho66 (below_size (by repeat (first | (with_reducible first | exact HB.out | apply below_alloc | apply pw_below_drewN | apply below_drew1) | exact HB.out)))); have n1_ := Aside0.mk (below_step (by repeat (first | (with_reducible first | exact HB.out | apply below_alloc | apply pw_below_drewN | apply below_drew1) | exact HB.out)) hb); clear HB; have HO186 := n0_; have HB := n1_; clear n0_ n1_; clear hb ho66; obtain ⟨Ao67, co67, eo67⟩ := Kd.R_slice HO186.out; subst eo67) | (go_at_call 11; (with_reducible refine (syntagmref01_Of.calls kj36 _ _ y184 t187 _ ?side1 ?side2 A58.out).mono ?_); (case side1 => repeat (first | exact (Kd.R_reads' HO186.out).2.2 | (with_reducible refine Kd.C_alloc ?_ _) | (with_reducible refine Kd.C_drewN ?_ _) | (with_reducible refine Kd.C_drew ?_))); (case side2 => exact (Kd.R_reads' HO186.out).2.1); rintro e w' ⟨rfl, ⟨nd, rfl⟩⟩) | (go_at_call 19; (with_reducible refine (syntagmref01_Union.calls kj36 a0 t187 t188 _ A59.out).mono ?_); rintro e w68 ⟨rfl, hb⟩; have n0_ := Aside0.mk (Kd.R_below (by (with_reducible repeat (first | apply Kd.R_alloc | apply Kd.R_drewN | apply Kd.R_drew)); exact HO186.out) hb); have n1_ := Aside0.mk (below_step (by repeat (first | (with_reducible first | exact HB.out | apply below_alloc | apply pw_below_drewN | apply below_drew1) | exact HB.out)) hb); clear HO186; clear HB; have HO186 := n0_; have HB := n1_; clear n0_ n1_; (try clear hb); (try clear hb2); (try clear hk); (try clear hi)) | (go_at_call 26; (with_reducible refine (bits_Without.calls a0 a3 t189 _ A61.out).mono ?_); rintro e w' ⟨rfl, ⟨nd, rfl⟩⟩) | ((with_reducible refine gate_dst (N := 121) rfl ?_); (try (refine gate_guard (by rfl) ?_; dsimp only)); refine Kd.R_lit (Kd.int .i64) _ 3 ?hg (N := 121) ?hd (xs := ([a3] : List Int)) (inner := [.int .i64 a3]) (ok := fun _ => True) (okp := fun _ => True) ?hr ?hp (fun _ hk => hk) trivial (Below.refl _ _) (Nat.le_refl _) (by simp) ?_; (case hd => rfl); (case hg => rfl); (case hr => first | (go_simp; done) | (go_simp; rfl)); (case hp => exact (Reps.one (show Kd.M (Kd.int .i64) _ _ _ a3 [.int .i64 a3] from rfl) (Reps.none _ _))); intro v191 w69 ho70 hb hg_ hnew_; clear hg_ hnew_; (first | rw [← Ny190.out] at ho70 | (simp only [Int.reduceToNat] at ho70; rw [← Ny190.out] at ho70)); have n0_ := Aside0.mk (Kd.R_elder' (by (with_reducible repeat (first | apply Kd.R_alloc | apply Kd.R_drewN | apply Kd.R_drew)); exact HO186.out) (Kd.R_base ho70) hb); have n1_ := Aside0.mk (Kd.R_lower (Kd.R_new' ho70 (Kd.R_lt (by (with_reducible repeat (first | apply Kd.R_alloc | apply Kd.R_drewN | apply Kd.R_drew)); exact HO186.out))) (below_size (by repeat (first | (with_reducible first | exact HB.out | apply below_alloc | apply pw_below_drewN | apply below_drew1) | exact HB.out)))); have n2_ := Aside0.mk (below_step (by repeat (first | (with_reducible first | exact HB.out | apply below_alloc | apply pw_below_drewN | apply below_drew1) | exact HB.out)) hb); clear HO186; clear HB; have HO186 := n0_; have HO192 := n1_; have HB := n2_; clear n0_ n1_ n2_; clear hb ho70; obtain ⟨Ao71, co71, eo71⟩ := Kd.R_slice HO192.out; subst eo71) | (go_at_call 11; (with_reducible refine (syntagmref01_Of.calls kj36 _ _ y190 t193 _ ?side1 ?side2 A62.out).mono ?_); (case side1 => repeat (first | exact (Kd.R_reads' HO192.out).2.2 | (with_reducible refine Kd.C_alloc ?_ _) | (with_reducible refine Kd.C_drewN ?_ _) | (with_reducible refine Kd.C_drew ?_))); (case side2 => exact (Kd.R_reads' HO192.out).2.1); rintro e w' ⟨rfl, ⟨nd, rfl⟩⟩) | (go_at_call 23; (with_reducible refine (syntagmref01_Less.calls kj36 a0 t193 t194 _ A63.out).mono ?_); rintro e w72 ⟨rfl, hb⟩; have n0_ := Aside0.mk (Kd.R_below (by (with_reducible repeat (first | apply Kd.R_alloc | apply Kd.R_drewN | apply Kd.R_drew)); exact HO186.out) hb); have n1_ := Aside0.mk (Kd.R_below (by (with_reducible repeat (first | apply Kd.R_alloc | apply Kd.R_drewN | apply Kd.R_drew)); exact HO192.out) hb); have n2_ := Aside0.mk (below_step (by repeat (first | (with_reducible first | exact HB.out | apply below_alloc | apply pw_below_drewN | apply below_drew1) | exact HB.out)) hb); clear HO186; clear HO192; clear HB; have HO186 := n0_; have HO192 := n1_; have HB := n2_; clear n0_ n1_ n2_; (try clear hb); (try clear hb2); (try clear hk); (try clear hi)))
                          go_ret
                          exact ⟨by first | rfl | (simp [errW_none, errW_some] <;> rfl) | (simp [*, errW_none, errW_some] <;> rfl), by repeat (first | (with_reducible first | exact HB.out | apply below_alloc | apply pw_below_drewN | apply below_drew1) | exact HB.out)⟩
                        · rw [if_neg c60] at H
                          have c60b0 : (t183 == t188) = false := beq_eq_false_iff_ne.mpr c60
                          have c60b1 : (t183 != t188) = true := bne_iff_ne.mpr c60
                          obtain rfl := Option.some.inj H
                          go_wp2_with (first | (go_at_call 24; (with_reducible refine (bits_In.calls a0 a1 t181 _ A54.out).mono ?_); rintro e w' ⟨rfl, ⟨nd, rfl⟩⟩) | (go_at_call 23; (with_reducible refine (syntagmref01_Less.calls kj36 a0 a1 t182 _ A55.out).mono ?_); rintro e w73 ⟨rfl, hb⟩; have n0_ := Aside0.mk (below_step (by repeat (first | (with_reducible first | exact HB.out | apply below_alloc | apply pw_below_drewN | apply below_drew1) | exact HB.out)) hb); clear HB; have HB := n0_; clear n0_; (try clear hb); (try clear hb2); (try clear hk); (try clear hi)) | (go_at_call 25; (with_reducible refine (bits_With.calls a0 a3 t183 _ A57.out).mono ?_); rintro e w' ⟨rfl, ⟨nd, rfl⟩⟩) | ((with_reducible refine gate_dst (N := 110) rfl ?_); (try (refine gate_guard (by rfl) ?_; dsimp only)); refine Kd.R_lit (Kd.int .i64) _ 3 ?hg (N := 110) ?hd (xs := ([a3] : List Int)) (inner := [.int .i64 a3]) (ok := fun _ => True) (okp := fun _ => True) ?hr ?hp (fun _ hk => hk) trivial (Below.refl _ _) (Nat.le_refl _) (by simp) ?_; (case hd => rfl); (case hg => rfl); (case hr => first | (go_simp; done) | (go_simp; rfl)); (case hp => exact (Reps.one (show Kd.M (Kd.int .i64) _ _ _ a3 [.int .i64 a3] from rfl) (Reps.none _ _))); intro v185 w74 ho75 hb hg_ hnew_; clear hg_ hnew_; (first | rw [← Ny184.out] at ho75 | (simp only [Int.reduceToNat] at ho75; rw [← Ny184.out] at ho75)); have n0_ := Aside0.mk (Kd.R_lower ho75 (below_size (by repeat (first | (with_reducible first | exact HB.out | apply below_alloc | apply pw_below_drewN | apply below_drew1) | exact HB.out)))); have n1_ := Aside0.mk (below_step (by repeat (first | (with_reducible first | exact HB.out | apply below_alloc | apply pw_below_drewN | apply below_drew1) | exact HB.out)) hb); clear HB; have HO186 := n0_; have HB := n1_; clear n0_ n1_; clear hb ho75; obtain ⟨Ao76, co76, eo76⟩ := Kd.R_slice HO186.out; subst eo76) | (go_at_call 11; (with_reducible refine (syntagmref01_Of.calls kj36 _ _ y184 t187 _ ?side1 ?side2 A58.out).mono ?_); (case side1 => repeat (first | exact (Kd.R_reads' HO186.out).2.2 | (with_reducible refine Kd.C_alloc ?_ _) | (with_reducible refine Kd.C_drewN ?_ _) | (with_reducible refine Kd.C_drew ?_))); (case side2 => exact (Kd.R_reads' HO186.out).2.1); rintro e w' ⟨rfl, ⟨nd, rfl⟩⟩) | (go_at_call 19; (with_reducible refine (syntagmref01_Union.calls kj36 a0 t187 t188 _ A59.out).mono ?_); rintro e w77 ⟨rfl, hb⟩; have n0_ := Aside0.mk (Kd.R_below (by (with_reducible repeat (first | apply Kd.R_alloc | apply Kd.R_drewN | apply Kd.R_drew)); exact HO186.out) hb); have n1_ := Aside0.mk (below_step (by repeat (first | (with_reducible first | exact HB.out | apply below_alloc | apply pw_below_drewN | apply below_drew1) | exact HB.out)) hb); clear HO186; clear HB; have HO186 := n0_; have HB := n1_; clear n0_ n1_; (try clear hb); (try clear hb2); (try clear hk); (try clear hi)))
                          go_ret
                          exact ⟨by first | rfl | (simp [errW_none, errW_some] <;> rfl) | (simp [*, errW_none, errW_some] <;> rfl), by repeat (first | (with_reducible first | exact HB.out | apply below_alloc | apply pw_below_drewN | apply below_drew1) | exact HB.out)⟩
                      · rw [if_neg c56] at H
                        have c56b0 : (t181 == (t182 == 0)) = false := by simpa using c56
                        (try (have c56b1 : decide (t181 = (t182 == 0)) = false := by simpa using c56))
                        (try (have c56b2 : (t181 == (t182 == 0)) = false := by simpa using c56))
                        (try (have c56b3 : ¬ (t181 = (t182 == 0)) := by simpa using c56))
                        clear c56
                        obtain rfl := Option.some.inj H
                        go_wp2_with (first | (go_at_call 24; (with_reducible refine (bits_In.calls a0 a1 t181 _ A54.out).mono ?_); rintro e w' ⟨rfl, ⟨nd, rfl⟩⟩) | (go_at_call 23; (with_reducible refine (syntagmref01_Less.calls kj36 a0 a1 t182 _ A55.out).mono ?_); rintro e w78 ⟨rfl, hb⟩; have n0_ := Aside0.mk (below_step (by repeat (first | (with_reducible first | exact HB.out | apply below_alloc | apply pw_below_drewN | apply below_drew1) | exact HB.out)) hb); clear HB; have HB := n0_; clear n0_; (try clear hb); (try clear hb2); (try clear hk); (try clear hi)))
                        go_ret
                        exact ⟨by first | rfl | (simp [errW_none, errW_some] <;> rfl) | (simp [*, errW_none, errW_some] <;> rfl), by repeat (first | (with_reducible first | exact HB.out | apply below_alloc | apply pw_below_drewN | apply below_drew1) | exact HB.out)⟩
                    · replace c53 := Bool.eq_false_iff.mpr c53
                      subst c53
                      have H1 : (some false) = some r := by rw [if_neg (show ¬ (false = true) by decide)] at H; exact H
                      clear H
                      have H := H1
                      clear H1
                      obtain rfl := Option.some.inj H
                      go_wp2
                      go_ret
                      exact ⟨by first | rfl | (simp [errW_none, errW_some] <;> rfl) | (simp [*, errW_none, errW_some] <;> rfl), by repeat (first | (with_reducible first | exact HB.out | apply below_alloc | apply pw_below_drewN | apply below_drew1) | exact HB.out)⟩
                  · replace c52 := Bool.eq_false_iff.mpr c52
                    subst c52
                    have H1 : (some false) = some r := by rw [if_neg (show ¬ (false = true) by decide)] at H; exact H
                    clear H
                    have H := H1
                    clear H1
                    obtain rfl := Option.some.inj H
                    go_wp2
                    go_ret
                    exact ⟨by first | rfl | (simp [errW_none, errW_some] <;> rfl) | (simp [*, errW_none, errW_some] <;> rfl), by repeat (first | (with_reducible first | exact HB.out | apply below_alloc | apply pw_below_drewN | apply below_drew1) | exact HB.out)⟩
  · replace c6 := Bool.eq_false_iff.mpr c6
    subst c6
    have H1 : (some false) = some r := by rw [if_neg (show ¬ (false = true) by decide)] at H; exact H
    clear H
    have H := H1
    clear H1
    obtain rfl := Option.some.inj H
    go_enter Tryd.func3, Tryd.ntmps3
    go_wp2_with (first | ((with_reducible refine gate_callee (f := 8) rfl ?_); refine goesL_ (some 14) rfl rfl Tryd.func8 (by kernel_rfl) rfl #[] rfl (by (try simp only [List.map_toArray, List.map_cons, List.map_nil]); first | done | rfl | (simp only [List.length_drop, List.length_take]; rfl)) ?_; (with_reducible refine (syntagmlaw01_works.calls k  false _ ?side1 A5.out).mono ?_); (case side1 => exact GTab.below HG.out (by repeat (first | (with_reducible first | exact HB.out | apply below_alloc | apply pw_below_drewN | apply below_drew1) | exact HB.out))); rintro e w79 ⟨rfl, hb⟩; refine ⟨_, rfl, ?_⟩; have n0_ := Aside0.mk (below_step (by repeat (first | (with_reducible first | exact HB.out | apply below_alloc | apply pw_below_drewN | apply below_drew1) | exact HB.out)) hb); clear HB; have HB := n0_; clear n0_; (try clear hb); (try clear hb2); (try clear hk); (try clear hi)))
    go_ret
    exact ⟨by first | rfl | (simp [errW_none, errW_some] <;> rfl) | (simp [*, errW_none, errW_some] <;> rfl), by repeat (first | (with_reducible first | exact HB.out | apply below_alloc | apply pw_below_drewN | apply below_drew1) | exact HB.out)⟩

end Go.Proofs.YtknkgponjjghcaaDoor.P
