/- Functions of the given program as plain Lean functions, each with the proof that its call comes to that function's answer (conditions: the hypotheses of each '.calls'). Printed by wip/tools/pw.py, a wrapper round the kit's print. -/
import Derived.Test.YtageaahlkiaigaaDoorPx0
import Derived.Test.YtageaahlkiaigaaDoorPx5
import Derived.Test.YtageaahlkiaigaaDoorPx6
import Derived.Test.YtageaahlkiaigaaDoorPx7
import Derived.Test.YtageaahlkiaigaaDoorWd9
namespace Go.Proofs.YtageaahlkiaigaaDoor.P
open Go.RowKit Go.Proofs.YtageaahlkiaigaaDoorW.PrintWords Go.Proofs.YtageaahlkiaigaaDoorW.PrintLast Go.Proofs.YtageaahlkiaigaaDoorW.PrintMore
attribute [local go_sem] max2_int min2_int max_two min_two max_three min_three max_four min_four   -- for this text's walks alone
set_option linter.unusedVariables false
set_option linter.unusedSimpArgs false

/-! ### syntagmlaw08_WordsNames: function 3 -/
def syntagmlaw08_WordsNames.f (k : Nat) (a0 : ByteArray) : Option (Bool) := (syntagmlaw08_works.f).bind fun t158 => (if t158 = true then (if (a0.size : Int) > 400 then (some t158) else ((word_Quote.f a0).bind fun bt159 => ((syntagmref08_Quote.f k a0).bind fun bt161 => ((syntagmref08_IsName.f k a0).bind fun t163 => ((word_IsName.f a0).bind fun t164 => (if (t164 == t163) = true then (if bt159.1.toList = bt161.1.toList then (some (bt159.2 == bt161.2)) else (some false)) else (some false))))))) else (some false))
theorem syntagmlaw08_WordsNames.mono : ∀ a0 k, LeO (syntagmlaw08_WordsNames.f k a0) (syntagmlaw08_WordsNames.f (k + 1) a0) := by
  intro a0 k
  unfold syntagmlaw08_WordsNames.f
  repeat' first
      | (with_reducible exact syntagmref08_IsName.mono _ _)
      | (with_reducible exact syntagmref08_Quote.mono _ _)
      | (with_reducible exact LeO.refl _)
      | (with_reducible exact LeO.none _)
      | (with_reducible refine LeO.ite ?_ ?_)
      | (with_reducible refine LeO.bind ?_ (fun _ => ?_))
      | exact syntagmref08_IsName.mono _ _
      | exact syntagmref08_Quote.mono _ _
      | exact LeO.none _
      | refine LeO.ite ?_ ?_
      | refine LeO.bind ?_ (fun _ => ?_)
set_option maxHeartbeats 8000000 in
set_option maxRecDepth 100000 in
theorem syntagmlaw08_WordsNames.calls (k : Nat) (a0 : ByteArray) (r : Bool) (w : World) (hT : r = true) (h : syntagmlaw08_WordsNames.f k a0 = some r) :
    Calls Tryd.prog 3 #[.string a0] w fun e w' => e = .returned (.bool r) ∧ Below w.heap.size w w' := by
  have HT := Aside0.mk hT
  clear hT
  have HB := Aside0.mk (Below.refl w.heap.size w)
  have H : ((syntagmlaw08_works.f).bind fun t158 => (if t158 = true then (if (a0.size : Int) > 400 then (some t158) else ((word_Quote.f a0).bind fun bt159 => ((syntagmref08_Quote.f k a0).bind fun bt161 => ((syntagmref08_IsName.f k a0).bind fun t163 => ((word_IsName.f a0).bind fun t164 => (if (t164 == t163) = true then (if bt159.1.toList = bt161.1.toList then (some (bt159.2 == bt161.2)) else (some false)) else (some false))))))) else (some false))) = some r := h
  clear h
  replace H := Option.bind_eq_some_iff.mp H
  obtain ⟨t158, A20, H⟩ := H
  replace H : (if t158 = true then (if (a0.size : Int) > 400 then (some t158) else ((word_Quote.f a0).bind fun bt159 => ((syntagmref08_Quote.f k a0).bind fun bt161 => ((syntagmref08_IsName.f k a0).bind fun t163 => ((word_IsName.f a0).bind fun t164 => (if (t164 == t163) = true then (if bt159.1.toList = bt161.1.toList then (some (bt159.2 == bt161.2)) else (some false)) else (some false))))))) else (some false)) = some r := H
  have A2 := Aside0.mk A20
  clear A20
  by_cases c3 : t158 = true
  · subst c3
    have H1 : (if (a0.size : Int) > 400 then (some true) else ((word_Quote.f a0).bind fun bt159 => ((syntagmref08_Quote.f k a0).bind fun bt161 => ((syntagmref08_IsName.f k a0).bind fun t163 => ((word_IsName.f a0).bind fun t164 => (if (t164 == t163) = true then (if bt159.1.toList = bt161.1.toList then (some (bt159.2 == bt161.2)) else (some false)) else (some false))))))) = some r := by rw [if_pos rfl] at H; exact H
    clear H
    have H := H1
    clear H1
    by_cases c4 : (a0.size : Int) > 400
    · rw [if_pos c4] at H
      have c4b0 : decide (400 < (a0.size : Int)) = true := decide_eq_true c4
      have c4b1 : decide (400 < a0.size) = true := decide_eq_true (by omega)
      clear c4
      obtain rfl := Option.some.inj H
      go_enter Tryd.func3, Tryd.ntmps3
      go_wp2_with (first | ((with_reducible refine gate_callee (f := 9) rfl ?_); refine goesL_ (some 9) rfl rfl Tryd.func9 (by kernel_rfl) rfl #[] rfl (by (try simp only [List.map_toArray, List.map_cons, List.map_nil]); first | done | rfl | (simp only [List.length_drop, List.length_take]; rfl)) ?_; (with_reducible refine (syntagmlaw08_works.calls  true _ ?side1 A2.out).mono ?_); (case side1 => rfl); rintro e w5 ⟨rfl, hb⟩; refine ⟨_, rfl, ?_⟩; have n0_ := Aside0.mk (below_step (by repeat (first | (with_reducible first | exact HB.out | apply below_alloc | apply pw_below_drewN | apply below_drew1) | exact HB.out)) hb); clear HB; have HB := n0_; clear n0_; (try clear hb); (try clear hb2); (try clear hk); (try clear hi)))
      go_ret
      exact ⟨by first | rfl | (simp [errW_none, errW_some] <;> rfl) | (simp [*, errW_none, errW_some] <;> rfl), by repeat (first | (with_reducible first | exact HB.out | apply below_alloc | apply pw_below_drewN | apply below_drew1) | exact HB.out)⟩
    · rw [if_neg c4] at H
      have c4b0 : decide (400 < (a0.size : Int)) = false := decide_eq_false c4
      have c4b1 : decide (400 < a0.size) = false := decide_eq_false (by omega)
      clear c4
      replace H := Option.bind_eq_some_iff.mp H
      obtain ⟨⟨t159, t160⟩, A60, H⟩ := H
      replace H : ((syntagmref08_Quote.f k a0).bind fun bt161 => ((syntagmref08_IsName.f k a0).bind fun t163 => ((word_IsName.f a0).bind fun t164 => (if (t164 == t163) = true then (if t159.toList = bt161.1.toList then (some (t160 == bt161.2)) else (some false)) else (some false))))) = some r := H
      have A6 := Aside0.mk A60
      clear A60
      replace H := Option.bind_eq_some_iff.mp H
      obtain ⟨⟨t161, t162⟩, A70, H⟩ := H
      replace H : ((syntagmref08_IsName.f k a0).bind fun t163 => ((word_IsName.f a0).bind fun t164 => (if (t164 == t163) = true then (if t159.toList = t161.toList then (some (t160 == t162)) else (some false)) else (some false)))) = some r := H
      have A7 := Aside0.mk A70
      clear A70
      replace H := Option.bind_eq_some_iff.mp H
      obtain ⟨t163, A80, H⟩ := H
      replace H : ((word_IsName.f a0).bind fun t164 => (if (t164 == t163) = true then (if t159.toList = t161.toList then (some (t160 == t162)) else (some false)) else (some false))) = some r := H
      have A8 := Aside0.mk A80
      clear A80
      replace H := Option.bind_eq_some_iff.mp H
      obtain ⟨t164, A90, H⟩ := H
      replace H : (if (t164 == t163) = true then (if t159.toList = t161.toList then (some (t160 == t162)) else (some false)) else (some false)) = some r := H
      have A9 := Aside0.mk A90
      clear A90
      by_cases c10 : (t164 == t163) = true
      · rw [if_pos c10] at H
        have c10b0 : (t164 == t163) = true := c10
        (try (have c10b1 : decide (t164 = t163) = true := by simpa using c10))
        (try (have c10b2 : (t164 == t163) = true := by simpa using c10))
        clear c10
        by_cases c11 : t159.toList = t161.toList
        · rw [if_pos c11] at H
          have c11b0 : (t159.toList == t161.toList) = true := beq_iff_eq.mpr c11
          have c11b1 : (t159.toList != t161.toList) = false := bne_eq_false_iff_eq.mpr c11
          clear c11
          obtain rfl := Option.some.inj H
          go_enter Tryd.func3, Tryd.ntmps3
          go_wp2_with (first | ((with_reducible refine gate_callee (f := 9) rfl ?_); refine goesL_ (some 9) rfl rfl Tryd.func9 (by kernel_rfl) rfl #[] rfl (by (try simp only [List.map_toArray, List.map_cons, List.map_nil]); first | done | rfl | (simp only [List.length_drop, List.length_take]; rfl)) ?_; (with_reducible refine (syntagmlaw08_works.calls  true _ ?side1 A2.out).mono ?_); (case side1 => rfl); rintro e w12 ⟨rfl, hb⟩; refine ⟨_, rfl, ?_⟩; have n0_ := Aside0.mk (below_step (by repeat (first | (with_reducible first | exact HB.out | apply below_alloc | apply pw_below_drewN | apply below_drew1) | exact HB.out)) hb); clear HB; have HB := n0_; clear n0_; (try clear hb); (try clear hb2); (try clear hk); (try clear hi)) | ((with_reducible refine gate_callee (f := 10) rfl ?_); refine goesL_ (some 18) rfl rfl Tryd.func10 (by kernel_rfl) rfl #[.string a0] rfl (by (try simp only [List.map_toArray, List.map_cons, List.map_nil]); first | done | rfl | (simp only [List.length_drop, List.length_take]; rfl)) ?_; (with_reducible refine (word_Quote.calls a0 t159 t160 _ A6.out).mono ?_); rintro e w13 ⟨rfl, hb⟩; refine ⟨_, rfl, ?_⟩; have n0_ := Aside0.mk (below_step (by repeat (first | (with_reducible first | exact HB.out | apply below_alloc | apply pw_below_drewN | apply below_drew1) | exact HB.out)) hb); clear HB; have HB := n0_; clear n0_; (try clear hb); (try clear hb2); (try clear hk); (try clear hi)) | ((with_reducible refine gate_callee (f := 11) rfl ?_); refine goesL_ (some 23) rfl rfl Tryd.func11 (by kernel_rfl) rfl #[.string a0] rfl (by (try simp only [List.map_toArray, List.map_cons, List.map_nil]); first | done | rfl | (simp only [List.length_drop, List.length_take]; rfl)) ?_; (with_reducible refine (syntagmref08_Quote.calls k a0 t161 t162 _ A7.out).mono ?_); rintro e w14 ⟨rfl, hb⟩; refine ⟨_, rfl, ?_⟩; have n0_ := Aside0.mk (below_step (by repeat (first | (with_reducible first | exact HB.out | apply below_alloc | apply pw_below_drewN | apply below_drew1) | exact HB.out)) hb); clear HB; have HB := n0_; clear n0_; (try clear hb); (try clear hb2); (try clear hk); (try clear hi)) | ((with_reducible refine gate_callee (f := 12) rfl ?_); refine goesL_ (some 27) rfl rfl Tryd.func12 (by kernel_rfl) rfl #[.string a0] rfl (by (try simp only [List.map_toArray, List.map_cons, List.map_nil]); first | done | rfl | (simp only [List.length_drop, List.length_take]; rfl)) ?_; (with_reducible refine (syntagmref08_IsName.calls k a0 t163 _ A8.out).mono ?_); rintro e w' ⟨rfl, ⟨nd, rfl⟩⟩; refine ⟨_, rfl, ?_⟩) | (go_at_call 13; (with_reducible refine (word_IsName.calls a0 t164 _ A9.out).mono ?_); rintro e w15 ⟨rfl, hb⟩; have n0_ := Aside0.mk (below_step (by repeat (first | (with_reducible first | exact HB.out | apply below_alloc | apply pw_below_drewN | apply below_drew1) | exact HB.out)) hb); clear HB; have HB := n0_; clear n0_; (try clear hb); (try clear hb2); (try clear hk); (try clear hi)))
          go_ret
          exact ⟨by first | rfl | (simp [errW_none, errW_some] <;> rfl) | (simp [*, errW_none, errW_some] <;> rfl), by repeat (first | (with_reducible first | exact HB.out | apply below_alloc | apply pw_below_drewN | apply below_drew1) | exact HB.out)⟩
        · rw [if_neg c11] at H
          have c11b0 : (t159.toList == t161.toList) = false := beq_eq_false_iff_ne.mpr c11
          have c11b1 : (t159.toList != t161.toList) = true := bne_iff_ne.mpr c11
          exact absurd ((Option.some.inj H).trans HT.out) (by decide)
      · rw [if_neg c10] at H
        have c10b0 : (t164 == t163) = false := by simpa using c10
        (try (have c10b1 : decide (t164 = t163) = false := by simpa using c10))
        (try (have c10b2 : (t164 == t163) = false := by simpa using c10))
        (try (have c10b3 : ¬ (t164 = t163) := by simpa using c10))
        clear c10
        exact absurd ((Option.some.inj H).trans HT.out) (by decide)
  · replace c3 := Bool.eq_false_iff.mpr c3
    subst c3
    have H1 : (some false) = some r := by rw [if_neg (show ¬ (false = true) by decide)] at H; exact H
    clear H
    have H := H1
    clear H1
    exact absurd ((Option.some.inj H).trans HT.out) (by decide)

/-! ### syntagmlaw08_WordsQuote: function 4 -/
def syntagmlaw08_WordsQuote.f (a0 : ByteArray) : Option (Bool) := (syntagmlaw08_works.f).bind fun t165 => (if t165 = true then (if (a0.size : Int) > 400 then (some t165) else ((word_Quote.f a0).bind fun bt166 => (if bt166.2 = true then ((word_Words.f bt166.1).bind fun bt168 => (if bt168.2.1 = 0 then (if (bt168.1.length : Int) = 2 then (if 0 < (bt168.1.length : Int) then (if ((rd_T32 bt168.1 0).f0) = 3 then (if ((rd_T32 bt168.1 0).f1).toList = a0.toList then (if 1 < (bt168.1.length : Int) then (some (((rd_T32 bt168.1 1).f0) == 4)) else (none)) else (some false)) else (some false)) else (none)) else (some false)) else (some false))) else (some (bt166.1.toList == ([] : List UInt8)))))) else (some false))
set_option maxHeartbeats 8000000 in
set_option maxRecDepth 100000 in
theorem syntagmlaw08_WordsQuote.calls (a0 : ByteArray) (r : Bool) (w : World) (hT : r = true) (h : syntagmlaw08_WordsQuote.f a0 = some r) :
    Calls Tryd.prog 4 #[.string a0] w fun e w' => e = .returned (.bool r) ∧ Below w.heap.size w w' := by
  have HT := Aside0.mk hT
  clear hT
  have HB := Aside0.mk (Below.refl w.heap.size w)
  have H : ((syntagmlaw08_works.f).bind fun t165 => (if t165 = true then (if (a0.size : Int) > 400 then (some t165) else ((word_Quote.f a0).bind fun bt166 => (if bt166.2 = true then ((word_Words.f bt166.1).bind fun bt168 => (if bt168.2.1 = 0 then (if (bt168.1.length : Int) = 2 then (if 0 < (bt168.1.length : Int) then (if ((rd_T32 bt168.1 0).f0) = 3 then (if ((rd_T32 bt168.1 0).f1).toList = a0.toList then (if 1 < (bt168.1.length : Int) then (some (((rd_T32 bt168.1 1).f0) == 4)) else (none)) else (some false)) else (some false)) else (none)) else (some false)) else (some false))) else (some (bt166.1.toList == ([] : List UInt8)))))) else (some false))) = some r := h
  clear h
  replace H := Option.bind_eq_some_iff.mp H
  obtain ⟨t165, A20, H⟩ := H
  replace H : (if t165 = true then (if (a0.size : Int) > 400 then (some t165) else ((word_Quote.f a0).bind fun bt166 => (if bt166.2 = true then ((word_Words.f bt166.1).bind fun bt168 => (if bt168.2.1 = 0 then (if (bt168.1.length : Int) = 2 then (if 0 < (bt168.1.length : Int) then (if ((rd_T32 bt168.1 0).f0) = 3 then (if ((rd_T32 bt168.1 0).f1).toList = a0.toList then (if 1 < (bt168.1.length : Int) then (some (((rd_T32 bt168.1 1).f0) == 4)) else (none)) else (some false)) else (some false)) else (none)) else (some false)) else (some false))) else (some (bt166.1.toList == ([] : List UInt8)))))) else (some false)) = some r := H
  have A2 := Aside0.mk A20
  clear A20
  by_cases c3 : t165 = true
  · subst c3
    have H1 : (if (a0.size : Int) > 400 then (some true) else ((word_Quote.f a0).bind fun bt166 => (if bt166.2 = true then ((word_Words.f bt166.1).bind fun bt168 => (if bt168.2.1 = 0 then (if (bt168.1.length : Int) = 2 then (if 0 < (bt168.1.length : Int) then (if ((rd_T32 bt168.1 0).f0) = 3 then (if ((rd_T32 bt168.1 0).f1).toList = a0.toList then (if 1 < (bt168.1.length : Int) then (some (((rd_T32 bt168.1 1).f0) == 4)) else (none)) else (some false)) else (some false)) else (none)) else (some false)) else (some false))) else (some (bt166.1.toList == ([] : List UInt8)))))) = some r := by rw [if_pos rfl] at H; exact H
    clear H
    have H := H1
    clear H1
    by_cases c4 : (a0.size : Int) > 400
    · rw [if_pos c4] at H
      have c4b0 : decide (400 < (a0.size : Int)) = true := decide_eq_true c4
      have c4b1 : decide (400 < a0.size) = true := decide_eq_true (by omega)
      clear c4
      obtain rfl := Option.some.inj H
      go_enter Tryd.func4, Tryd.ntmps4
      go_wp2_with (first | ((with_reducible refine gate_callee (f := 9) rfl ?_); refine goesL_ (some 9) rfl rfl Tryd.func9 (by kernel_rfl) rfl #[] rfl (by (try simp only [List.map_toArray, List.map_cons, List.map_nil]); first | done | rfl | (simp only [List.length_drop, List.length_take]; rfl)) ?_; (with_reducible refine (syntagmlaw08_works.calls  true _ ?side1 A2.out).mono ?_); (case side1 => rfl); rintro e w5 ⟨rfl, hb⟩; refine ⟨_, rfl, ?_⟩; have n0_ := Aside0.mk (below_step (by repeat (first | (with_reducible first | exact HB.out | apply below_alloc | apply pw_below_drewN | apply below_drew1) | exact HB.out)) hb); clear HB; have HB := n0_; clear n0_; (try clear hb); (try clear hb2); (try clear hk); (try clear hi)))
      go_ret
      exact ⟨by first | rfl | (simp [errW_none, errW_some] <;> rfl) | (simp [*, errW_none, errW_some] <;> rfl), by repeat (first | (with_reducible first | exact HB.out | apply below_alloc | apply pw_below_drewN | apply below_drew1) | exact HB.out)⟩
    · rw [if_neg c4] at H
      have c4b0 : decide (400 < (a0.size : Int)) = false := decide_eq_false c4
      have c4b1 : decide (400 < a0.size) = false := decide_eq_false (by omega)
      clear c4
      replace H := Option.bind_eq_some_iff.mp H
      obtain ⟨⟨t166, t167⟩, A60, H⟩ := H
      replace H : (if t167 = true then ((word_Words.f t166).bind fun bt168 => (if bt168.2.1 = 0 then (if (bt168.1.length : Int) = 2 then (if 0 < (bt168.1.length : Int) then (if ((rd_T32 bt168.1 0).f0) = 3 then (if ((rd_T32 bt168.1 0).f1).toList = a0.toList then (if 1 < (bt168.1.length : Int) then (some (((rd_T32 bt168.1 1).f0) == 4)) else (none)) else (some false)) else (some false)) else (none)) else (some false)) else (some false))) else (some (t166.toList == ([] : List UInt8)))) = some r := H
      have A6 := Aside0.mk A60
      clear A60
      by_cases c7 : t167 = true
      · subst c7
        have H1 : ((word_Words.f t166).bind fun bt168 => (if bt168.2.1 = 0 then (if (bt168.1.length : Int) = 2 then (if 0 < (bt168.1.length : Int) then (if ((rd_T32 bt168.1 0).f0) = 3 then (if ((rd_T32 bt168.1 0).f1).toList = a0.toList then (if 1 < (bt168.1.length : Int) then (some (((rd_T32 bt168.1 1).f0) == 4)) else (none)) else (some false)) else (some false)) else (none)) else (some false)) else (some false))) = some r := by rw [if_pos rfl] at H; exact H
        clear H
        have H := H1
        clear H1
        replace H := Option.bind_eq_some_iff.mp H
        obtain ⟨⟨t168, t169, t170⟩, A80, H⟩ := H
        replace H : (if t169 = 0 then (if (t168.length : Int) = 2 then (if 0 < (t168.length : Int) then (if ((rd_T32 t168 0).f0) = 3 then (if ((rd_T32 t168 0).f1).toList = a0.toList then (if 1 < (t168.length : Int) then (some (((rd_T32 t168 1).f0) == 4)) else (none)) else (some false)) else (some false)) else (none)) else (some false)) else (some false)) = some r := H
        have A8 := Aside0.mk A80
        clear A80
        by_cases c9 : t169 = 0
        · rw [if_pos c9] at H
          have c9b0 : (t169 == 0) = true := beq_iff_eq.mpr c9
          have c9b1 : (t169 != 0) = false := bne_eq_false_iff_eq.mpr c9
          clear c9
          by_cases c10 : (t168.length : Int) = 2
          · rw [if_pos c10] at H
            have c10b0 : ((t168.length : Int) == 2) = true := beq_iff_eq.mpr c10
            have c10b1 : ((t168.length : Int) != 2) = false := bne_eq_false_iff_eq.mpr c10
            clear c10
            by_cases c11 : 0 < (t168.length : Int)
            · rw [if_pos c11] at H
              have c11b0 : decide (0 < (t168.length : Int)) = true := decide_eq_true c11
              have c11b1 : decide (0 < t168.length) = true := decide_eq_true (by omega)
              clear c11
              by_cases c12 : ((rd_T32 t168 0).f0) = 3
              · rw [if_pos c12] at H
                have c12b0 : (((rd_T32 t168 0).f0) == 3) = true := beq_iff_eq.mpr c12
                have c12b1 : (((rd_T32 t168 0).f0) != 3) = false := bne_eq_false_iff_eq.mpr c12
                clear c12
                by_cases c13 : ((rd_T32 t168 0).f1).toList = a0.toList
                · rw [if_pos c13] at H
                  have c13b0 : (((rd_T32 t168 0).f1).toList == a0.toList) = true := beq_iff_eq.mpr c13
                  have c13b1 : (((rd_T32 t168 0).f1).toList != a0.toList) = false := bne_eq_false_iff_eq.mpr c13
                  clear c13
                  by_cases c14 : 1 < (t168.length : Int)
                  · rw [if_pos c14] at H
                    have c14b0 : decide (1 < (t168.length : Int)) = true := decide_eq_true c14
                    have c14b1 : decide (1 < t168.length) = true := decide_eq_true (by omega)
                    clear c14
                    obtain rfl := Option.some.inj H
                    go_enter Tryd.func4, Tryd.ntmps4
                    go_wp2_with (first | ((with_reducible refine gate_callee (f := 9) rfl ?_); refine goesL_ (some 9) rfl rfl Tryd.func9 (by kernel_rfl) rfl #[] rfl (by (try simp only [List.map_toArray, List.map_cons, List.map_nil]); first | done | rfl | (simp only [List.length_drop, List.length_take]; rfl)) ?_; (with_reducible refine (syntagmlaw08_works.calls  true _ ?side1 A2.out).mono ?_); (case side1 => rfl); rintro e w15 ⟨rfl, hb⟩; refine ⟨_, rfl, ?_⟩; have n0_ := Aside0.mk (below_step (by repeat (first | (with_reducible first | exact HB.out | apply below_alloc | apply pw_below_drewN | apply below_drew1) | exact HB.out)) hb); clear HB; have HB := n0_; clear n0_; (try clear hb); (try clear hb2); (try clear hk); (try clear hi)) | ((with_reducible refine gate_callee (f := 10) rfl ?_); refine goesL_ (some 18) rfl rfl Tryd.func10 (by kernel_rfl) rfl #[.string a0] rfl (by (try simp only [List.map_toArray, List.map_cons, List.map_nil]); first | done | rfl | (simp only [List.length_drop, List.length_take]; rfl)) ?_; (with_reducible refine (word_Quote.calls a0 t166 true _ A6.out).mono ?_); rintro e w16 ⟨rfl, hb⟩; refine ⟨_, rfl, ?_⟩; have n0_ := Aside0.mk (below_step (by repeat (first | (with_reducible first | exact HB.out | apply below_alloc | apply pw_below_drewN | apply below_drew1) | exact HB.out)) hb); clear HB; have HB := n0_; clear n0_; (try clear hb); (try clear hb2); (try clear hk); (try clear hi)) | ((with_reducible refine gate_callee (f := 14) rfl ?_); refine goesL_ (some 30) rfl rfl Tryd.func14 (by kernel_rfl) rfl #[.string t166] rfl (by (try simp only [List.map_toArray, List.map_cons, List.map_nil]); first | done | rfl | (simp only [List.length_drop, List.length_take]; rfl)) ?_; (with_reducible refine (word_Words.calls t166 t168 t169 t170 _ A8.out).mono ?_); rintro e w17 ⟨v171, rfl, ho0, hb⟩; refine ⟨_, rfl, ?_⟩; have n0_ := Aside0.mk (Kd.R_lower ho0 (below_size (by repeat (first | (with_reducible first | exact HB.out | apply below_alloc | apply pw_below_drewN | apply below_drew1) | exact HB.out)))); have n1_ := Aside0.mk (below_step (by repeat (first | (with_reducible first | exact HB.out | apply below_alloc | apply pw_below_drewN | apply below_drew1) | exact HB.out)) hb); clear HB; have HO172 := n0_; have HB := n1_; clear n0_ n1_; (try clear hb); (try clear hb2); (try clear hk); (try clear hi); (try clear ho0); obtain ⟨Ao18, co18, eo18⟩ := Kd.R_slice HO172.out; subst eo18; have p173 : 0 ≤ (0 : Int) := (by omega); have q173 : 0 < (t168.length : Int) := of_decide_eq_true (by first | (with_reducible assumption) | assumption); obtain ⟨ad173, e173, hx173_0, hx173_1, hx173_2, hx173_3⟩ := at_T32 (Kd.R_reads' HO172.out).2.2 0 p173 q173; cases e173; have qi173 : (0 < t168.length) = True := eq_true (by omega); (try rw [show ((0 : Int)).toNat = 0 from rfl] at hx173_0); (try rw [show 0 * 4 = 0 from rfl] at hx173_0); (try rw [Addr.add_zero'] at hx173_0); (try rw [show ((0 : Int)).toNat = 0 from rfl] at hx173_1); (try rw [show 0 * 4 = 0 from rfl] at hx173_1); (try rw [Addr.add_zero'] at hx173_1); (try rw [show ((0 : Int)).toNat = 0 from rfl] at hx173_2); (try rw [show 0 * 4 = 0 from rfl] at hx173_2); (try rw [Addr.add_zero'] at hx173_2); (try rw [show ((0 : Int)).toNat = 0 from rfl] at hx173_3); (try rw [show 0 * 4 = 0 from rfl] at hx173_3); (try rw [Addr.add_zero'] at hx173_3); replace p173 := eq_true p173; replace q173 := eq_true q173; have p174 : 0 ≤ (0 : Int) := (by omega); have q174 : 0 < (t168.length : Int) := of_decide_eq_true (by first | (with_reducible assumption) | assumption); obtain ⟨ad174, e174, hx174_0, hx174_1, hx174_2, hx174_3⟩ := at_T32 (Kd.R_reads' HO172.out).2.2 0 p174 q174; obtain rfl : ad173 = ad174 := (by injection e174); have qi174 : (0 < t168.length) = True := eq_true (by omega); (try rw [show ((0 : Int)).toNat = 0 from rfl] at hx174_0); (try rw [show 0 * 4 = 0 from rfl] at hx174_0); (try rw [Addr.add_zero'] at hx174_0); (try rw [show ((0 : Int)).toNat = 0 from rfl] at hx174_1); (try rw [show 0 * 4 = 0 from rfl] at hx174_1); (try rw [Addr.add_zero'] at hx174_1); (try rw [show ((0 : Int)).toNat = 0 from rfl] at hx174_2); (try rw [show 0 * 4 = 0 from rfl] at hx174_2); (try rw [Addr.add_zero'] at hx174_2); (try rw [show ((0 : Int)).toNat = 0 from rfl] at hx174_3); (try rw [show 0 * 4 = 0 from rfl] at hx174_3); (try rw [Addr.add_zero'] at hx174_3); replace p174 := eq_true p174; replace q174 := eq_true q174; have p175 : 0 ≤ (1 : Int) := (by omega); have q175 : 1 < (t168.length : Int) := of_decide_eq_true (by first | (with_reducible assumption) | assumption); obtain ⟨ad175, e175, hx175_0, hx175_1, hx175_2, hx175_3⟩ := at_T32 (Kd.R_reads' HO172.out).2.2 1 p175 q175; obtain rfl : ad173 = ad175 := (by injection e175); (try simp only [show (1 : Int).toNat = 1 from rfl, Nat.reduceMul, Nat.reduceEqDiff, Go.Addr.add, ↓reduceIte] at hx175_0); (try simp only [show (1 : Int).toNat = 1 from rfl, Nat.reduceMul, Nat.reduceEqDiff, Go.Addr.add, ↓reduceIte] at hx175_1); (try simp only [show (1 : Int).toNat = 1 from rfl, Nat.reduceMul, Nat.reduceEqDiff, Go.Addr.add, ↓reduceIte] at hx175_2); (try simp only [show (1 : Int).toNat = 1 from rfl, Nat.reduceMul, Nat.reduceEqDiff, Go.Addr.add, ↓reduceIte] at hx175_3); have qi175 : (1 < t168.length) = True := eq_true (by omega); (try rw [show ((1 : Int)).toNat = 1 from rfl] at hx175_0); (try rw [show 1 * 4 = 4 from rfl] at hx175_0); (try rw [show ((1 : Int)).toNat = 1 from rfl] at hx175_1); (try rw [show 1 * 4 = 4 from rfl] at hx175_1); (try rw [show ((1 : Int)).toNat = 1 from rfl] at hx175_2); (try rw [show 1 * 4 = 4 from rfl] at hx175_2); (try rw [show ((1 : Int)).toNat = 1 from rfl] at hx175_3); (try rw [show 1 * 4 = 4 from rfl] at hx175_3); replace p175 := eq_true p175; replace q175 := eq_true q175))
                    go_ret
                    exact ⟨by first | rfl | (simp [errW_none, errW_some] <;> rfl) | (simp [*, errW_none, errW_some] <;> rfl), by repeat (first | (with_reducible first | exact HB.out | apply below_alloc | apply pw_below_drewN | apply below_drew1) | exact HB.out)⟩
                  · rw [if_neg c14] at H
                    exact absurd H (by simp)
                · rw [if_neg c13] at H
                  have c13b0 : (((rd_T32 t168 0).f1).toList == a0.toList) = false := beq_eq_false_iff_ne.mpr c13
                  have c13b1 : (((rd_T32 t168 0).f1).toList != a0.toList) = true := bne_iff_ne.mpr c13
                  exact absurd ((Option.some.inj H).trans HT.out) (by decide)
              · rw [if_neg c12] at H
                have c12b0 : (((rd_T32 t168 0).f0) == 3) = false := beq_eq_false_iff_ne.mpr c12
                have c12b1 : (((rd_T32 t168 0).f0) != 3) = true := bne_iff_ne.mpr c12
                exact absurd ((Option.some.inj H).trans HT.out) (by decide)
            · rw [if_neg c11] at H
              exact absurd H (by simp)
          · rw [if_neg c10] at H
            have c10b0 : ((t168.length : Int) == 2) = false := beq_eq_false_iff_ne.mpr c10
            have c10b1 : ((t168.length : Int) != 2) = true := bne_iff_ne.mpr c10
            exact absurd ((Option.some.inj H).trans HT.out) (by decide)
        · rw [if_neg c9] at H
          have c9b0 : (t169 == 0) = false := beq_eq_false_iff_ne.mpr c9
          have c9b1 : (t169 != 0) = true := bne_iff_ne.mpr c9
          exact absurd ((Option.some.inj H).trans HT.out) (by decide)
      · replace c7 := Bool.eq_false_iff.mpr c7
        subst c7
        have H1 : (some (t166.toList == ([] : List UInt8))) = some r := by rw [if_neg (show ¬ (false = true) by decide)] at H; exact H
        clear H
        have H := H1
        clear H1
        obtain rfl := Option.some.inj H
        go_enter Tryd.func4, Tryd.ntmps4
        go_wp2_with (first | ((with_reducible refine gate_callee (f := 9) rfl ?_); refine goesL_ (some 9) rfl rfl Tryd.func9 (by kernel_rfl) rfl #[] rfl (by (try simp only [List.map_toArray, List.map_cons, List.map_nil]); first | done | rfl | (simp only [List.length_drop, List.length_take]; rfl)) ?_; (with_reducible refine (syntagmlaw08_works.calls  true _ ?side1 A2.out).mono ?_); (case side1 => rfl); rintro e w19 ⟨rfl, hb⟩; refine ⟨_, rfl, ?_⟩; have n0_ := Aside0.mk (below_step (by repeat (first | (with_reducible first | exact HB.out | apply below_alloc | apply pw_below_drewN | apply below_drew1) | exact HB.out)) hb); clear HB; have HB := n0_; clear n0_; (try clear hb); (try clear hb2); (try clear hk); (try clear hi)) | ((with_reducible refine gate_callee (f := 10) rfl ?_); refine goesL_ (some 18) rfl rfl Tryd.func10 (by kernel_rfl) rfl #[.string a0] rfl (by (try simp only [List.map_toArray, List.map_cons, List.map_nil]); first | done | rfl | (simp only [List.length_drop, List.length_take]; rfl)) ?_; (with_reducible refine (word_Quote.calls a0 t166 false _ A6.out).mono ?_); rintro e w20 ⟨rfl, hb⟩; refine ⟨_, rfl, ?_⟩; have n0_ := Aside0.mk (below_step (by repeat (first | (with_reducible first | exact HB.out | apply below_alloc | apply pw_below_drewN | apply below_drew1) | exact HB.out)) hb); clear HB; have HB := n0_; clear n0_; (try clear hb); (try clear hb2); (try clear hk); (try clear hi)))
        go_ret
        exact ⟨by first | rfl | (simp [errW_none, errW_some] <;> rfl) | (simp [*, errW_none, errW_some] <;> rfl), by repeat (first | (with_reducible first | exact HB.out | apply below_alloc | apply pw_below_drewN | apply below_drew1) | exact HB.out)⟩
  · replace c3 := Bool.eq_false_iff.mpr c3
    subst c3
    have H1 : (some false) = some r := by rw [if_neg (show ¬ (false = true) by decide)] at H; exact H
    clear H
    have H := H1
    clear H1
    exact absurd ((Option.some.inj H).trans HT.out) (by decide)

end Go.Proofs.YtageaahlkiaigaaDoor.P
