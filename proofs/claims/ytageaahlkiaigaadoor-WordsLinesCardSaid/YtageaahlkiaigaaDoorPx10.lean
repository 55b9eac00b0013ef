/- Functions of the given program as plain Lean functions, each with the proof that its call comes to that function's answer (conditions: the hypotheses of each '.calls'). Printed by wip/tools/pw.py, a wrapper round the kit's print. -/
import Derived.Test.YtageaahlkiaigaaDoorPx0
import Derived.Test.YtageaahlkiaigaaDoorWdQ
import Derived.Test.YtageaahlkiaigaaDoorPx1
import Derived.Test.YtageaahlkiaigaaDoorPx5
import Derived.Test.YtageaahlkiaigaaDoorWd9
namespace Go.Proofs.YtageaahlkiaigaaDoor.P
open Go.RowKit Go.Proofs.YtageaahlkiaigaaDoorW.PrintWords Go.Proofs.YtageaahlkiaigaaDoorW.PrintLast Go.Proofs.YtageaahlkiaigaaDoorW.PrintMore
attribute [local go_sem] max2_int min2_int max_two min_two max_three min_three max_four min_four   -- for this text's walks alone
set_option linter.unusedVariables false
set_option linter.unusedSimpArgs false

attribute [local go_sem high] eqA32
/-! ### syntagmlaw08_WordsLines: function 6 -/
mutual
def syntagmlaw08_WordsLines.j0 : Nat → ByteArray → ByteArray → Bool → Bool → Option (Bool)
  | 0, _, _, _, _ => none
  | k + 1, x0, x1, x5, x27 => if x27 = true then (some x5) else ((word_Words.f x0).bind fun bt189 => ((word_Words.f x1).bind fun bt194 => (if x0.size + 1 ≤ 9223372036854775807 then (if (x0 ++ (⟨#[10]⟩ : ByteArray)).size + x1.size ≤ 9223372036854775807 then ((word_Words.f ((x0 ++ (⟨#[10]⟩ : ByteArray)) ++ x1)).bind fun bt199 => (if bt189.2.1 = 0 then (if bt194.2.1 = bt199.2.1 then (if bt194.2.1 = 0 then (syntagmlaw08_WordsLines.j1 k x0 x5 bt189.1 bt194.1 bt199.1 ((bt199.1.length : Int) != (wrap64 ((bt189.1.length : Int) + (bt194.1.length : Int))))) else (if bt199.2.2 = (wrap64 ((wrap64 (bt194.2.2 + (x0.size : Int))) + 1)) then (syntagmlaw08_WordsLines.j1 k x0 x5 bt189.1 bt194.1 bt199.1 ((bt199.1.length : Int) != (wrap64 ((bt189.1.length : Int) + (bt194.1.length : Int))))) else (syntagmlaw08_WordsLines.j1 k x0 x5 bt189.1 bt194.1 bt199.1 true))) else (syntagmlaw08_WordsLines.j1 k x0 x5 bt189.1 bt194.1 bt199.1 true)) else (some x5))) else (none)) else (none))))
def syntagmlaw08_WordsLines.j1 : Nat → ByteArray → Bool → List (S32) → List (S32) → List (S32) → Bool → Option (Bool)
  | 0, _, _, _, _, _, _ => none
  | k + 1, x0, x5, x6, x9, x12, x78 => if x78 = true then (some false) else (syntagmlaw08_WordsLines.l0 k x0 x5 x6 x9 x12 0)
def syntagmlaw08_WordsLines.l0 : Nat → ByteArray → Bool → List (S32) → List (S32) → List (S32) → Int → Option (Bool)
  | 0, _, _, _, _, _, _ => none
  | k + 1, x0, x5, x6, x9, x12, x15 => if x15 < (x12.length : Int) then (if x15 < (x6.length : Int) then (if 0 ≤ x15 then (if (!(((rd_T32 x12 x15).f0) == ((rd_T32 x6 x15).f0)) || (!((((rd_T32 x12 x15).f1).toList) == (((rd_T32 x6 x15).f1).toList)) || (!(((rd_T32 x12 x15).f2) == ((rd_T32 x6 x15).f2)) || (!(((rd_T32 x12 x15).f3) == ((rd_T32 x6 x15).f3)))))) = true then (some false) else (syntagmlaw08_WordsLines.l0 k x0 x5 x6 x9 x12 (wrap64 (x15 + 1)))) else (none)) else (if 0 ≤ (wrap64 (x15 - (x6.length : Int))) then (if (wrap64 (x15 - (x6.length : Int))) < (x9.length : Int) then (if 0 ≤ x15 then (if (!(((rd_T32 x12 x15).f0) == ((rd_T32 x9 (wrap64 (x15 - (x6.length : Int)))).f0)) || (!((((rd_T32 x12 x15).f1).toList) == (((rd_T32 x9 (wrap64 (x15 - (x6.length : Int)))).f1).toList)) || (!(((rd_T32 x12 x15).f2) == ((rd_T32 x9 (wrap64 (x15 - (x6.length : Int)))).f2)) || (!(((rd_T32 x12 x15).f3) == (wrap64 ((wrap64 (((rd_T32 x9 (wrap64 (x15 - (x6.length : Int)))).f3) + (x0.size : Int))) + 1))))))) = true then (some false) else (syntagmlaw08_WordsLines.l0 k x0 x5 x6 x9 x12 (wrap64 (x15 + 1)))) else (none)) else (none)) else (none))) else (some x5)
end
def syntagmlaw08_WordsLines.f (k : Nat) (a0 : ByteArray) (a1 : ByteArray) : Option (Bool) := (syntagmlaw08_works.f).bind fun t188 => (if t188 = true then (if (a0.size : Int) > 400 then (syntagmlaw08_WordsLines.j0 k a0 a1 t188 true) else (syntagmlaw08_WordsLines.j0 k a0 a1 t188 (decide ((a1.size : Int) > 400)))) else (some false))
theorem syntagmlaw08_WordsLines.mono_l : ∀ k, (∀ y0 y1 y2 y3, LeO (syntagmlaw08_WordsLines.j0 k y0 y1 y2 y3) (syntagmlaw08_WordsLines.j0 (k + 1) y0 y1 y2 y3)) ∧ (∀ y0 y1 y2 y3 y4 y5, LeO (syntagmlaw08_WordsLines.j1 k y0 y1 y2 y3 y4 y5) (syntagmlaw08_WordsLines.j1 (k + 1) y0 y1 y2 y3 y4 y5)) ∧ (∀ y0 y1 y2 y3 y4 y5, LeO (syntagmlaw08_WordsLines.l0 k y0 y1 y2 y3 y4 y5) (syntagmlaw08_WordsLines.l0 (k + 1) y0 y1 y2 y3 y4 y5))
  | 0 => ⟨fun _ _ _ _ r h => by simp [syntagmlaw08_WordsLines.j0] at h, fun _ _ _ _ _ _ r h => by simp [syntagmlaw08_WordsLines.j1] at h, fun _ _ _ _ _ _ r h => by simp [syntagmlaw08_WordsLines.l0] at h⟩
  | k + 1 => by
    obtain ⟨ih0, ih1, ih2⟩ := syntagmlaw08_WordsLines.mono_l k
    refine ⟨?_, ?_, ?_⟩
    · intro y0 y1 y2 y3
      unfold syntagmlaw08_WordsLines.j0
      repeat' first
      | (with_reducible exact ih0 _ _ _ _)
      | (with_reducible exact ih1 _ _ _ _ _ _)
      | (with_reducible exact ih2 _ _ _ _ _ _)
      | (with_reducible exact LeO.refl _)
      | (with_reducible exact LeO.none _)
      | (with_reducible refine LeO.ite ?_ ?_)
      | (with_reducible refine LeO.bind ?_ (fun _ => ?_))
      | exact ih0 _ _ _ _
      | exact ih1 _ _ _ _ _ _
      | exact ih2 _ _ _ _ _ _
      | exact LeO.none _
      | refine LeO.ite ?_ ?_
      | refine LeO.bind ?_ (fun _ => ?_)
    · intro y0 y1 y2 y3 y4 y5
      unfold syntagmlaw08_WordsLines.j1
      repeat' first
      | (with_reducible exact ih0 _ _ _ _)
      | (with_reducible exact ih1 _ _ _ _ _ _)
      | (with_reducible exact ih2 _ _ _ _ _ _)
      | (with_reducible exact LeO.refl _)
      | (with_reducible exact LeO.none _)
      | (with_reducible refine LeO.ite ?_ ?_)
      | (with_reducible refine LeO.bind ?_ (fun _ => ?_))
      | exact ih0 _ _ _ _
      | exact ih1 _ _ _ _ _ _
      | exact ih2 _ _ _ _ _ _
      | exact LeO.none _
      | refine LeO.ite ?_ ?_
      | refine LeO.bind ?_ (fun _ => ?_)
    · intro y0 y1 y2 y3 y4 y5
      unfold syntagmlaw08_WordsLines.l0
      repeat' first
      | (with_reducible exact ih0 _ _ _ _)
      | (with_reducible exact ih1 _ _ _ _ _ _)
      | (with_reducible exact ih2 _ _ _ _ _ _)
      | (with_reducible exact LeO.refl _)
      | (with_reducible exact LeO.none _)
      | (with_reducible refine LeO.ite ?_ ?_)
      | (with_reducible refine LeO.bind ?_ (fun _ => ?_))
      | exact ih0 _ _ _ _
      | exact ih1 _ _ _ _ _ _
      | exact ih2 _ _ _ _ _ _
      | exact LeO.none _
      | refine LeO.ite ?_ ?_
      | refine LeO.bind ?_ (fun _ => ?_)
theorem syntagmlaw08_WordsLines.mono : ∀ a0 a1 k, LeO (syntagmlaw08_WordsLines.f k a0 a1) (syntagmlaw08_WordsLines.f (k + 1) a0 a1) := by
  intro a0 a1 k
  obtain ⟨ih0, ih1, ih2⟩ := syntagmlaw08_WordsLines.mono_l k
  unfold syntagmlaw08_WordsLines.f
  repeat' first
      | (with_reducible exact ih0 _ _ _ _)
      | (with_reducible exact ih1 _ _ _ _ _ _)
      | (with_reducible exact ih2 _ _ _ _ _ _)
      | (with_reducible exact LeO.refl _)
      | (with_reducible exact LeO.none _)
      | (with_reducible refine LeO.ite ?_ ?_)
      | (with_reducible refine LeO.bind ?_ (fun _ => ?_))
      | exact ih0 _ _ _ _
      | exact ih1 _ _ _ _ _ _
      | exact ih2 _ _ _ _ _ _
      | exact LeO.none _
      | refine LeO.ite ?_ ?_
      | refine LeO.bind ?_ (fun _ => ?_)
set_option maxHeartbeats 8000000 in
set_option maxRecDepth 100000 in
theorem syntagmlaw08_WordsLines.calls (k : Nat) (a0 : ByteArray) (a1 : ByteArray) (r : Bool) (w : World) (hT : r = true) (h : syntagmlaw08_WordsLines.f k a0 a1 = some r) :
    Calls Tryd.prog 6 #[.string a0, .string a1] w fun e w' => e = .returned (.bool r) ∧ Below w.heap.size w w' := by
  have hu32 := Tryd.underlying32
  have HT := Aside0.mk hT
  clear hT
  have HB := Aside0.mk (Below.refl w.heap.size w)
  have H : ((syntagmlaw08_works.f).bind fun t188 => (if t188 = true then (if (a0.size : Int) > 400 then (syntagmlaw08_WordsLines.j0 k a0 a1 t188 true) else (syntagmlaw08_WordsLines.j0 k a0 a1 t188 (decide ((a1.size : Int) > 400)))) else (some false))) = some r := h
  clear h
  replace H := Option.bind_eq_some_iff.mp H
  obtain ⟨t188, A30, H⟩ := H
  replace H : (if t188 = true then (if (a0.size : Int) > 400 then (syntagmlaw08_WordsLines.j0 k a0 a1 t188 true) else (syntagmlaw08_WordsLines.j0 k a0 a1 t188 (decide ((a1.size : Int) > 400)))) else (some false)) = some r := H
  have A3 := Aside0.mk A30
  clear A30
  by_cases c4 : t188 = true
  · subst c4
    have H1 : (if (a0.size : Int) > 400 then (syntagmlaw08_WordsLines.j0 k a0 a1 true true) else (syntagmlaw08_WordsLines.j0 k a0 a1 true (decide ((a1.size : Int) > 400)))) = some r := by rw [if_pos rfl] at H; exact H
    clear H
    have H := H1
    clear H1
    have HC5 := Aside0.mk H
    clear H
    go_enter Tryd.func6, Tryd.ntmps6
    go_upto_region 4 with (first | (go_at_call 9; (with_reducible refine (syntagmlaw08_works.calls  true _ ?side1 A3.out).mono ?_); (case side1 => rfl); rintro e w6 ⟨rfl, hb⟩; have n0_ := Aside0.mk (below_step (by repeat (first | (with_reducible first | exact HB.out | apply below_alloc | apply pw_below_drewN | apply below_drew1) | exact HB.out)) hb); clear HB; have HB := n0_; clear n0_; (try clear hb); (try clear hb2); (try clear hk); (try clear hi)))
    repeat (go_quiet (first | (go_at_call 9; (with_reducible refine (syntagmlaw08_works.calls  true _ ?side1 A3.out).mono ?_); (case side1 => rfl); rintro e w6 ⟨rfl, hb⟩; have n0_ := Aside0.mk (below_step (by repeat (first | (with_reducible first | exact HB.out | apply below_alloc | apply pw_below_drewN | apply below_drew1) | exact HB.out)) hb); clear HB; have HB := n0_; clear n0_; (try clear hb); (try clear hb2); (try clear hk); (try clear hi))); go_upto_region 4 with (first | (go_at_call 9; (with_reducible refine (syntagmlaw08_works.calls  true _ ?side1 A3.out).mono ?_); (case side1 => rfl); rintro e w6 ⟨rfl, hb⟩; have n0_ := Aside0.mk (below_step (by repeat (first | (with_reducible first | exact HB.out | apply below_alloc | apply pw_below_drewN | apply below_drew1) | exact HB.out)) hb); clear HB; have HB := n0_; clear n0_; (try clear hb); (try clear hb2); (try clear hk); (try clear hi))))
    (try simp only [Act.put, List.setIfInBounds_toArray, List.set_cons_zero, List.set_cons_succ])
    go_cut [27] (fun v27 wc => ∃ (kq : Nat) (x27_4 : Bool), v27 = .bool x27_4 ∧ Aside0 (syntagmlaw08_WordsLines.j0 kq a0 a1 true x27_4 = some r) ∧ Aside0 (kq ≤ k) ∧ Aside0 (Below w.heap.size w wc))
    case first =>
      have H := HC5.out
      clear HC5
      by_cases c7 : (a0.size : Int) > 400
      · rw [if_pos c7] at H
        have c7b0 : decide (400 < (a0.size : Int)) = true := decide_eq_true c7
        have c7b1 : decide (400 < a0.size) = true := decide_eq_true (by omega)
        clear c7
        (first | rw [c7b0] | (simp only [i64_w, i32_w]; rw [c7b0]) | skip)
        have H' := Aside0.mk H
        clear H
        go_wp2
        repeat (go_quiet (fail); try go_wp2)
        go_meet
        case rel => exact ⟨_, (true), (by first | rfl | (simp; done) | (simp [*]; done)), H', ⟨by first | omega | exact Nat.le_refl _⟩, ⟨by repeat (first | (with_reducible first | exact HB.out | apply below_alloc | apply pw_below_drewN | apply below_drew1) | exact HB.out)⟩⟩
      · rw [if_neg c7] at H
        have c7b0 : decide (400 < (a0.size : Int)) = false := decide_eq_false c7
        have c7b1 : decide (400 < a0.size) = false := decide_eq_false (by omega)
        clear c7
        (first | rw [c7b0] | (simp only [i64_w, i32_w]; rw [c7b0]) | skip)
        have H' := Aside0.mk H
        clear H
        go_wp2
        repeat (go_quiet (fail); try go_wp2)
        go_meet
        case rel => exact ⟨_, (decide ((a1.size : Int) > 400)), (by first | rfl | (simp; done) | (simp [*]; done)), H', ⟨by first | omega | exact Nat.le_refl _⟩, ⟨by repeat (first | (with_reducible first | exact HB.out | apply below_alloc | apply pw_below_drewN | apply below_drew1) | exact HB.out)⟩⟩
    case rest =>
      clear HC5
      try clear p2
      try clear c4
      try clear c6
      try clear c7
      try clear c7b0
      try clear c7b1
      obtain ⟨kq, x27_4, rfl, HA, HJ4, HB⟩ := hcut
      cases kq with
      | zero => exact absurd HA.out (by simp [syntagmlaw08_WordsLines.j0])
      | succ kj4 =>
        have H := HA.out
        clear HA
        simp only [syntagmlaw08_WordsLines.j0] at H
        by_cases c8 : x27_4 = true
        · subst c8
          have H1 : (some true) = some r := by rw [if_pos rfl] at H; exact H
          clear H
          have H := H1
          clear H1
          obtain rfl := Option.some.inj H
          go_wp2
          repeat (go_quiet (fail); try go_wp2)
          go_ret
          exact ⟨by first | rfl | (simp [errW_none, errW_some] <;> rfl) | (simp [*, errW_none, errW_some] <;> rfl), by repeat (first | (with_reducible first | exact HB.out | apply below_alloc | apply pw_below_drewN | apply below_drew1) | exact HB.out)⟩
        · replace c8 := Bool.eq_false_iff.mpr c8
          subst c8
          have H1 : ((word_Words.f a0).bind fun bt189 => ((word_Words.f a1).bind fun bt194 => (if a0.size + 1 ≤ 9223372036854775807 then (if (a0 ++ (⟨#[10]⟩ : ByteArray)).size + a1.size ≤ 9223372036854775807 then ((word_Words.f ((a0 ++ (⟨#[10]⟩ : ByteArray)) ++ a1)).bind fun bt199 => (if bt189.2.1 = 0 then (if bt194.2.1 = bt199.2.1 then (if bt194.2.1 = 0 then (syntagmlaw08_WordsLines.j1 kj4 a0 true bt189.1 bt194.1 bt199.1 ((bt199.1.length : Int) != (wrap64 ((bt189.1.length : Int) + (bt194.1.length : Int))))) else (if bt199.2.2 = (wrap64 ((wrap64 (bt194.2.2 + (a0.size : Int))) + 1)) then (syntagmlaw08_WordsLines.j1 kj4 a0 true bt189.1 bt194.1 bt199.1 ((bt199.1.length : Int) != (wrap64 ((bt189.1.length : Int) + (bt194.1.length : Int))))) else (syntagmlaw08_WordsLines.j1 kj4 a0 true bt189.1 bt194.1 bt199.1 true))) else (syntagmlaw08_WordsLines.j1 kj4 a0 true bt189.1 bt194.1 bt199.1 true)) else (some true))) else (none)) else (none)))) = some r := by rw [if_neg (show ¬ (false = true) by decide)] at H; exact H
          clear H
          have H := H1
          clear H1
          replace H := Option.bind_eq_some_iff.mp H
          obtain ⟨⟨t189, t190, t191⟩, A90, H⟩ := H
          replace H : ((word_Words.f a1).bind fun bt194 => (if a0.size + 1 ≤ 9223372036854775807 then (if (a0 ++ (⟨#[10]⟩ : ByteArray)).size + a1.size ≤ 9223372036854775807 then ((word_Words.f ((a0 ++ (⟨#[10]⟩ : ByteArray)) ++ a1)).bind fun bt199 => (if t190 = 0 then (if bt194.2.1 = bt199.2.1 then (if bt194.2.1 = 0 then (syntagmlaw08_WordsLines.j1 kj4 a0 true t189 bt194.1 bt199.1 ((bt199.1.length : Int) != (wrap64 ((t189.length : Int) + (bt194.1.length : Int))))) else (if bt199.2.2 = (wrap64 ((wrap64 (bt194.2.2 + (a0.size : Int))) + 1)) then (syntagmlaw08_WordsLines.j1 kj4 a0 true t189 bt194.1 bt199.1 ((bt199.1.length : Int) != (wrap64 ((t189.length : Int) + (bt194.1.length : Int))))) else (syntagmlaw08_WordsLines.j1 kj4 a0 true t189 bt194.1 bt199.1 true))) else (syntagmlaw08_WordsLines.j1 kj4 a0 true t189 bt194.1 bt199.1 true)) else (some true))) else (none)) else (none))) = some r := H
          have A9 := Aside0.mk A90
          clear A90
          replace H := Option.bind_eq_some_iff.mp H
          obtain ⟨⟨t194, t195, t196⟩, A100, H⟩ := H
          replace H : (if a0.size + 1 ≤ 9223372036854775807 then (if (a0 ++ (⟨#[10]⟩ : ByteArray)).size + a1.size ≤ 9223372036854775807 then ((word_Words.f ((a0 ++ (⟨#[10]⟩ : ByteArray)) ++ a1)).bind fun bt199 => (if t190 = 0 then (if t195 = bt199.2.1 then (if t195 = 0 then (syntagmlaw08_WordsLines.j1 kj4 a0 true t189 t194 bt199.1 ((bt199.1.length : Int) != (wrap64 ((t189.length : Int) + (t194.length : Int))))) else (if bt199.2.2 = (wrap64 ((wrap64 (t196 + (a0.size : Int))) + 1)) then (syntagmlaw08_WordsLines.j1 kj4 a0 true t189 t194 bt199.1 ((bt199.1.length : Int) != (wrap64 ((t189.length : Int) + (t194.length : Int))))) else (syntagmlaw08_WordsLines.j1 kj4 a0 true t189 t194 bt199.1 true))) else (syntagmlaw08_WordsLines.j1 kj4 a0 true t189 t194 bt199.1 true)) else (some true))) else (none)) else (none)) = some r := H
          have A10 := Aside0.mk A100
          clear A100
          by_cases c11 : a0.size + 1 ≤ 9223372036854775807
          · rw [if_pos c11] at H
            have c11b0 := eq_true c11
            have c11b1 : decide (a0.size + 1 ≤ 9223372036854775807) = true := decide_eq_true c11
            try have c11b2 : (9223372036854775807 < a0.size + 1) = False := eq_false (Nat.not_lt.2 c11)
            by_cases c12 : (a0 ++ (⟨#[10]⟩ : ByteArray)).size + a1.size ≤ 9223372036854775807
            · rw [if_pos c12] at H
              have c12b0 := eq_true c12
              have c12b1 : decide ((a0 ++ (⟨#[10]⟩ : ByteArray)).size + a1.size ≤ 9223372036854775807) = true := decide_eq_true c12
              try have c12b2 : (9223372036854775807 < (a0 ++ (⟨#[10]⟩ : ByteArray)).size + a1.size) = False := eq_false (Nat.not_lt.2 c12)
              replace H := Option.bind_eq_some_iff.mp H
              obtain ⟨⟨t199, t200, t201⟩, A130, H⟩ := H
              replace H : (if t190 = 0 then (if t195 = t200 then (if t195 = 0 then (syntagmlaw08_WordsLines.j1 kj4 a0 true t189 t194 t199 ((t199.length : Int) != (wrap64 ((t189.length : Int) + (t194.length : Int))))) else (if t201 = (wrap64 ((wrap64 (t196 + (a0.size : Int))) + 1)) then (syntagmlaw08_WordsLines.j1 kj4 a0 true t189 t194 t199 ((t199.length : Int) != (wrap64 ((t189.length : Int) + (t194.length : Int))))) else (syntagmlaw08_WordsLines.j1 kj4 a0 true t189 t194 t199 true))) else (syntagmlaw08_WordsLines.j1 kj4 a0 true t189 t194 t199 true)) else (some true)) = some r := H
              have A13 := Aside0.mk A130
              clear A130
              by_cases c14 : t190 = 0
              · rw [if_pos c14] at H
                have c14b0 : (t190 == 0) = true := beq_iff_eq.mpr c14
                have c14b1 : (t190 != 0) = false := bne_eq_false_iff_eq.mpr c14
                clear c14
                have HC15 := Aside0.mk H
                clear H
                go_upto_region 11 with (first | (go_at_call 14; (with_reducible refine (word_Words.calls a0 t189 t190 t191 _ A9.out).mono ?_); rintro e w16 ⟨v192, rfl, ho0, hb⟩; have n0_ := Aside0.mk (Kd.R_lower ho0 (below_size (by repeat (first | (with_reducible first | exact HB.out | apply below_alloc | apply pw_below_drewN | apply below_drew1) | exact HB.out)))); have n1_ := Aside0.mk (below_step (by repeat (first | (with_reducible first | exact HB.out | apply below_alloc | apply pw_below_drewN | apply below_drew1) | exact HB.out)) hb); clear HB; have HO193 := n0_; have HB := n1_; clear n0_ n1_; (try clear hb); (try clear hb2); (try clear hk); (try clear hi); (try clear ho0)) | (go_at_call 14; (with_reducible refine (word_Words.calls a1 t194 t195 t196 _ A10.out).mono ?_); rintro e w17 ⟨v197, rfl, ho0, hb⟩; have n0_ := Aside0.mk (Kd.R_elder' (by (with_reducible repeat (first | apply Kd.R_alloc | apply Kd.R_drewN | apply Kd.R_drew)); exact HO193.out) (Kd.R_base ho0) hb); have n1_ := Aside0.mk (Kd.R_lower (Kd.R_new' ho0 (Kd.R_lt (by (with_reducible repeat (first | apply Kd.R_alloc | apply Kd.R_drewN | apply Kd.R_drew)); exact HO193.out))) (below_size (by repeat (first | (with_reducible first | exact HB.out | apply below_alloc | apply pw_below_drewN | apply below_drew1) | exact HB.out)))); have n2_ := Aside0.mk (below_step (by repeat (first | (with_reducible first | exact HB.out | apply below_alloc | apply pw_below_drewN | apply below_drew1) | exact HB.out)) hb); clear HO193; clear HB; have HO193 := n0_; have HO198 := n1_; have HB := n2_; clear n0_ n1_ n2_; (try clear hb); (try clear hb2); (try clear hk); (try clear hi); (try clear ho0)) | (go_at_call 14; (with_reducible refine (word_Words.calls ((a0 ++ (⟨#[10]⟩ : ByteArray)) ++ a1) t199 t200 t201 _ A13.out).mono ?_); rintro e w18 ⟨v202, rfl, ho0, hb⟩; have n0_ := Aside0.mk (Kd.R_elder' (by (with_reducible repeat (first | apply Kd.R_alloc | apply Kd.R_drewN | apply Kd.R_drew)); exact HO193.out) (Kd.R_base ho0) hb); have n1_ := Aside0.mk (Kd.R_elder' (by (with_reducible repeat (first | apply Kd.R_alloc | apply Kd.R_drewN | apply Kd.R_drew)); exact HO198.out) (Kd.R_base ho0) hb); have n2_ := Aside0.mk (Kd.R_lower (Kd.R_new' (Kd.R_new' ho0 (Kd.R_lt (by (with_reducible repeat (first | apply Kd.R_alloc | apply Kd.R_drewN | apply Kd.R_drew)); exact HO193.out))) (Kd.R_lt (by (with_reducible repeat (first | apply Kd.R_alloc | apply Kd.R_drewN | apply Kd.R_drew)); exact HO198.out))) (below_size (by repeat (first | (with_reducible first | exact HB.out | apply below_alloc | apply pw_below_drewN | apply below_drew1) | exact HB.out)))); have n3_ := Aside0.mk (below_step (by repeat (first | (with_reducible first | exact HB.out | apply below_alloc | apply pw_below_drewN | apply below_drew1) | exact HB.out)) hb); clear HO193; clear HO198; clear HB; have HO193 := n0_; have HO198 := n1_; have HO203 := n2_; have HB := n3_; clear n0_ n1_ n2_ n3_; (try clear hb); (try clear hb2); (try clear hk); (try clear hi); (try clear ho0)))
                repeat (go_quiet (first | (go_at_call 14; (with_reducible refine (word_Words.calls a0 t189 t190 t191 _ A9.out).mono ?_); rintro e w16 ⟨v192, rfl, ho0, hb⟩; have n0_ := Aside0.mk (Kd.R_lower ho0 (below_size (by repeat (first | (with_reducible first | exact HB.out | apply below_alloc | apply pw_below_drewN | apply below_drew1) | exact HB.out)))); have n1_ := Aside0.mk (below_step (by repeat (first | (with_reducible first | exact HB.out | apply below_alloc | apply pw_below_drewN | apply below_drew1) | exact HB.out)) hb); clear HB; have HO193 := n0_; have HB := n1_; clear n0_ n1_; (try clear hb); (try clear hb2); (try clear hk); (try clear hi); (try clear ho0)) | (go_at_call 14; (with_reducible refine (word_Words.calls a1 t194 t195 t196 _ A10.out).mono ?_); rintro e w17 ⟨v197, rfl, ho0, hb⟩; have n0_ := Aside0.mk (Kd.R_elder' (by (with_reducible repeat (first | apply Kd.R_alloc | apply Kd.R_drewN | apply Kd.R_drew)); exact HO193.out) (Kd.R_base ho0) hb); have n1_ := Aside0.mk (Kd.R_lower (Kd.R_new' ho0 (Kd.R_lt (by (with_reducible repeat (first | apply Kd.R_alloc | apply Kd.R_drewN | apply Kd.R_drew)); exact HO193.out))) (below_size (by repeat (first | (with_reducible first | exact HB.out | apply below_alloc | apply pw_below_drewN | apply below_drew1) | exact HB.out)))); have n2_ := Aside0.mk (below_step (by repeat (first | (with_reducible first | exact HB.out | apply below_alloc | apply pw_below_drewN | apply below_drew1) | exact HB.out)) hb); clear HO193; clear HB; have HO193 := n0_; have HO198 := n1_; have HB := n2_; clear n0_ n1_ n2_; (try clear hb); (try clear hb2); (try clear hk); (try clear hi); (try clear ho0)) | (go_at_call 14; (with_reducible refine (word_Words.calls ((a0 ++ (⟨#[10]⟩ : ByteArray)) ++ a1) t199 t200 t201 _ A13.out).mono ?_); rintro e w18 ⟨v202, rfl, ho0, hb⟩; have n0_ := Aside0.mk (Kd.R_elder' (by (with_reducible repeat (first | apply Kd.R_alloc | apply Kd.R_drewN | apply Kd.R_drew)); exact HO193.out) (Kd.R_base ho0) hb); have n1_ := Aside0.mk (Kd.R_elder' (by (with_reducible repeat (first | apply Kd.R_alloc | apply Kd.R_drewN | apply Kd.R_drew)); exact HO198.out) (Kd.R_base ho0) hb); have n2_ := Aside0.mk (Kd.R_lower (Kd.R_new' (Kd.R_new' ho0 (Kd.R_lt (by (with_reducible repeat (first | apply Kd.R_alloc | apply Kd.R_drewN | apply Kd.R_drew)); exact HO193.out))) (Kd.R_lt (by (with_reducible repeat (first | apply Kd.R_alloc | apply Kd.R_drewN | apply Kd.R_drew)); exact HO198.out))) (below_size (by repeat (first | (with_reducible first | exact HB.out | apply below_alloc | apply pw_below_drewN | apply below_drew1) | exact HB.out)))); have n3_ := Aside0.mk (below_step (by repeat (first | (with_reducible first | exact HB.out | apply below_alloc | apply pw_below_drewN | apply below_drew1) | exact HB.out)) hb); clear HO193; clear HO198; clear HB; have HO193 := n0_; have HO198 := n1_; have HO203 := n2_; have HB := n3_; clear n0_ n1_ n2_ n3_; (try clear hb); (try clear hb2); (try clear hk); (try clear hi); (try clear ho0))); go_upto_region 11 with (first | (go_at_call 14; (with_reducible refine (word_Words.calls a0 t189 t190 t191 _ A9.out).mono ?_); rintro e w16 ⟨v192, rfl, ho0, hb⟩; have n0_ := Aside0.mk (Kd.R_lower ho0 (below_size (by repeat (first | (with_reducible first | exact HB.out | apply below_alloc | apply pw_below_drewN | apply below_drew1) | exact HB.out)))); have n1_ := Aside0.mk (below_step (by repeat (first | (with_reducible first | exact HB.out | apply below_alloc | apply pw_below_drewN | apply below_drew1) | exact HB.out)) hb); clear HB; have HO193 := n0_; have HB := n1_; clear n0_ n1_; (try clear hb); (try clear hb2); (try clear hk); (try clear hi); (try clear ho0)) | (go_at_call 14; (with_reducible refine (word_Words.calls a1 t194 t195 t196 _ A10.out).mono ?_); rintro e w17 ⟨v197, rfl, ho0, hb⟩; have n0_ := Aside0.mk (Kd.R_elder' (by (with_reducible repeat (first | apply Kd.R_alloc | apply Kd.R_drewN | apply Kd.R_drew)); exact HO193.out) (Kd.R_base ho0) hb); have n1_ := Aside0.mk (Kd.R_lower (Kd.R_new' ho0 (Kd.R_lt (by (with_reducible repeat (first | apply Kd.R_alloc | apply Kd.R_drewN | apply Kd.R_drew)); exact HO193.out))) (below_size (by repeat (first | (with_reducible first | exact HB.out | apply below_alloc | apply pw_below_drewN | apply below_drew1) | exact HB.out)))); have n2_ := Aside0.mk (below_step (by repeat (first | (with_reducible first | exact HB.out | apply below_alloc | apply pw_below_drewN | apply below_drew1) | exact HB.out)) hb); clear HO193; clear HB; have HO193 := n0_; have HO198 := n1_; have HB := n2_; clear n0_ n1_ n2_; (try clear hb); (try clear hb2); (try clear hk); (try clear hi); (try clear ho0)) | (go_at_call 14; (with_reducible refine (word_Words.calls ((a0 ++ (⟨#[10]⟩ : ByteArray)) ++ a1) t199 t200 t201 _ A13.out).mono ?_); rintro e w18 ⟨v202, rfl, ho0, hb⟩; have n0_ := Aside0.mk (Kd.R_elder' (by (with_reducible repeat (first | apply Kd.R_alloc | apply Kd.R_drewN | apply Kd.R_drew)); exact HO193.out) (Kd.R_base ho0) hb); have n1_ := Aside0.mk (Kd.R_elder' (by (with_reducible repeat (first | apply Kd.R_alloc | apply Kd.R_drewN | apply Kd.R_drew)); exact HO198.out) (Kd.R_base ho0) hb); have n2_ := Aside0.mk (Kd.R_lower (Kd.R_new' (Kd.R_new' ho0 (Kd.R_lt (by (with_reducible repeat (first | apply Kd.R_alloc | apply Kd.R_drewN | apply Kd.R_drew)); exact HO193.out))) (Kd.R_lt (by (with_reducible repeat (first | apply Kd.R_alloc | apply Kd.R_drewN | apply Kd.R_drew)); exact HO198.out))) (below_size (by repeat (first | (with_reducible first | exact HB.out | apply below_alloc | apply pw_below_drewN | apply below_drew1) | exact HB.out)))); have n3_ := Aside0.mk (below_step (by repeat (first | (with_reducible first | exact HB.out | apply below_alloc | apply pw_below_drewN | apply below_drew1) | exact HB.out)) hb); clear HO193; clear HO198; clear HB; have HO193 := n0_; have HO198 := n1_; have HO203 := n2_; have HB := n3_; clear n0_ n1_ n2_ n3_; (try clear hb); (try clear hb2); (try clear hk); (try clear hi); (try clear ho0))))
                (try simp only [Act.put, List.setIfInBounds_toArray, List.set_cons_zero, List.set_cons_succ])
                go_cut [78] (fun v78 wc => ∃ (kq : Nat) (x78_14 : Bool), v78 = .bool x78_14 ∧ Aside0 (syntagmlaw08_WordsLines.j1 kq a0 true t189 t194 t199 x78_14 = some r) ∧ Aside0 (kq ≤ kj4) ∧ Aside0 (Kd.R k32 32 wc w.heap.size (fun k_ => some k_ ≠ (v197 : Value).ownBlock ∧ some k_ ≠ (v202 : Value).ownBlock) v192 t189) ∧ Aside0 (Kd.R k32 32 wc w.heap.size (fun k_ => some k_ ≠ (v192 : Value).ownBlock ∧ some k_ ≠ (v202 : Value).ownBlock) v197 t194) ∧ Aside0 (Kd.R k32 32 wc w.heap.size (fun k_ => some k_ ≠ (v192 : Value).ownBlock ∧ some k_ ≠ (v197 : Value).ownBlock) v202 t199) ∧ Aside0 (Below w.heap.size w wc))
                case first =>
                  have H := HC15.out
                  clear HC15
                  by_cases c19 : t195 = t200
                  · rw [if_pos c19] at H
                    have c19b0 : (t195 == t200) = true := beq_iff_eq.mpr c19
                    have c19b1 : (t195 != t200) = false := bne_eq_false_iff_eq.mpr c19
                    clear c19
                    (first | rw [c19b0] | (simp only [i64_w, i32_w]; rw [c19b0]) | skip)
                    by_cases c20 : t195 = 0
                    · rw [if_pos c20] at H
                      have c20b0 : (t195 == 0) = true := beq_iff_eq.mpr c20
                      have c20b1 : (t195 != 0) = false := bne_eq_false_iff_eq.mpr c20
                      clear c20
                      have H' := Aside0.mk H
                      clear H
                      obtain ⟨Ao21, co21, eo21⟩ := Kd.R_slice HO203.out
                      subst eo21
                      obtain ⟨Ao22, co22, eo22⟩ := Kd.R_slice HO193.out
                      subst eo22
                      obtain ⟨Ao23, co23, eo23⟩ := Kd.R_slice HO198.out
                      subst eo23
                      go_wp2
                      repeat (go_quiet (fail); try go_wp2)
                      go_meet
                      case rel => exact ⟨_, (((t199.length : Int) != (wrap64 ((t189.length : Int) + (t194.length : Int))))), (by first | rfl | (simp; done) | (simp [*]; done)), H', ⟨by have := HJ4.out; first | omega | exact Nat.le_refl _⟩, ⟨by (with_reducible repeat (first | apply Kd.R_alloc | apply Kd.R_drewN | apply Kd.R_drew)); exact Kd.R_mono HO193.out (fun _ hk => ⟨hk.1.2, hk.2⟩)⟩, ⟨by (with_reducible repeat (first | apply Kd.R_alloc | apply Kd.R_drewN | apply Kd.R_drew)); exact Kd.R_mono HO198.out (fun _ hk => ⟨hk.1.2, hk.2⟩)⟩, ⟨by (with_reducible repeat (first | apply Kd.R_alloc | apply Kd.R_drewN | apply Kd.R_drew)); exact Kd.R_mono HO203.out (fun _ hk => ⟨hk.1.2, hk.2⟩)⟩, ⟨by repeat (first | (with_reducible first | exact HB.out | apply below_alloc | apply pw_below_drewN | apply below_drew1) | exact HB.out)⟩⟩
                    · rw [if_neg c20] at H
                      have c20b0 : (t195 == 0) = false := beq_eq_false_iff_ne.mpr c20
                      have c20b1 : (t195 != 0) = true := bne_iff_ne.mpr c20
                      by_cases c24 : t201 = (wrap64 ((wrap64 (t196 + (a0.size : Int))) + 1))
                      · rw [if_pos c24] at H
                        have c24b0 : (t201 == (wrap64 ((wrap64 (t196 + (a0.size : Int))) + 1))) = true := beq_iff_eq.mpr c24
                        have c24b1 : (t201 != (wrap64 ((wrap64 (t196 + (a0.size : Int))) + 1))) = false := bne_eq_false_iff_eq.mpr c24
                        clear c24
                        have H' := Aside0.mk H
                        clear H
                        obtain ⟨Ao25, co25, eo25⟩ := Kd.R_slice HO203.out
                        subst eo25
                        obtain ⟨Ao26, co26, eo26⟩ := Kd.R_slice HO193.out
                        subst eo26
                        obtain ⟨Ao27, co27, eo27⟩ := Kd.R_slice HO198.out
                        subst eo27
                        go_wp2
                        repeat (go_quiet (fail); try go_wp2)
                        go_meet
                        case rel => exact ⟨_, (((t199.length : Int) != (wrap64 ((t189.length : Int) + (t194.length : Int))))), (by first | rfl | (simp; done) | (simp [*]; done)), H', ⟨by have := HJ4.out; first | omega | exact Nat.le_refl _⟩, ⟨by (with_reducible repeat (first | apply Kd.R_alloc | apply Kd.R_drewN | apply Kd.R_drew)); exact Kd.R_mono HO193.out (fun _ hk => ⟨hk.1.2, hk.2⟩)⟩, ⟨by (with_reducible repeat (first | apply Kd.R_alloc | apply Kd.R_drewN | apply Kd.R_drew)); exact Kd.R_mono HO198.out (fun _ hk => ⟨hk.1.2, hk.2⟩)⟩, ⟨by (with_reducible repeat (first | apply Kd.R_alloc | apply Kd.R_drewN | apply Kd.R_drew)); exact Kd.R_mono HO203.out (fun _ hk => ⟨hk.1.2, hk.2⟩)⟩, ⟨by repeat (first | (with_reducible first | exact HB.out | apply below_alloc | apply pw_below_drewN | apply below_drew1) | exact HB.out)⟩⟩
                      · rw [if_neg c24] at H
                        have c24b0 : (t201 == (wrap64 ((wrap64 (t196 + (a0.size : Int))) + 1))) = false := beq_eq_false_iff_ne.mpr c24
                        have c24b1 : (t201 != (wrap64 ((wrap64 (t196 + (a0.size : Int))) + 1))) = true := bne_iff_ne.mpr c24
                        have H' := Aside0.mk H
                        clear H
                        go_wp2
                        repeat (go_quiet (fail); try go_wp2)
                        go_meet
                        case rel => exact ⟨_, (true), (by first | rfl | (simp; done) | (simp [*]; done)), H', ⟨by have := HJ4.out; first | omega | exact Nat.le_refl _⟩, ⟨by (with_reducible repeat (first | apply Kd.R_alloc | apply Kd.R_drewN | apply Kd.R_drew)); exact Kd.R_mono HO193.out (fun _ hk => ⟨hk.1.2, hk.2⟩)⟩, ⟨by (with_reducible repeat (first | apply Kd.R_alloc | apply Kd.R_drewN | apply Kd.R_drew)); exact Kd.R_mono HO198.out (fun _ hk => ⟨hk.1.2, hk.2⟩)⟩, ⟨by (with_reducible repeat (first | apply Kd.R_alloc | apply Kd.R_drewN | apply Kd.R_drew)); exact Kd.R_mono HO203.out (fun _ hk => ⟨hk.1.2, hk.2⟩)⟩, ⟨by repeat (first | (with_reducible first | exact HB.out | apply below_alloc | apply pw_below_drewN | apply below_drew1) | exact HB.out)⟩⟩
                  · rw [if_neg c19] at H
                    have c19b0 : (t195 == t200) = false := beq_eq_false_iff_ne.mpr c19
                    have c19b1 : (t195 != t200) = true := bne_iff_ne.mpr c19
                    (first | rw [c19b0] | (simp only [i64_w, i32_w]; rw [c19b0]) | skip)
                    have H' := Aside0.mk H
                    clear H
                    go_wp2
                    repeat (go_quiet (fail); try go_wp2)
                    go_meet
                    case rel => exact ⟨_, (true), (by first | rfl | (simp; done) | (simp [*]; done)), H', ⟨by have := HJ4.out; first | omega | exact Nat.le_refl _⟩, ⟨by (with_reducible repeat (first | apply Kd.R_alloc | apply Kd.R_drewN | apply Kd.R_drew)); exact Kd.R_mono HO193.out (fun _ hk => ⟨hk.1.2, hk.2⟩)⟩, ⟨by (with_reducible repeat (first | apply Kd.R_alloc | apply Kd.R_drewN | apply Kd.R_drew)); exact Kd.R_mono HO198.out (fun _ hk => ⟨hk.1.2, hk.2⟩)⟩, ⟨by (with_reducible repeat (first | apply Kd.R_alloc | apply Kd.R_drewN | apply Kd.R_drew)); exact Kd.R_mono HO203.out (fun _ hk => ⟨hk.1.2, hk.2⟩)⟩, ⟨by repeat (first | (with_reducible first | exact HB.out | apply below_alloc | apply pw_below_drewN | apply below_drew1) | exact HB.out)⟩⟩
                case rest =>
                  clear HC15
                  try clear c1
                  try clear c2
                  try clear p2
                  try clear c4
                  try clear c6
                  try clear p6
                  try clear c7
                  try clear c7b0
                  try clear c7b1
                  try clear c8
                  try clear c11
                  try clear c11b0
                  try clear c11b1
                  try clear c11b2
                  try clear c12
                  try clear c12b0
                  try clear c12b1
                  try clear c12b2
                  try clear c14
                  try clear c14b0
                  try clear c14b1
                  try clear c19
                  try clear c19b0
                  try clear c19b1
                  try clear c20
                  try clear c20b0
                  try clear c20b1
                  try clear c24
                  try clear c24b0
                  try clear c24b1
                  try clear p2
                  obtain ⟨kq, x78_14, rfl, HA, HJ14, HO_6, HO_9, HO_12, HB⟩ := hcut
                  cases kq with
                  | zero => exact absurd HA.out (by simp [syntagmlaw08_WordsLines.j1])
                  | succ kj14 =>
                    have H := HA.out
                    clear HA
                    simp only [syntagmlaw08_WordsLines.j1] at H
                    by_cases c28 : x78_14 = true
                    · subst c28
                      have H1 : (some false) = some r := by rw [if_pos rfl] at H; exact H
                      clear H
                      have H := H1
                      clear H1
                      exact absurd ((Option.some.inj H).trans HT.out) (by decide)
                    · replace c28 := Bool.eq_false_iff.mpr c28
                      subst c28
                      have H1 : (syntagmlaw08_WordsLines.l0 kj14 a0 true t189 t194 t199 0) = some r := by rw [if_neg (show ¬ (false = true) by decide)] at H; exact H
                      clear H
                      have H := H1
                      clear H1
                      have H' := Aside0.mk H
                      clear H
                      go_wp2
                      repeat (go_quiet (fail); try go_wp2)
                      go_loopg [15] kj14 (fun kq v15 w' => ∃ (x15_3 : Int), v15 = .int .i64 x15_3 ∧ Aside0 (syntagmlaw08_WordsLines.l0 kq a0 true t189 t194 t199 x15_3 = some r) ∧ Aside0 (kq ≤ kj14) ∧ Aside0 (Kd.R k32 32 w' w.heap.size (fun k_ => some k_ ≠ (v197 : Value).ownBlock ∧ some k_ ≠ (v202 : Value).ownBlock) v192 t189) ∧ Aside0 (Kd.R k32 32 w' w.heap.size (fun k_ => some k_ ≠ (v192 : Value).ownBlock ∧ some k_ ≠ (v202 : Value).ownBlock) v197 t194) ∧ Aside0 (Kd.R k32 32 w' w.heap.size (fun k_ => some k_ ≠ (v192 : Value).ownBlock ∧ some k_ ≠ (v197 : Value).ownBlock) v202 t199) ∧ Aside0 (Below w.heap.size w w'))
                      case atStart => exact ⟨(0), (by first | rfl | (simp; done) | (simp [*]; done)), H', ⟨Nat.le_refl _⟩, ⟨by (with_reducible repeat (first | apply Kd.R_alloc | apply Kd.R_drewN | apply Kd.R_drew)); exact HO_6.out⟩, ⟨by (with_reducible repeat (first | apply Kd.R_alloc | apply Kd.R_drewN | apply Kd.R_drew)); exact HO_9.out⟩, ⟨by (with_reducible repeat (first | apply Kd.R_alloc | apply Kd.R_drewN | apply Kd.R_drew)); exact HO_12.out⟩, ⟨by repeat (first | (with_reducible first | exact HB.out | apply below_alloc | apply pw_below_drewN | apply below_drew1) | exact HB.out)⟩⟩
                      case round =>
                        clear H'
                        try clear c1
                        try clear c2
                        try clear p2
                        try clear c4
                        try clear c6
                        try clear p6
                        try clear c7
                        try clear c7b0
                        try clear c7b1
                        try clear c8
                        try clear c11
                        try clear c11b0
                        try clear c11b1
                        try clear c11b2
                        try clear c12
                        try clear c12b0
                        try clear c12b1
                        try clear c12b2
                        try clear c14
                        try clear c14b0
                        try clear c14b1
                        try clear c19
                        try clear c19b0
                        try clear c19b1
                        try clear c20
                        try clear c20b0
                        try clear c20b1
                        try clear c24
                        try clear c24b0
                        try clear c24b1
                        try clear c28
                        try clear p2
                        try clear p6
                        obtain ⟨x15_3, rfl, HA, HK3, HO_6, HO_9, HO_12, HB⟩ := hrel
                        cases gk with
                        | zero => exact absurd HA.out (by simp [syntagmlaw08_WordsLines.l0])
                        | succ k3 =>
                          have H := HA.out
                          clear HA
                          simp only [syntagmlaw08_WordsLines.l0] at H
                          by_cases c29 : x15_3 < (t199.length : Int)
                          · rw [if_pos c29] at H
                            have c29b0 : decide (x15_3 < (t199.length : Int)) = true := decide_eq_true c29
                            clear c29
                            by_cases c30 : x15_3 < (t189.length : Int)
                            · rw [if_pos c30] at H
                              have c30b0 : decide (x15_3 < (t189.length : Int)) = true := decide_eq_true c30
                              clear c30
                              by_cases c31 : 0 ≤ x15_3
                              · rw [if_pos c31] at H
                                have c31b0 : decide (0 ≤ x15_3) = true := decide_eq_true c31
                                clear c31
                                by_cases c32 : (!(((rd_T32 t199 x15_3).f0) == ((rd_T32 t189 x15_3).f0)) || (!((((rd_T32 t199 x15_3).f1).toList) == (((rd_T32 t189 x15_3).f1).toList)) || (!(((rd_T32 t199 x15_3).f2) == ((rd_T32 t189 x15_3).f2)) || (!(((rd_T32 t199 x15_3).f3) == ((rd_T32 t189 x15_3).f3)))))) = true
                                · rw [if_pos c32] at H
                                  have c32b0 : (!(((rd_T32 t199 x15_3).f0) == ((rd_T32 t189 x15_3).f0)) || (!((((rd_T32 t199 x15_3).f1).toList) == (((rd_T32 t189 x15_3).f1).toList)) || (!(((rd_T32 t199 x15_3).f2) == ((rd_T32 t189 x15_3).f2)) || (!(((rd_T32 t199 x15_3).f3) == ((rd_T32 t189 x15_3).f3)))))) = true := c32
                                  clear c32
                                  exact absurd ((Option.some.inj H).trans HT.out) (by decide)
                                · rw [if_neg c32] at H
                                  have c32b0 : (!(((rd_T32 t199 x15_3).f0) == ((rd_T32 t189 x15_3).f0)) || (!((((rd_T32 t199 x15_3).f1).toList) == (((rd_T32 t189 x15_3).f1).toList)) || (!(((rd_T32 t199 x15_3).f2) == ((rd_T32 t189 x15_3).f2)) || (!(((rd_T32 t199 x15_3).f3) == ((rd_T32 t189 x15_3).f3)))))) = false := by simpa using c32
                                  clear c32
                                  have H' := Aside0.mk H
                                  clear H
                                  obtain ⟨Ao33, co33, eo33⟩ := Kd.R_slice HO_12.out
                                  subst eo33
                                  obtain ⟨AoX, coX, eoX⟩ := Kd.R_slice HO_6.out
                                  subst eoX
                                  go_upto_region 17 with ((with_reducible refine gate_dst (N := 16) rfl ?_); (try (refine gate_guard (by rfl) ?_; dsimp only)); refine box_event ?hg (N := 16) ?hd (cs := #[.int .i64 0, .string (⟨#[]⟩ : ByteArray), .int .i64 0, .int .i64 0]) (t := 32) ?hr ?_; (case hd => rfl); (case hg => rfl); (case hr => first | (go_simp; done) | (go_simp; rfl)); intro gb204 hg w34 hbox hb; have n0_ := Aside0.mk (Kd.R_below (Kd.R_elderB (by (with_reducible repeat (first | apply Kd.R_alloc | apply Kd.R_drewN | apply Kd.R_drew)); exact HO_6.out) gb204 (Nat.le_of_eq hg.symm)) hb); have n1_ := Aside0.mk (Kd.R_below (Kd.R_elderB (by (with_reducible repeat (first | apply Kd.R_alloc | apply Kd.R_drewN | apply Kd.R_drew)); exact HO_9.out) gb204 (Nat.le_of_eq hg.symm)) hb); have n2_ := Aside0.mk (Kd.R_below (Kd.R_elderB (by (with_reducible repeat (first | apply Kd.R_alloc | apply Kd.R_drewN | apply Kd.R_drew)); exact HO_12.out) gb204 (Nat.le_of_eq hg.symm)) hb); have n3_ := Aside0.mk (below_step (by repeat (first | (with_reducible first | exact HB.out | apply below_alloc | apply pw_below_drewN | apply below_drew1) | exact HB.out)) hb); have n4_ := Aside0.mk (hbox); have n5_ := Aside0.mk ((by rw [hg]; exact (below_size (by repeat (first | (with_reducible first | exact HB.out | apply below_alloc | apply pw_below_drewN | apply below_drew1) | exact HB.out))) : w.heap.size ≤ gb204)); have n6_ := Aside0.mk ((by rw [hg]; exact (below_size (by repeat (first | (with_reducible first | exact HB.out | apply below_alloc | apply pw_below_drewN | apply below_drew1) | exact HB.out))) : w.heap.size ≤ gb204)); clear HO_6; clear HO_9; clear HO_12; clear HB; have HO_6 := n0_; have HO_9 := n1_; have HO_12 := n2_; have HB := n3_; have BK204 := n4_; have GW204 := n5_; have GE204 := n6_; clear n0_ n1_ n2_ n3_ n4_ n5_ n6_; clear hb hbox hg; have hcz35_0 : w34.cell? ⟨gb204, 0, none⟩ = some (.int .i64 0) := (blk_cell BK204.out 0).trans rfl; have hcz35_1 : w34.cell? ⟨gb204, 1, none⟩ = some (.string (⟨#[]⟩ : ByteArray)) := (blk_cell BK204.out 1).trans rfl; have hcz35_2 : w34.cell? ⟨gb204, 2, none⟩ = some (.int .i64 0) := (blk_cell BK204.out 2).trans rfl; have hcz35_3 : w34.cell? ⟨gb204, 3, none⟩ = some (.int .i64 0) := (blk_cell BK204.out 3).trans rfl; have hfz35_0 := blk_frozen BK204.out 0; have hfz35_1 := blk_frozen BK204.out 1; have hfz35_2 := blk_frozen BK204.out 2; have hfz35_3 := blk_frozen BK204.out 3)
                                  obtain ⟨W1, hW1⟩ : ∃ W_, W_ = ((((w34.setCell ⟨gb204, 0, none⟩ (.int .i64 0)).setCell ⟨gb204, 1, none⟩ (.string (⟨#[]⟩ : ByteArray))).setCell ⟨gb204, 2, none⟩ (.int .i64 0)).setCell ⟨gb204, 3, none⟩ (.int .i64 0)) := ⟨_, rfl⟩
                                  rw [← hW1]
                                  have hb1 : W1.heap[gb204]? = some (.cells #[.int .i64 0, .string (⟨#[]⟩ : ByteArray), .int .i64 0, .int .i64 0] 32 (0, 0)) := by rw [hW1]; exact put4_blk (.int .i64 0) (.string (⟨#[]⟩ : ByteArray)) (.int .i64 0) (.int .i64 0) BK204.out
                                  have R6 := Aside0.mk (show k32.R 32 W1 _ _ _ _ by rw [hW1]; exact put4_R (.int .i64 0) (.string (⟨#[]⟩ : ByteArray)) (.int .i64 0) (.int .i64 0) HO_6.out (fun _ hk => hk.2))
                                  have R9 := Aside0.mk (show k32.R 32 W1 _ _ _ _ by rw [hW1]; exact put4_R (.int .i64 0) (.string (⟨#[]⟩ : ByteArray)) (.int .i64 0) (.int .i64 0) HO_9.out (fun _ hk => hk.2))
                                  have R12 := Aside0.mk (show k32.R 32 W1 _ _ _ _ by rw [hW1]; exact put4_R (.int .i64 0) (.string (⟨#[]⟩ : ByteArray)) (.int .i64 0) (.int .i64 0) HO_12.out (fun _ hk => hk.2))
                                  have HB1 := Aside0.mk (show Below w.heap.size w W1 by rw [hW1]; exact put4_below (.int .i64 0) (.string (⟨#[]⟩ : ByteArray)) (.int .i64 0) (.int .i64 0) HB.out GE204.out)
                                  clear hW1
                                  clear hcz35_0 hfz35_0 hcz35_1 hfz35_1 hcz35_2 hfz35_2 hcz35_3 hfz35_3
                                  have d_0 : W1.cell? ⟨gb204, 0, none⟩ = some (.int .i64 0) := (blk_cell hb1 0).trans rfl
                                  have d_1 : W1.cell? ⟨gb204, 1, none⟩ = some (.string (⟨#[]⟩ : ByteArray)) := (blk_cell hb1 1).trans rfl
                                  have d_2 : W1.cell? ⟨gb204, 2, none⟩ = some (.int .i64 0) := (blk_cell hb1 2).trans rfl
                                  have d_3 : W1.cell? ⟨gb204, 3, none⟩ = some (.int .i64 0) := (blk_cell hb1 3).trans rfl
                                  have df_0 := blk_frozen hb1 0
                                  have df_1 := blk_frozen hb1 1
                                  have df_2 := blk_frozen hb1 2
                                  have df_3 := blk_frozen hb1 3
                                  have pX : 0 ≤ (x15_3 : Int) := of_decide_eq_true (by first | (with_reducible assumption) | assumption)
                                  have qX : (x15_3 : Int) < (t189.length : Int) := of_decide_eq_true (by first | (with_reducible assumption) | assumption)
                                  obtain ⟨adX, eX, hX0, hX1, hX2, hX3⟩ := at_T32 (Kd.R_reads' R6.out).2.2 x15_3 pX qX
                                  cases eX
                                  replace pX := eq_true pX
                                  replace qX := eq_true qX
                                  go_upto_region 21 with fail
                                  obtain ⟨W2, hW2⟩ : ∃ W_, W_ = ((((W1.setCell ⟨gb204, 0, none⟩ (.int .i64 ((rd_T32 t189 x15_3).f0))).setCell ⟨gb204, 1, none⟩ (.string ((rd_T32 t189 x15_3).f1))).setCell ⟨gb204, 2, none⟩ (.int .i64 ((rd_T32 t189 x15_3).f2))).setCell ⟨gb204, 3, none⟩ (.int .i64 ((rd_T32 t189 x15_3).f3))) := ⟨_, rfl⟩
                                  rw [← hW2]
                                  have hb2 : W2.heap[gb204]? = some (.cells #[.int .i64 ((rd_T32 t189 x15_3).f0), .string ((rd_T32 t189 x15_3).f1), .int .i64 ((rd_T32 t189 x15_3).f2), .int .i64 ((rd_T32 t189 x15_3).f3)] 32 (0, 0)) := by rw [hW2]; exact put4_blk (.int .i64 ((rd_T32 t189 x15_3).f0)) (.string ((rd_T32 t189 x15_3).f1)) (.int .i64 ((rd_T32 t189 x15_3).f2)) (.int .i64 ((rd_T32 t189 x15_3).f3)) hb1
                                  have S6 := Aside0.mk (show k32.R 32 W2 _ _ _ _ by rw [hW2]; exact put4_R (.int .i64 ((rd_T32 t189 x15_3).f0)) (.string ((rd_T32 t189 x15_3).f1)) (.int .i64 ((rd_T32 t189 x15_3).f2)) (.int .i64 ((rd_T32 t189 x15_3).f3)) R6.out (fun _ hk => hk.2))
                                  have S9 := Aside0.mk (show k32.R 32 W2 _ _ _ _ by rw [hW2]; exact put4_R (.int .i64 ((rd_T32 t189 x15_3).f0)) (.string ((rd_T32 t189 x15_3).f1)) (.int .i64 ((rd_T32 t189 x15_3).f2)) (.int .i64 ((rd_T32 t189 x15_3).f3)) R9.out (fun _ hk => hk.2))
                                  have S12 := Aside0.mk (show k32.R 32 W2 _ _ _ _ by rw [hW2]; exact put4_R (.int .i64 ((rd_T32 t189 x15_3).f0)) (.string ((rd_T32 t189 x15_3).f1)) (.int .i64 ((rd_T32 t189 x15_3).f2)) (.int .i64 ((rd_T32 t189 x15_3).f3)) R12.out (fun _ hk => hk.2))
                                  have HB2 := Aside0.mk (show Below w.heap.size w W2 by rw [hW2]; exact put4_below (.int .i64 ((rd_T32 t189 x15_3).f0)) (.string ((rd_T32 t189 x15_3).f1)) (.int .i64 ((rd_T32 t189 x15_3).f2)) (.int .i64 ((rd_T32 t189 x15_3).f3)) HB1.out GE204.out)
                                  clear hW2
                                  clear hX0 hX1 hX2 hX3 d_0 df_0 d_1 df_1 d_2 df_2 d_3 df_3
                                  have k_0 : W2.cell? ⟨gb204, 0, none⟩ = some (.int .i64 ((rd_T32 t189 x15_3).f0)) := (blk_cell hb2 0).trans rfl
                                  have k_1 : W2.cell? ⟨gb204, 1, none⟩ = some (.string ((rd_T32 t189 x15_3).f1)) := (blk_cell hb2 1).trans rfl
                                  have k_2 : W2.cell? ⟨gb204, 2, none⟩ = some (.int .i64 ((rd_T32 t189 x15_3).f2)) := (blk_cell hb2 2).trans rfl
                                  have k_3 : W2.cell? ⟨gb204, 3, none⟩ = some (.int .i64 ((rd_T32 t189 x15_3).f3)) := (blk_cell hb2 3).trans rfl
                                  have pY : 0 ≤ (x15_3 : Int) := of_decide_eq_true (by first | (with_reducible assumption) | assumption)
                                  have qY : x15_3 < (t199.length : Int) := of_decide_eq_true (by first | (with_reducible assumption) | assumption)
                                  obtain ⟨adY, eY, hY0, hY1, hY2, hY3⟩ := at_T32 (Kd.R_reads' S12.out).2.2 x15_3 pY qY
                                  cases eY
                                  replace pY := eq_true pY
                                  replace qY := eq_true qY
                                  go_quiet (fail)
                                  go_wp2_with fail
                                  go_roundg k3
                                  case measure => have := HJ4.out; have := HJ14.out; have := HK3.out; omega
                                  case rel => exact ⟨(wrap64 (x15_3 + 1)), (by first | rfl | (simp; done) | (simp [*]; done)), H', ⟨by have := HJ4.out; have := HJ14.out; have := HK3.out; omega⟩, ⟨by (with_reducible repeat (first | apply Kd.R_alloc | apply Kd.R_drewN | apply Kd.R_drew)); exact Kd.R_mono S6.out (fun _ hk => ⟨hk.1.1, hk.1.2⟩)⟩, ⟨by (with_reducible repeat (first | apply Kd.R_alloc | apply Kd.R_drewN | apply Kd.R_drew)); exact Kd.R_mono S9.out (fun _ hk => ⟨hk.1.1, hk.1.2⟩)⟩, ⟨by (with_reducible repeat (first | apply Kd.R_alloc | apply Kd.R_drewN | apply Kd.R_drew)); exact Kd.R_mono S12.out (fun _ hk => ⟨hk.1.1, hk.1.2⟩)⟩, ⟨by repeat (first | (with_reducible first | exact HB2.out | apply below_alloc | apply pw_below_drewN | apply below_drew1) | exact HB2.out)⟩⟩
                              · rw [if_neg c31] at H
                                exact absurd H (by simp)
                            · rw [if_neg c30] at H
                              have c30b0 : decide (x15_3 < (t189.length : Int)) = false := decide_eq_false c30
                              clear c30
                              obtain ⟨ji37, hji37⟩ : ∃ j_ : Int, (wrap64 (x15_3 - (t189.length : Int))) = j_ := ⟨_, rfl⟩
                              replace H : (if 0 ≤ (ji37) then (if (ji37) < (t194.length : Int) then (if 0 ≤ x15_3 then (if (!(((rd_T32 t199 x15_3).f0) == ((rd_T32 t194 (ji37)).f0)) || (!((((rd_T32 t199 x15_3).f1).toList) == (((rd_T32 t194 (ji37)).f1).toList)) || (!(((rd_T32 t199 x15_3).f2) == ((rd_T32 t194 (ji37)).f2)) || (!(((rd_T32 t199 x15_3).f3) == (wrap64 ((wrap64 (((rd_T32 t194 (ji37)).f3) + (a0.size : Int))) + 1))))))) = true then (some false) else (syntagmlaw08_WordsLines.l0 k3 a0 true t189 t194 t199 (wrap64 (x15_3 + 1)))) else (none)) else (none)) else (none)) = some r := by first | (rw [hji37] at H; exact H) | (simp only [hji37] at H ⊢; exact H)
                              have hji37w : (IntKind.i64.wrap (x15_3 - (t189.length : Int))) = ji37 := (i64_w _).trans hji37
                              by_cases c38 : 0 ≤ (ji37)
                              · rw [if_pos c38] at H
                                have c38b0 : decide (0 ≤ (ji37)) = true := decide_eq_true c38
                                clear c38
                                by_cases c39 : (ji37) < (t194.length : Int)
                                · rw [if_pos c39] at H
                                  have c39b0 : decide ((ji37) < (t194.length : Int)) = true := decide_eq_true c39
                                  clear c39
                                  by_cases c40 : 0 ≤ x15_3
                                  · rw [if_pos c40] at H
                                    have c40b0 : decide (0 ≤ x15_3) = true := decide_eq_true c40
                                    clear c40
                                    by_cases c41 : (!(((rd_T32 t199 x15_3).f0) == ((rd_T32 t194 (ji37)).f0)) || (!((((rd_T32 t199 x15_3).f1).toList) == (((rd_T32 t194 (ji37)).f1).toList)) || (!(((rd_T32 t199 x15_3).f2) == ((rd_T32 t194 (ji37)).f2)) || (!(((rd_T32 t199 x15_3).f3) == (wrap64 ((wrap64 (((rd_T32 t194 (ji37)).f3) + (a0.size : Int))) + 1))))))) = true
                                    · rw [if_pos c41] at H
                                      have c41b0 : (!(((rd_T32 t199 x15_3).f0) == ((rd_T32 t194 (ji37)).f0)) || (!((((rd_T32 t199 x15_3).f1).toList) == (((rd_T32 t194 (ji37)).f1).toList)) || (!(((rd_T32 t199 x15_3).f2) == ((rd_T32 t194 (ji37)).f2)) || (!(((rd_T32 t199 x15_3).f3) == (wrap64 ((wrap64 (((rd_T32 t194 (ji37)).f3) + (a0.size : Int))) + 1))))))) = true := c41
                                      clear c41
                                      exact absurd ((Option.some.inj H).trans HT.out) (by decide)
                                    · rw [if_neg c41] at H
                                      have c41b0 : (!(((rd_T32 t199 x15_3).f0) == ((rd_T32 t194 (ji37)).f0)) || (!((((rd_T32 t199 x15_3).f1).toList) == (((rd_T32 t194 (ji37)).f1).toList)) || (!(((rd_T32 t199 x15_3).f2) == ((rd_T32 t194 (ji37)).f2)) || (!(((rd_T32 t199 x15_3).f3) == (wrap64 ((wrap64 (((rd_T32 t194 (ji37)).f3) + (a0.size : Int))) + 1))))))) = false := by simpa using c41
                                      clear c41
                                      have H' := Aside0.mk H
                                      clear H
                                      obtain ⟨Ao42, co42, eo42⟩ := Kd.R_slice HO_12.out
                                      subst eo42
                                      obtain ⟨AoX, coX, eoX⟩ := Kd.R_slice HO_6.out
                                      subst eoX
                                      obtain ⟨AoY, coY, eoY⟩ := Kd.R_slice HO_9.out
                                      subst eoY
                                      go_upto_region 17 with ((with_reducible refine gate_dst (N := 16) rfl ?_); (try (refine gate_guard (by rfl) ?_; dsimp only)); refine box_event ?hg (N := 16) ?hd (cs := #[.int .i64 0, .string (⟨#[]⟩ : ByteArray), .int .i64 0, .int .i64 0]) (t := 32) ?hr ?_; (case hd => rfl); (case hg => rfl); (case hr => first | (go_simp; done) | (go_simp; rfl)); intro gb204 hg w43 hbox hb; have n0_ := Aside0.mk (Kd.R_below (Kd.R_elderB (by (with_reducible repeat (first | apply Kd.R_alloc | apply Kd.R_drewN | apply Kd.R_drew)); exact HO_6.out) gb204 (Nat.le_of_eq hg.symm)) hb); have n1_ := Aside0.mk (Kd.R_below (Kd.R_elderB (by (with_reducible repeat (first | apply Kd.R_alloc | apply Kd.R_drewN | apply Kd.R_drew)); exact HO_9.out) gb204 (Nat.le_of_eq hg.symm)) hb); have n2_ := Aside0.mk (Kd.R_below (Kd.R_elderB (by (with_reducible repeat (first | apply Kd.R_alloc | apply Kd.R_drewN | apply Kd.R_drew)); exact HO_12.out) gb204 (Nat.le_of_eq hg.symm)) hb); have n3_ := Aside0.mk (below_step (by repeat (first | (with_reducible first | exact HB.out | apply below_alloc | apply pw_below_drewN | apply below_drew1) | exact HB.out)) hb); have n4_ := Aside0.mk (hbox); have n5_ := Aside0.mk ((by rw [hg]; exact (below_size (by repeat (first | (with_reducible first | exact HB.out | apply below_alloc | apply pw_below_drewN | apply below_drew1) | exact HB.out))) : w.heap.size ≤ gb204)); have n6_ := Aside0.mk ((by rw [hg]; exact (below_size (by repeat (first | (with_reducible first | exact HB.out | apply below_alloc | apply pw_below_drewN | apply below_drew1) | exact HB.out))) : w.heap.size ≤ gb204)); clear HO_6; clear HO_9; clear HO_12; clear HB; have HO_6 := n0_; have HO_9 := n1_; have HO_12 := n2_; have HB := n3_; have BK204 := n4_; have GW204 := n5_; have GE204 := n6_; clear n0_ n1_ n2_ n3_ n4_ n5_ n6_; clear hb hbox hg; have hcz44_0 : w43.cell? ⟨gb204, 0, none⟩ = some (.int .i64 0) := (blk_cell BK204.out 0).trans rfl; have hcz44_1 : w43.cell? ⟨gb204, 1, none⟩ = some (.string (⟨#[]⟩ : ByteArray)) := (blk_cell BK204.out 1).trans rfl; have hcz44_2 : w43.cell? ⟨gb204, 2, none⟩ = some (.int .i64 0) := (blk_cell BK204.out 2).trans rfl; have hcz44_3 : w43.cell? ⟨gb204, 3, none⟩ = some (.int .i64 0) := (blk_cell BK204.out 3).trans rfl; have hfz44_0 := blk_frozen BK204.out 0; have hfz44_1 := blk_frozen BK204.out 1; have hfz44_2 := blk_frozen BK204.out 2; have hfz44_3 := blk_frozen BK204.out 3)
                                      obtain ⟨W1, hW1⟩ : ∃ W_, W_ = ((((w43.setCell ⟨gb204, 0, none⟩ (.int .i64 0)).setCell ⟨gb204, 1, none⟩ (.string (⟨#[]⟩ : ByteArray))).setCell ⟨gb204, 2, none⟩ (.int .i64 0)).setCell ⟨gb204, 3, none⟩ (.int .i64 0)) := ⟨_, rfl⟩
                                      rw [← hW1]
                                      have hb1 : W1.heap[gb204]? = some (.cells #[.int .i64 0, .string (⟨#[]⟩ : ByteArray), .int .i64 0, .int .i64 0] 32 (0, 0)) := by rw [hW1]; exact put4_blk (.int .i64 0) (.string (⟨#[]⟩ : ByteArray)) (.int .i64 0) (.int .i64 0) BK204.out
                                      have R6 := Aside0.mk (show k32.R 32 W1 _ _ _ _ by rw [hW1]; exact put4_R (.int .i64 0) (.string (⟨#[]⟩ : ByteArray)) (.int .i64 0) (.int .i64 0) HO_6.out (fun _ hk => hk.2))
                                      have R9 := Aside0.mk (show k32.R 32 W1 _ _ _ _ by rw [hW1]; exact put4_R (.int .i64 0) (.string (⟨#[]⟩ : ByteArray)) (.int .i64 0) (.int .i64 0) HO_9.out (fun _ hk => hk.2))
                                      have R12 := Aside0.mk (show k32.R 32 W1 _ _ _ _ by rw [hW1]; exact put4_R (.int .i64 0) (.string (⟨#[]⟩ : ByteArray)) (.int .i64 0) (.int .i64 0) HO_12.out (fun _ hk => hk.2))
                                      have HB1 := Aside0.mk (show Below w.heap.size w W1 by rw [hW1]; exact put4_below (.int .i64 0) (.string (⟨#[]⟩ : ByteArray)) (.int .i64 0) (.int .i64 0) HB.out GE204.out)
                                      clear hW1
                                      clear hcz44_0 hfz44_0 hcz44_1 hfz44_1 hcz44_2 hfz44_2 hcz44_3 hfz44_3
                                      have d_0 : W1.cell? ⟨gb204, 0, none⟩ = some (.int .i64 0) := (blk_cell hb1 0).trans rfl
                                      have d_1 : W1.cell? ⟨gb204, 1, none⟩ = some (.string (⟨#[]⟩ : ByteArray)) := (blk_cell hb1 1).trans rfl
                                      have d_2 : W1.cell? ⟨gb204, 2, none⟩ = some (.int .i64 0) := (blk_cell hb1 2).trans rfl
                                      have d_3 : W1.cell? ⟨gb204, 3, none⟩ = some (.int .i64 0) := (blk_cell hb1 3).trans rfl
                                      have df_0 := blk_frozen hb1 0
                                      have df_1 := blk_frozen hb1 1
                                      have df_2 := blk_frozen hb1 2
                                      have df_3 := blk_frozen hb1 3
                                      have pX : 0 ≤ ((ji37) : Int) := of_decide_eq_true (by first | (with_reducible assumption) | assumption)
                                      have qX : ((ji37) : Int) < (t194.length : Int) := of_decide_eq_true (by first | (with_reducible assumption) | assumption)
                                      obtain ⟨adX, eX, hX0, hX1, hX2, hX3⟩ := at_T32 (Kd.R_reads' R9.out).2.2 (ji37) pX qX
                                      cases eX
                                      replace pX := eq_true pX
                                      replace qX := eq_true qX
                                      go_upto_region 20 with fail
                                      obtain ⟨W2, hW2⟩ : ∃ W_, W_ = ((((W1.setCell ⟨gb204, 0, none⟩ (.int .i64 ((rd_T32 t194 (ji37)).f0))).setCell ⟨gb204, 1, none⟩ (.string ((rd_T32 t194 (ji37)).f1))).setCell ⟨gb204, 2, none⟩ (.int .i64 ((rd_T32 t194 (ji37)).f2))).setCell ⟨gb204, 3, none⟩ (.int .i64 ((rd_T32 t194 (ji37)).f3))) := ⟨_, rfl⟩
                                      rw [← hW2]
                                      have hb2 : W2.heap[gb204]? = some (.cells #[.int .i64 ((rd_T32 t194 (ji37)).f0), .string ((rd_T32 t194 (ji37)).f1), .int .i64 ((rd_T32 t194 (ji37)).f2), .int .i64 ((rd_T32 t194 (ji37)).f3)] 32 (0, 0)) := by rw [hW2]; exact put4_blk (.int .i64 ((rd_T32 t194 (ji37)).f0)) (.string ((rd_T32 t194 (ji37)).f1)) (.int .i64 ((rd_T32 t194 (ji37)).f2)) (.int .i64 ((rd_T32 t194 (ji37)).f3)) hb1
                                      have S6 := Aside0.mk (show k32.R 32 W2 _ _ _ _ by rw [hW2]; exact put4_R (.int .i64 ((rd_T32 t194 (ji37)).f0)) (.string ((rd_T32 t194 (ji37)).f1)) (.int .i64 ((rd_T32 t194 (ji37)).f2)) (.int .i64 ((rd_T32 t194 (ji37)).f3)) R6.out (fun _ hk => hk.2))
                                      have S9 := Aside0.mk (show k32.R 32 W2 _ _ _ _ by rw [hW2]; exact put4_R (.int .i64 ((rd_T32 t194 (ji37)).f0)) (.string ((rd_T32 t194 (ji37)).f1)) (.int .i64 ((rd_T32 t194 (ji37)).f2)) (.int .i64 ((rd_T32 t194 (ji37)).f3)) R9.out (fun _ hk => hk.2))
                                      have S12 := Aside0.mk (show k32.R 32 W2 _ _ _ _ by rw [hW2]; exact put4_R (.int .i64 ((rd_T32 t194 (ji37)).f0)) (.string ((rd_T32 t194 (ji37)).f1)) (.int .i64 ((rd_T32 t194 (ji37)).f2)) (.int .i64 ((rd_T32 t194 (ji37)).f3)) R12.out (fun _ hk => hk.2))
                                      have HB2 := Aside0.mk (show Below w.heap.size w W2 by rw [hW2]; exact put4_below (.int .i64 ((rd_T32 t194 (ji37)).f0)) (.string ((rd_T32 t194 (ji37)).f1)) (.int .i64 ((rd_T32 t194 (ji37)).f2)) (.int .i64 ((rd_T32 t194 (ji37)).f3)) HB1.out GE204.out)
                                      clear hW2
                                      clear hX0 hX1 hX2 hX3 d_0 df_0 d_1 df_1 d_2 df_2 d_3 df_3
                                      have e_0 : W2.cell? ⟨gb204, 0, none⟩ = some (.int .i64 ((rd_T32 t194 (ji37)).f0)) := (blk_cell hb2 0).trans rfl
                                      have e_1 : W2.cell? ⟨gb204, 1, none⟩ = some (.string ((rd_T32 t194 (ji37)).f1)) := (blk_cell hb2 1).trans rfl
                                      have e_2 : W2.cell? ⟨gb204, 2, none⟩ = some (.int .i64 ((rd_T32 t194 (ji37)).f2)) := (blk_cell hb2 2).trans rfl
                                      have e_3 : W2.cell? ⟨gb204, 3, none⟩ = some (.int .i64 ((rd_T32 t194 (ji37)).f3)) := (blk_cell hb2 3).trans rfl
                                      have ef_0 := blk_frozen hb2 0
                                      have ef_1 := blk_frozen hb2 1
                                      have ef_2 := blk_frozen hb2 2
                                      have ef_3 := blk_frozen hb2 3
                                      go_upto_region 21 with fail
                                      obtain ⟨W3, hW3⟩ : ∃ W_, W_ = W2.setCell ⟨gb204, 3, none⟩ (.int .i64 (wrap64 ((wrap64 (((rd_T32 t194 (ji37)).f3) + (a0.size : Int))) + 1))) := ⟨_, rfl⟩
                                      rw [← hW3]
                                      have hb3 : W3.heap[gb204]? = some (.cells #[.int .i64 ((rd_T32 t194 (ji37)).f0), .string ((rd_T32 t194 (ji37)).f1), .int .i64 ((rd_T32 t194 (ji37)).f2), .int .i64 (wrap64 ((wrap64 (((rd_T32 t194 (ji37)).f3) + (a0.size : Int))) + 1))] 32 (0, 0)) := by rw [hW3]; exact heap_setCell_same W2 gb204 3 _ 32 _ hb2
                                      have T6 := Aside0.mk (show k32.R 32 W3 _ _ _ _ by rw [hW3]; exact Kd.R_far (p := ⟨gb204, 3, none⟩) S6.out (fun _ hk => hk.2) _)
                                      have T9 := Aside0.mk (show k32.R 32 W3 _ _ _ _ by rw [hW3]; exact Kd.R_far (p := ⟨gb204, 3, none⟩) S9.out (fun _ hk => hk.2) _)
                                      have T12 := Aside0.mk (show k32.R 32 W3 _ _ _ _ by rw [hW3]; exact Kd.R_far (p := ⟨gb204, 3, none⟩) S12.out (fun _ hk => hk.2) _)
                                      have HB3 := Aside0.mk (show Below w.heap.size w W3 by rw [hW3]; exact HB2.out.setCell (p := ⟨gb204, 3, none⟩) GE204.out _)
                                      clear hW3
                                      clear e_0 ef_0 e_1 ef_1 e_2 ef_2 e_3 ef_3
                                      have k_0 : W3.cell? ⟨gb204, 0, none⟩ = some (.int .i64 ((rd_T32 t194 (ji37)).f0)) := (blk_cell hb3 0).trans rfl
                                      have k_1 : W3.cell? ⟨gb204, 1, none⟩ = some (.string ((rd_T32 t194 (ji37)).f1)) := (blk_cell hb3 1).trans rfl
                                      have k_2 : W3.cell? ⟨gb204, 2, none⟩ = some (.int .i64 ((rd_T32 t194 (ji37)).f2)) := (blk_cell hb3 2).trans rfl
                                      have k_3 : W3.cell? ⟨gb204, 3, none⟩ = some (.int .i64 (wrap64 ((wrap64 (((rd_T32 t194 (ji37)).f3) + (a0.size : Int))) + 1))) := (blk_cell hb3 3).trans rfl
                                      have pY : 0 ≤ (x15_3 : Int) := of_decide_eq_true (by first | (with_reducible assumption) | assumption)
                                      have qY : x15_3 < (t199.length : Int) := of_decide_eq_true (by first | (with_reducible assumption) | assumption)
                                      obtain ⟨adY, eY, hY0, hY1, hY2, hY3⟩ := at_T32 (Kd.R_reads' T12.out).2.2 x15_3 pY qY
                                      cases eY
                                      replace pY := eq_true pY
                                      replace qY := eq_true qY
                                      go_quiet (fail)
                                      go_wp2_with fail
                                      go_roundg k3
                                      case measure => have := HJ4.out; have := HJ14.out; have := HK3.out; omega
                                      case rel => exact ⟨(wrap64 (x15_3 + 1)), (by first | rfl | (simp; done) | (simp [*]; done)), H', ⟨by have := HJ4.out; have := HJ14.out; have := HK3.out; omega⟩, ⟨by (with_reducible repeat (first | apply Kd.R_alloc | apply Kd.R_drewN | apply Kd.R_drew)); exact Kd.R_mono T6.out (fun _ hk => ⟨hk.1.1, hk.1.2⟩)⟩, ⟨by (with_reducible repeat (first | apply Kd.R_alloc | apply Kd.R_drewN | apply Kd.R_drew)); exact Kd.R_mono T9.out (fun _ hk => ⟨hk.1.1, hk.1.2⟩)⟩, ⟨by (with_reducible repeat (first | apply Kd.R_alloc | apply Kd.R_drewN | apply Kd.R_drew)); exact Kd.R_mono T12.out (fun _ hk => ⟨hk.1.1, hk.1.2⟩)⟩, ⟨by repeat (first | (with_reducible first | exact HB3.out | apply below_alloc | apply pw_below_drewN | apply below_drew1) | exact HB3.out)⟩⟩
                                  · rw [if_neg c40] at H
                                    exact absurd H (by simp)
                                · rw [if_neg c39] at H
                                  exact absurd H (by simp)
                              · rw [if_neg c38] at H
                                exact absurd H (by simp)
                          · rw [if_neg c29] at H
                            have c29b0 : decide (x15_3 < (t199.length : Int)) = false := decide_eq_false c29
                            clear c29
                            obtain rfl := Option.some.inj H
                            obtain ⟨Ao47, co47, eo47⟩ := Kd.R_slice HO_12.out
                            subst eo47
                            go_wp2
                            repeat (go_quiet (fail); try go_wp2)
                            go_ret
                            exact ⟨by first | rfl | (simp [errW_none, errW_some] <;> rfl) | (simp [*, errW_none, errW_some] <;> rfl), by repeat (first | (with_reducible first | exact HB.out | apply below_alloc | apply pw_below_drewN | apply below_drew1) | exact HB.out)⟩
              · rw [if_neg c14] at H
                have c14b0 : (t190 == 0) = false := beq_eq_false_iff_ne.mpr c14
                have c14b1 : (t190 != 0) = true := bne_iff_ne.mpr c14
                obtain rfl := Option.some.inj H
                go_wp2_with (first | (go_at_call 14; (with_reducible refine (word_Words.calls a0 t189 t190 t191 _ A9.out).mono ?_); rintro e w48 ⟨v192, rfl, ho0, hb⟩; have n0_ := Aside0.mk (Kd.R_lower ho0 (below_size (by repeat (first | (with_reducible first | exact HB.out | apply below_alloc | apply pw_below_drewN | apply below_drew1) | exact HB.out)))); have n1_ := Aside0.mk (below_step (by repeat (first | (with_reducible first | exact HB.out | apply below_alloc | apply pw_below_drewN | apply below_drew1) | exact HB.out)) hb); clear HB; have HO193 := n0_; have HB := n1_; clear n0_ n1_; (try clear hb); (try clear hb2); (try clear hk); (try clear hi); (try clear ho0)) | (go_at_call 14; (with_reducible refine (word_Words.calls a1 t194 t195 t196 _ A10.out).mono ?_); rintro e w49 ⟨v197, rfl, ho0, hb⟩; have n0_ := Aside0.mk (Kd.R_elder' (by (with_reducible repeat (first | apply Kd.R_alloc | apply Kd.R_drewN | apply Kd.R_drew)); exact HO193.out) (Kd.R_base ho0) hb); have n1_ := Aside0.mk (Kd.R_lower (Kd.R_new' ho0 (Kd.R_lt (by (with_reducible repeat (first | apply Kd.R_alloc | apply Kd.R_drewN | apply Kd.R_drew)); exact HO193.out))) (below_size (by repeat (first | (with_reducible first | exact HB.out | apply below_alloc | apply pw_below_drewN | apply below_drew1) | exact HB.out)))); have n2_ := Aside0.mk (below_step (by repeat (first | (with_reducible first | exact HB.out | apply below_alloc | apply pw_below_drewN | apply below_drew1) | exact HB.out)) hb); clear HO193; clear HB; have HO193 := n0_; have HO198 := n1_; have HB := n2_; clear n0_ n1_ n2_; (try clear hb); (try clear hb2); (try clear hk); (try clear hi); (try clear ho0)) | (go_at_call 14; (with_reducible refine (word_Words.calls ((a0 ++ (⟨#[10]⟩ : ByteArray)) ++ a1) t199 t200 t201 _ A13.out).mono ?_); rintro e w50 ⟨v202, rfl, ho0, hb⟩; have n0_ := Aside0.mk (Kd.R_elder' (by (with_reducible repeat (first | apply Kd.R_alloc | apply Kd.R_drewN | apply Kd.R_drew)); exact HO193.out) (Kd.R_base ho0) hb); have n1_ := Aside0.mk (Kd.R_elder' (by (with_reducible repeat (first | apply Kd.R_alloc | apply Kd.R_drewN | apply Kd.R_drew)); exact HO198.out) (Kd.R_base ho0) hb); have n2_ := Aside0.mk (Kd.R_lower (Kd.R_new' (Kd.R_new' ho0 (Kd.R_lt (by (with_reducible repeat (first | apply Kd.R_alloc | apply Kd.R_drewN | apply Kd.R_drew)); exact HO193.out))) (Kd.R_lt (by (with_reducible repeat (first | apply Kd.R_alloc | apply Kd.R_drewN | apply Kd.R_drew)); exact HO198.out))) (below_size (by repeat (first | (with_reducible first | exact HB.out | apply below_alloc | apply pw_below_drewN | apply below_drew1) | exact HB.out)))); have n3_ := Aside0.mk (below_step (by repeat (first | (with_reducible first | exact HB.out | apply below_alloc | apply pw_below_drewN | apply below_drew1) | exact HB.out)) hb); clear HO193; clear HO198; clear HB; have HO193 := n0_; have HO198 := n1_; have HO203 := n2_; have HB := n3_; clear n0_ n1_ n2_ n3_; (try clear hb); (try clear hb2); (try clear hk); (try clear hi); (try clear ho0)))
                repeat (go_quiet (first | (go_at_call 14; (with_reducible refine (word_Words.calls a0 t189 t190 t191 _ A9.out).mono ?_); rintro e w48 ⟨v192, rfl, ho0, hb⟩; have n0_ := Aside0.mk (Kd.R_lower ho0 (below_size (by repeat (first | (with_reducible first | exact HB.out | apply below_alloc | apply pw_below_drewN | apply below_drew1) | exact HB.out)))); have n1_ := Aside0.mk (below_step (by repeat (first | (with_reducible first | exact HB.out | apply below_alloc | apply pw_below_drewN | apply below_drew1) | exact HB.out)) hb); clear HB; have HO193 := n0_; have HB := n1_; clear n0_ n1_; (try clear hb); (try clear hb2); (try clear hk); (try clear hi); (try clear ho0)) | (go_at_call 14; (with_reducible refine (word_Words.calls a1 t194 t195 t196 _ A10.out).mono ?_); rintro e w49 ⟨v197, rfl, ho0, hb⟩; have n0_ := Aside0.mk (Kd.R_elder' (by (with_reducible repeat (first | apply Kd.R_alloc | apply Kd.R_drewN | apply Kd.R_drew)); exact HO193.out) (Kd.R_base ho0) hb); have n1_ := Aside0.mk (Kd.R_lower (Kd.R_new' ho0 (Kd.R_lt (by (with_reducible repeat (first | apply Kd.R_alloc | apply Kd.R_drewN | apply Kd.R_drew)); exact HO193.out))) (below_size (by repeat (first | (with_reducible first | exact HB.out | apply below_alloc | apply pw_below_drewN | apply below_drew1) | exact HB.out)))); have n2_ := Aside0.mk (below_step (by repeat (first | (with_reducible first | exact HB.out | apply below_alloc | apply pw_below_drewN | apply below_drew1) | exact HB.out)) hb); clear HO193; clear HB; have HO193 := n0_; have HO198 := n1_; have HB := n2_; clear n0_ n1_ n2_; (try clear hb); (try clear hb2); (try clear hk); (try clear hi); (try clear ho0)) | (go_at_call 14; (with_reducible refine (word_Words.calls ((a0 ++ (⟨#[10]⟩ : ByteArray)) ++ a1) t199 t200 t201 _ A13.out).mono ?_); rintro e w50 ⟨v202, rfl, ho0, hb⟩; have n0_ := Aside0.mk (Kd.R_elder' (by (with_reducible repeat (first | apply Kd.R_alloc | apply Kd.R_drewN | apply Kd.R_drew)); exact HO193.out) (Kd.R_base ho0) hb); have n1_ := Aside0.mk (Kd.R_elder' (by (with_reducible repeat (first | apply Kd.R_alloc | apply Kd.R_drewN | apply Kd.R_drew)); exact HO198.out) (Kd.R_base ho0) hb); have n2_ := Aside0.mk (Kd.R_lower (Kd.R_new' (Kd.R_new' ho0 (Kd.R_lt (by (with_reducible repeat (first | apply Kd.R_alloc | apply Kd.R_drewN | apply Kd.R_drew)); exact HO193.out))) (Kd.R_lt (by (with_reducible repeat (first | apply Kd.R_alloc | apply Kd.R_drewN | apply Kd.R_drew)); exact HO198.out))) (below_size (by repeat (first | (with_reducible first | exact HB.out | apply below_alloc | apply pw_below_drewN | apply below_drew1) | exact HB.out)))); have n3_ := Aside0.mk (below_step (by repeat (first | (with_reducible first | exact HB.out | apply below_alloc | apply pw_below_drewN | apply below_drew1) | exact HB.out)) hb); clear HO193; clear HO198; clear HB; have HO193 := n0_; have HO198 := n1_; have HO203 := n2_; have HB := n3_; clear n0_ n1_ n2_ n3_; (try clear hb); (try clear hb2); (try clear hk); (try clear hi); (try clear ho0))); try go_wp2_with (first | (go_at_call 14; (with_reducible refine (word_Words.calls a0 t189 t190 t191 _ A9.out).mono ?_); rintro e w48 ⟨v192, rfl, ho0, hb⟩; have n0_ := Aside0.mk (Kd.R_lower ho0 (below_size (by repeat (first | (with_reducible first | exact HB.out | apply below_alloc | apply pw_below_drewN | apply below_drew1) | exact HB.out)))); have n1_ := Aside0.mk (below_step (by repeat (first | (with_reducible first | exact HB.out | apply below_alloc | apply pw_below_drewN | apply below_drew1) | exact HB.out)) hb); clear HB; have HO193 := n0_; have HB := n1_; clear n0_ n1_; (try clear hb); (try clear hb2); (try clear hk); (try clear hi); (try clear ho0)) | (go_at_call 14; (with_reducible refine (word_Words.calls a1 t194 t195 t196 _ A10.out).mono ?_); rintro e w49 ⟨v197, rfl, ho0, hb⟩; have n0_ := Aside0.mk (Kd.R_elder' (by (with_reducible repeat (first | apply Kd.R_alloc | apply Kd.R_drewN | apply Kd.R_drew)); exact HO193.out) (Kd.R_base ho0) hb); have n1_ := Aside0.mk (Kd.R_lower (Kd.R_new' ho0 (Kd.R_lt (by (with_reducible repeat (first | apply Kd.R_alloc | apply Kd.R_drewN | apply Kd.R_drew)); exact HO193.out))) (below_size (by repeat (first | (with_reducible first | exact HB.out | apply below_alloc | apply pw_below_drewN | apply below_drew1) | exact HB.out)))); have n2_ := Aside0.mk (below_step (by repeat (first | (with_reducible first | exact HB.out | apply below_alloc | apply pw_below_drewN | apply below_drew1) | exact HB.out)) hb); clear HO193; clear HB; have HO193 := n0_; have HO198 := n1_; have HB := n2_; clear n0_ n1_ n2_; (try clear hb); (try clear hb2); (try clear hk); (try clear hi); (try clear ho0)) | (go_at_call 14; (with_reducible refine (word_Words.calls ((a0 ++ (⟨#[10]⟩ : ByteArray)) ++ a1) t199 t200 t201 _ A13.out).mono ?_); rintro e w50 ⟨v202, rfl, ho0, hb⟩; have n0_ := Aside0.mk (Kd.R_elder' (by (with_reducible repeat (first | apply Kd.R_alloc | apply Kd.R_drewN | apply Kd.R_drew)); exact HO193.out) (Kd.R_base ho0) hb); have n1_ := Aside0.mk (Kd.R_elder' (by (with_reducible repeat (first | apply Kd.R_alloc | apply Kd.R_drewN | apply Kd.R_drew)); exact HO198.out) (Kd.R_base ho0) hb); have n2_ := Aside0.mk (Kd.R_lower (Kd.R_new' (Kd.R_new' ho0 (Kd.R_lt (by (with_reducible repeat (first | apply Kd.R_alloc | apply Kd.R_drewN | apply Kd.R_drew)); exact HO193.out))) (Kd.R_lt (by (with_reducible repeat (first | apply Kd.R_alloc | apply Kd.R_drewN | apply Kd.R_drew)); exact HO198.out))) (below_size (by repeat (first | (with_reducible first | exact HB.out | apply below_alloc | apply pw_below_drewN | apply below_drew1) | exact HB.out)))); have n3_ := Aside0.mk (below_step (by repeat (first | (with_reducible first | exact HB.out | apply below_alloc | apply pw_below_drewN | apply below_drew1) | exact HB.out)) hb); clear HO193; clear HO198; clear HB; have HO193 := n0_; have HO198 := n1_; have HO203 := n2_; have HB := n3_; clear n0_ n1_ n2_ n3_; (try clear hb); (try clear hb2); (try clear hk); (try clear hi); (try clear ho0))))
                go_ret
                exact ⟨by first | rfl | (simp [errW_none, errW_some] <;> rfl) | (simp [*, errW_none, errW_some] <;> rfl), by repeat (first | (with_reducible first | exact HB.out | apply below_alloc | apply pw_below_drewN | apply below_drew1) | exact HB.out)⟩
            · rw [if_neg c12] at H
              exact absurd H (by simp)
          · rw [if_neg c11] at H
            exact absurd H (by simp)
  · replace c4 := Bool.eq_false_iff.mpr c4
    subst c4
    have H1 : (some false) = some r := by rw [if_neg (show ¬ (false = true) by decide)] at H; exact H
    clear H
    have H := H1
    clear H1
    exact absurd ((Option.some.inj H).trans HT.out) (by decide)

end Go.Proofs.YtageaahlkiaigaaDoor.P
