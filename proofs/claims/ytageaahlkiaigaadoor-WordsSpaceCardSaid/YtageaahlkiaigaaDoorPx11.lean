/- Functions of the given program as plain Lean functions, each with the proof that its call comes to that function's answer (conditions: the hypotheses of each '.calls'). Printed by wip/tools/pw.py, a wrapper round the kit's print. -/
import Derived.Test.YtageaahlkiaigaaDoorPx0
import Derived.Test.YtageaahlkiaigaaDoorPx5
import Derived.Test.YtageaahlkiaigaaDoorWd9
namespace Go.Proofs.YtageaahlkiaigaaDoor.P
open Go.RowKit Go.Proofs.YtageaahlkiaigaaDoorW.PrintWords Go.Proofs.YtageaahlkiaigaaDoorW.PrintLast Go.Proofs.YtageaahlkiaigaaDoorW.PrintMore
attribute [local go_sem] max2_int min2_int max_two min_two max_three min_three max_four min_four   -- for this text's walks alone
set_option linter.unusedVariables false
set_option linter.unusedSimpArgs false

/-! ### syntagmlaw08_WordsSpace: function 7 -/
mutual
def syntagmlaw08_WordsSpace.j0 : Nat → ByteArray → ByteArray → Bool → Bool → Option (Bool)
  | 0, _, _, _, _ => none
  | k + 1, x0, x1, x5, x28 => if x28 = true then (some x5) else (syntagmlaw08_WordsSpace.l0 k x0 x1 x5 0)
def syntagmlaw08_WordsSpace.l0 : Nat → ByteArray → ByteArray → Bool → Int → Option (Bool)
  | 0, _, _, _, _ => none
  | k + 1, x0, x1, x5, x6 => if x6 < (x1.size : Int) then (if 0 ≤ x6 then (if (bt x1 x6) = 10 then (some x5) else (syntagmlaw08_WordsSpace.l0 k x0 x1 x5 (wrap64 (x6 + 1)))) else (none)) else ((word_Words.f x0).bind fun bt210 => (if x0.size + 3 ≤ 9223372036854775807 then (if (x0 ++ (⟨#[32, 35, 32]⟩ : ByteArray)).size + x1.size ≤ 9223372036854775807 then ((word_Words.f ((x0 ++ (⟨#[32, 35, 32]⟩ : ByteArray)) ++ x1)).bind fun bt215 => (if 3 + x0.size ≤ 9223372036854775807 then ((word_Words.f ((⟨#[9, 32, 13]⟩ : ByteArray) ++ x0)).bind fun bt220 => (if (bt220.1.length : Int) = (bt210.1.length : Int) then (syntagmlaw08_WordsSpace.j2 k x5 bt210.1 bt210.2.1 bt215.1 bt215.2.1 bt220.1 bt220.2.2 (bt210.2.1 != bt220.2.1)) else (syntagmlaw08_WordsSpace.j2 k x5 bt210.1 bt210.2.1 bt215.1 bt215.2.1 bt220.1 bt220.2.2 true))) else (none))) else (none)) else (none)))
def syntagmlaw08_WordsSpace.j2 : Nat → Bool → List (S32) → Int → List (S32) → Int → List (S32) → Int → Bool → Option (Bool)
  | 0, _, _, _, _, _, _, _, _ => none
  | k + 1, x5, x7, x8, x10, x11, x13, x15, x72 => if x72 = true then (some false) else (syntagmlaw08_WordsSpace.l1 k x5 x7 x8 x10 x11 x13 x15 0)
def syntagmlaw08_WordsSpace.l1 : Nat → Bool → List (S32) → Int → List (S32) → Int → List (S32) → Int → Int → Option (Bool)
  | 0, _, _, _, _, _, _, _, _ => none
  | k + 1, x5, x7, x8, x10, x11, x13, x15, x16 => if x16 < (x7.length : Int) then (if 0 ≤ x16 then (if x16 < (x13.length : Int) then (if ((rd_T32 x13 x16).f1).toList = ((rd_T32 x7 x16).f1).toList then (if ((rd_T32 x13 x16).f0) = ((rd_T32 x7 x16).f0) then (if ((rd_T32 x13 x16).f3) = (wrap64 (((rd_T32 x7 x16).f3) + 3)) then (syntagmlaw08_WordsSpace.l1 k x5 x7 x8 x10 x11 x13 x15 (wrap64 (x16 + 1))) else (some false)) else (some false)) else (some false)) else (none)) else (none)) else (if x8 = 0 then (if x11 = 0 then (syntagmlaw08_WordsSpace.j4 k x5 x7 x10 ((x10.length : Int) != (x7.length : Int))) else (syntagmlaw08_WordsSpace.j4 k x5 x7 x10 true)) else (if x5 = true then (some (decide (x15 ≥ 3))) else (some false)))
def syntagmlaw08_WordsSpace.j4 : Nat → Bool → List (S32) → List (S32) → Bool → Option (Bool)
  | 0, _, _, _, _ => none
  | k + 1, x5, x7, x10, x132 => if x132 = true then (some false) else (syntagmlaw08_WordsSpace.l2 k x5 x7 x10 0)
def syntagmlaw08_WordsSpace.l2 : Nat → Bool → List (S32) → List (S32) → Int → Option (Bool)
  | 0, _, _, _, _ => none
  | k + 1, x5, x7, x10, x17 => if x17 < (x7.length : Int) then (if 0 ≤ x17 then (if x17 < (x10.length : Int) then (if ((rd_T32 x10 x17).f1).toList = ((rd_T32 x7 x17).f1).toList then (if ((rd_T32 x10 x17).f0) = ((rd_T32 x7 x17).f0) then (syntagmlaw08_WordsSpace.l2 k x5 x7 x10 (wrap64 (x17 + 1))) else (some false)) else (some false)) else (none)) else (none)) else (some x5)
end
def syntagmlaw08_WordsSpace.f (k : Nat) (a0 : ByteArray) (a1 : ByteArray) : Option (Bool) := (syntagmlaw08_works.f).bind fun t209 => (if t209 = true then (if (a0.size : Int) > 400 then (syntagmlaw08_WordsSpace.j0 k a0 a1 t209 true) else (syntagmlaw08_WordsSpace.j0 k a0 a1 t209 (decide ((a1.size : Int) > 400)))) else (some false))
theorem syntagmlaw08_WordsSpace.mono_l : ∀ k, (∀ y0 y1 y2 y3, LeO (syntagmlaw08_WordsSpace.j0 k y0 y1 y2 y3) (syntagmlaw08_WordsSpace.j0 (k + 1) y0 y1 y2 y3)) ∧ (∀ y0 y1 y2 y3, LeO (syntagmlaw08_WordsSpace.l0 k y0 y1 y2 y3) (syntagmlaw08_WordsSpace.l0 (k + 1) y0 y1 y2 y3)) ∧ (∀ y0 y1 y2 y3 y4 y5 y6 y7, LeO (syntagmlaw08_WordsSpace.j2 k y0 y1 y2 y3 y4 y5 y6 y7) (syntagmlaw08_WordsSpace.j2 (k + 1) y0 y1 y2 y3 y4 y5 y6 y7)) ∧ (∀ y0 y1 y2 y3 y4 y5 y6 y7, LeO (syntagmlaw08_WordsSpace.l1 k y0 y1 y2 y3 y4 y5 y6 y7) (syntagmlaw08_WordsSpace.l1 (k + 1) y0 y1 y2 y3 y4 y5 y6 y7)) ∧ (∀ y0 y1 y2 y3, LeO (syntagmlaw08_WordsSpace.j4 k y0 y1 y2 y3) (syntagmlaw08_WordsSpace.j4 (k + 1) y0 y1 y2 y3)) ∧ (∀ y0 y1 y2 y3, LeO (syntagmlaw08_WordsSpace.l2 k y0 y1 y2 y3) (syntagmlaw08_WordsSpace.l2 (k + 1) y0 y1 y2 y3))
  | 0 => ⟨fun _ _ _ _ r h => by simp [syntagmlaw08_WordsSpace.j0] at h, fun _ _ _ _ r h => by simp [syntagmlaw08_WordsSpace.l0] at h, fun _ _ _ _ _ _ _ _ r h => by simp [syntagmlaw08_WordsSpace.j2] at h, fun _ _ _ _ _ _ _ _ r h => by simp [syntagmlaw08_WordsSpace.l1] at h, fun _ _ _ _ r h => by simp [syntagmlaw08_WordsSpace.j4] at h, fun _ _ _ _ r h => by simp [syntagmlaw08_WordsSpace.l2] at h⟩
  | k + 1 => by
    obtain ⟨ih0, ih1, ih2, ih3, ih4, ih5⟩ := syntagmlaw08_WordsSpace.mono_l k
    refine ⟨?_, ?_, ?_, ?_, ?_, ?_⟩
    · intro y0 y1 y2 y3
      unfold syntagmlaw08_WordsSpace.j0
      repeat' first
      | (with_reducible exact ih0 _ _ _ _)
      | (with_reducible exact ih1 _ _ _ _)
      | (with_reducible exact ih2 _ _ _ _ _ _ _ _)
      | (with_reducible exact ih3 _ _ _ _ _ _ _ _)
      | (with_reducible exact ih4 _ _ _ _)
      | (with_reducible exact ih5 _ _ _ _)
      | (with_reducible exact LeO.refl _)
      | (with_reducible exact LeO.none _)
      | (with_reducible refine LeO.ite ?_ ?_)
      | (with_reducible refine LeO.bind ?_ (fun _ => ?_))
      | exact ih0 _ _ _ _
      | exact ih1 _ _ _ _
      | exact ih2 _ _ _ _ _ _ _ _
      | exact ih3 _ _ _ _ _ _ _ _
      | exact ih4 _ _ _ _
      | exact ih5 _ _ _ _
      | exact LeO.none _
      | refine LeO.ite ?_ ?_
      | refine LeO.bind ?_ (fun _ => ?_)
    · intro y0 y1 y2 y3
      unfold syntagmlaw08_WordsSpace.l0
      repeat' first
      | (with_reducible exact ih0 _ _ _ _)
      | (with_reducible exact ih1 _ _ _ _)
      | (with_reducible exact ih2 _ _ _ _ _ _ _ _)
      | (with_reducible exact ih3 _ _ _ _ _ _ _ _)
      | (with_reducible exact ih4 _ _ _ _)
      | (with_reducible exact ih5 _ _ _ _)
      | (with_reducible exact LeO.refl _)
      | (with_reducible exact LeO.none _)
      | (with_reducible refine LeO.ite ?_ ?_)
      | (with_reducible refine LeO.bind ?_ (fun _ => ?_))
      | exact ih0 _ _ _ _
      | exact ih1 _ _ _ _
      | exact ih2 _ _ _ _ _ _ _ _
      | exact ih3 _ _ _ _ _ _ _ _
      | exact ih4 _ _ _ _
      | exact ih5 _ _ _ _
      | exact LeO.none _
      | refine LeO.ite ?_ ?_
      | refine LeO.bind ?_ (fun _ => ?_)
    · intro y0 y1 y2 y3 y4 y5 y6 y7
      unfold syntagmlaw08_WordsSpace.j2
      repeat' first
      | (with_reducible exact ih0 _ _ _ _)
      | (with_reducible exact ih1 _ _ _ _)
      | (with_reducible exact ih2 _ _ _ _ _ _ _ _)
      | (with_reducible exact ih3 _ _ _ _ _ _ _ _)
      | (with_reducible exact ih4 _ _ _ _)
      | (with_reducible exact ih5 _ _ _ _)
      | (with_reducible exact LeO.refl _)
      | (with_reducible exact LeO.none _)
      | (with_reducible refine LeO.ite ?_ ?_)
      | (with_reducible refine LeO.bind ?_ (fun _ => ?_))
      | exact ih0 _ _ _ _
      | exact ih1 _ _ _ _
      | exact ih2 _ _ _ _ _ _ _ _
      | exact ih3 _ _ _ _ _ _ _ _
      | exact ih4 _ _ _ _
      | exact ih5 _ _ _ _
      | exact LeO.none _
      | refine LeO.ite ?_ ?_
      | refine LeO.bind ?_ (fun _ => ?_)
    · intro y0 y1 y2 y3 y4 y5 y6 y7
      unfold syntagmlaw08_WordsSpace.l1
      repeat' first
      | (with_reducible exact ih0 _ _ _ _)
      | (with_reducible exact ih1 _ _ _ _)
      | (with_reducible exact ih2 _ _ _ _ _ _ _ _)
      | (with_reducible exact ih3 _ _ _ _ _ _ _ _)
      | (with_reducible exact ih4 _ _ _ _)
      | (with_reducible exact ih5 _ _ _ _)
      | (with_reducible exact LeO.refl _)
      | (with_reducible exact LeO.none _)
      | (with_reducible refine LeO.ite ?_ ?_)
      | (with_reducible refine LeO.bind ?_ (fun _ => ?_))
      | exact ih0 _ _ _ _
      | exact ih1 _ _ _ _
      | exact ih2 _ _ _ _ _ _ _ _
      | exact ih3 _ _ _ _ _ _ _ _
      | exact ih4 _ _ _ _
      | exact ih5 _ _ _ _
      | exact LeO.none _
      | refine LeO.ite ?_ ?_
      | refine LeO.bind ?_ (fun _ => ?_)
    · intro y0 y1 y2 y3
      unfold syntagmlaw08_WordsSpace.j4
      repeat' first
      | (with_reducible exact ih0 _ _ _ _)
      | (with_reducible exact ih1 _ _ _ _)
      | (with_reducible exact ih2 _ _ _ _ _ _ _ _)
      | (with_reducible exact ih3 _ _ _ _ _ _ _ _)
      | (with_reducible exact ih4 _ _ _ _)
      | (with_reducible exact ih5 _ _ _ _)
      | (with_reducible exact LeO.refl _)
      | (with_reducible exact LeO.none _)
      | (with_reducible refine LeO.ite ?_ ?_)
      | (with_reducible refine LeO.bind ?_ (fun _ => ?_))
      | exact ih0 _ _ _ _
      | exact ih1 _ _ _ _
      | exact ih2 _ _ _ _ _ _ _ _
      | exact ih3 _ _ _ _ _ _ _ _
      | exact ih4 _ _ _ _
      | exact ih5 _ _ _ _
      | exact LeO.none _
      | refine LeO.ite ?_ ?_
      | refine LeO.bind ?_ (fun _ => ?_)
    · intro y0 y1 y2 y3
      unfold syntagmlaw08_WordsSpace.l2
      repeat' first
      | (with_reducible exact ih0 _ _ _ _)
      | (with_reducible exact ih1 _ _ _ _)
      | (with_reducible exact ih2 _ _ _ _ _ _ _ _)
      | (with_reducible exact ih3 _ _ _ _ _ _ _ _)
      | (with_reducible exact ih4 _ _ _ _)
      | (with_reducible exact ih5 _ _ _ _)
      | (with_reducible exact LeO.refl _)
      | (with_reducible exact LeO.none _)
      | (with_reducible refine LeO.ite ?_ ?_)
      | (with_reducible refine LeO.bind ?_ (fun _ => ?_))
      | exact ih0 _ _ _ _
      | exact ih1 _ _ _ _
      | exact ih2 _ _ _ _ _ _ _ _
      | exact ih3 _ _ _ _ _ _ _ _
      | exact ih4 _ _ _ _
      | exact ih5 _ _ _ _
      | exact LeO.none _
      | refine LeO.ite ?_ ?_
      | refine LeO.bind ?_ (fun _ => ?_)
theorem syntagmlaw08_WordsSpace.mono : ∀ a0 a1 k, LeO (syntagmlaw08_WordsSpace.f k a0 a1) (syntagmlaw08_WordsSpace.f (k + 1) a0 a1) := by
  intro a0 a1 k
  obtain ⟨ih0, ih1, ih2, ih3, ih4, ih5⟩ := syntagmlaw08_WordsSpace.mono_l k
  unfold syntagmlaw08_WordsSpace.f
  repeat' first
      | (with_reducible exact ih0 _ _ _ _)
      | (with_reducible exact ih1 _ _ _ _)
      | (with_reducible exact ih2 _ _ _ _ _ _ _ _)
      | (with_reducible exact ih3 _ _ _ _ _ _ _ _)
      | (with_reducible exact ih4 _ _ _ _)
      | (with_reducible exact ih5 _ _ _ _)
      | (with_reducible exact LeO.refl _)
      | (with_reducible exact LeO.none _)
      | (with_reducible refine LeO.ite ?_ ?_)
      | (with_reducible refine LeO.bind ?_ (fun _ => ?_))
      | exact ih0 _ _ _ _
      | exact ih1 _ _ _ _
      | exact ih2 _ _ _ _ _ _ _ _
      | exact ih3 _ _ _ _ _ _ _ _
      | exact ih4 _ _ _ _
      | exact ih5 _ _ _ _
      | exact LeO.none _
      | refine LeO.ite ?_ ?_
      | refine LeO.bind ?_ (fun _ => ?_)
set_option maxHeartbeats 8000000 in
set_option maxRecDepth 100000 in
theorem syntagmlaw08_WordsSpace.calls (k : Nat) (a0 : ByteArray) (a1 : ByteArray) (r : Bool) (w : World) (hT : r = true) (h : syntagmlaw08_WordsSpace.f k a0 a1 = some r) :
    Calls Tryd.prog 7 #[.string a0, .string a1] w fun e w' => e = .returned (.bool r) ∧ Below w.heap.size w w' := by
  have HT := Aside0.mk hT
  clear hT
  have HB := Aside0.mk (Below.refl w.heap.size w)
  have H : ((syntagmlaw08_works.f).bind fun t209 => (if t209 = true then (if (a0.size : Int) > 400 then (syntagmlaw08_WordsSpace.j0 k a0 a1 t209 true) else (syntagmlaw08_WordsSpace.j0 k a0 a1 t209 (decide ((a1.size : Int) > 400)))) else (some false))) = some r := h
  clear h
  replace H := Option.bind_eq_some_iff.mp H
  obtain ⟨t209, A30, H⟩ := H
  replace H : (if t209 = true then (if (a0.size : Int) > 400 then (syntagmlaw08_WordsSpace.j0 k a0 a1 t209 true) else (syntagmlaw08_WordsSpace.j0 k a0 a1 t209 (decide ((a1.size : Int) > 400)))) else (some false)) = some r := H
  have A3 := Aside0.mk A30
  clear A30
  by_cases c4 : t209 = true
  · subst c4
    have H1 : (if (a0.size : Int) > 400 then (syntagmlaw08_WordsSpace.j0 k a0 a1 true true) else (syntagmlaw08_WordsSpace.j0 k a0 a1 true (decide ((a1.size : Int) > 400)))) = some r := by rw [if_pos rfl] at H; exact H
    clear H
    have H := H1
    clear H1
    have HC5 := Aside0.mk H
    clear H
    go_enter Tryd.func7, Tryd.ntmps7
    go_upto_region 4 with (first | (go_at_call 9; (with_reducible refine (syntagmlaw08_works.calls  true _ ?side1 A3.out).mono ?_); (case side1 => rfl); rintro e w6 ⟨rfl, hb⟩; have n0_ := Aside0.mk (below_step (by repeat (first | (with_reducible first | exact HB.out | apply below_alloc | apply pw_below_drewN | apply below_drew1) | exact HB.out)) hb); clear HB; have HB := n0_; clear n0_; (try clear hb); (try clear hb2); (try clear hk); (try clear hi)))
    repeat (go_quiet (first | (go_at_call 9; (with_reducible refine (syntagmlaw08_works.calls  true _ ?side1 A3.out).mono ?_); (case side1 => rfl); rintro e w6 ⟨rfl, hb⟩; have n0_ := Aside0.mk (below_step (by repeat (first | (with_reducible first | exact HB.out | apply below_alloc | apply pw_below_drewN | apply below_drew1) | exact HB.out)) hb); clear HB; have HB := n0_; clear n0_; (try clear hb); (try clear hb2); (try clear hk); (try clear hi))); go_upto_region 4 with (first | (go_at_call 9; (with_reducible refine (syntagmlaw08_works.calls  true _ ?side1 A3.out).mono ?_); (case side1 => rfl); rintro e w6 ⟨rfl, hb⟩; have n0_ := Aside0.mk (below_step (by repeat (first | (with_reducible first | exact HB.out | apply below_alloc | apply pw_below_drewN | apply below_drew1) | exact HB.out)) hb); clear HB; have HB := n0_; clear n0_; (try clear hb); (try clear hb2); (try clear hk); (try clear hi))))
    (try simp only [Act.put, List.setIfInBounds_toArray, List.set_cons_zero, List.set_cons_succ])
    go_cut [28] (fun v28 wc => ∃ (kq : Nat) (x28_4 : Bool), v28 = .bool x28_4 ∧ Aside0 (syntagmlaw08_WordsSpace.j0 kq a0 a1 true x28_4 = some r) ∧ Aside0 (kq ≤ k) ∧ Aside0 (Below w.heap.size w wc))
    case first =>
      have H := HC5.out
      clear HC5
      by_cases c7 : (a0.size : Int) > 400
      · rw [if_pos c7] at H
        have c7b0 : decide (400 < (a0.size : Int)) = true := decide_eq_true c7
        have c7b1 : decide (400 < a0.size) = true := decide_eq_true (by omega)
        clear c7
        (first | rw [c7b0] | (simp only [i64_w, i32_w]; rw [c7b0]) | skip)
        have H' := Aside0.mk H
        clear H
        go_wp2
        repeat (go_quiet (fail); try go_wp2)
        go_meet
        case rel => exact ⟨_, (true), (by first | rfl | (simp; done) | (simp [*]; done)), H', ⟨by first | omega | exact Nat.le_refl _⟩, ⟨by repeat (first | (with_reducible first | exact HB.out | apply below_alloc | apply pw_below_drewN | apply below_drew1) | exact HB.out)⟩⟩
      · rw [if_neg c7] at H
        have c7b0 : decide (400 < (a0.size : Int)) = false := decide_eq_false c7
        have c7b1 : decide (400 < a0.size) = false := decide_eq_false (by omega)
        clear c7
        (first | rw [c7b0] | (simp only [i64_w, i32_w]; rw [c7b0]) | skip)
        have H' := Aside0.mk H
        clear H
        go_wp2
        repeat (go_quiet (fail); try go_wp2)
        go_meet
        case rel => exact ⟨_, (decide ((a1.size : Int) > 400)), (by first | rfl | (simp; done) | (simp [*]; done)), H', ⟨by first | omega | exact Nat.le_refl _⟩, ⟨by repeat (first | (with_reducible first | exact HB.out | apply below_alloc | apply pw_below_drewN | apply below_drew1) | exact HB.out)⟩⟩
    case rest =>
      clear HC5
      try clear p2
      try clear c4
      try clear c7
      try clear c7b0
      try clear c7b1
      obtain ⟨kq, x28_4, rfl, HA, HJ4, HB⟩ := hcut
      cases kq with
      | zero => exact absurd HA.out (by simp [syntagmlaw08_WordsSpace.j0])
      | succ kj4 =>
        have H := HA.out
        clear HA
        simp only [syntagmlaw08_WordsSpace.j0] at H
        by_cases c8 : x28_4 = true
        · subst c8
          have H1 : (some true) = some r := by rw [if_pos rfl] at H; exact H
          clear H
          have H := H1
          clear H1
          obtain rfl := Option.some.inj H
          go_wp2
          repeat (go_quiet (fail); try go_wp2)
          go_ret
          exact ⟨by first | rfl | (simp [errW_none, errW_some] <;> rfl) | (simp [*, errW_none, errW_some] <;> rfl), by repeat (first | (with_reducible first | exact HB.out | apply below_alloc | apply pw_below_drewN | apply below_drew1) | exact HB.out)⟩
        · replace c8 := Bool.eq_false_iff.mpr c8
          subst c8
          have H1 : (syntagmlaw08_WordsSpace.l0 kj4 a0 a1 true 0) = some r := by rw [if_neg (show ¬ (false = true) by decide)] at H; exact H
          clear H
          have H := H1
          clear H1
          have H' := Aside0.mk H
          clear H
          go_wp2
          repeat (go_quiet (fail); try go_wp2)
          go_loopg [6] kj4 (fun kq v6 w' => ∃ (x6_2 : Int), v6 = .int .i64 x6_2 ∧ Aside0 (syntagmlaw08_WordsSpace.l0 kq a0 a1 true x6_2 = some r) ∧ Aside0 (kq ≤ kj4) ∧ Aside0 (Below w.heap.size w w'))
          case atStart => exact ⟨(0), (by first | rfl | (simp; done) | (simp [*]; done)), H', ⟨Nat.le_refl _⟩, ⟨by repeat (first | (with_reducible first | exact HB.out | apply below_alloc | apply pw_below_drewN | apply below_drew1) | exact HB.out)⟩⟩
          case round =>
            clear H'
            try clear p2
            try clear c4
            try clear c7
            try clear c7b0
            try clear c7b1
            try clear c8
            try clear p2
            obtain ⟨x6_2, rfl, HA, HK2, HB⟩ := hrel
            cases gk with
            | zero => exact absurd HA.out (by simp [syntagmlaw08_WordsSpace.l0])
            | succ k2 =>
              have H := HA.out
              clear HA
              simp only [syntagmlaw08_WordsSpace.l0] at H
              by_cases c9 : x6_2 < (a1.size : Int)
              · rw [if_pos c9] at H
                have c9b0 : decide (x6_2 < (a1.size : Int)) = true := decide_eq_true c9
                clear c9
                by_cases c10 : 0 ≤ x6_2
                · rw [if_pos c10] at H
                  have c10b0 : decide (0 ≤ x6_2) = true := decide_eq_true c10
                  clear c10
                  by_cases c12 : (bt a1 x6_2) = 10
                  · rw [if_pos c12] at H
                    have c12b0 : ((bt a1 x6_2) == 10) = true := beq_iff_eq.mpr c12
                    have c12b1 : ((bt a1 x6_2) != 10) = false := bne_eq_false_iff_eq.mpr c12
                    clear c12
                    obtain rfl := Option.some.inj H
                    have p11 : 0 ≤ (x6_2 : Int) := of_decide_eq_true (by first | (with_reducible assumption) | assumption)
                    have q11 : x6_2 < (a1.size : Int) := of_decide_eq_true (by first | (with_reducible assumption) | assumption)
                    have hx11 := bt_at a1 x6_2
                    replace p11 := eq_true p11
                    replace q11 := eq_true q11
                    go_wp2
                    repeat (go_quiet (fail); try go_wp2)
                    go_ret
                    exact ⟨by first | rfl | (simp [errW_none, errW_some] <;> rfl) | (simp [*, errW_none, errW_some] <;> rfl), by repeat (first | (with_reducible first | exact HB.out | apply below_alloc | apply pw_below_drewN | apply below_drew1) | exact HB.out)⟩
                  · rw [if_neg c12] at H
                    have c12b0 : ((bt a1 x6_2) == 10) = false := beq_eq_false_iff_ne.mpr c12
                    have c12b1 : ((bt a1 x6_2) != 10) = true := bne_iff_ne.mpr c12
                    have H' := Aside0.mk H
                    clear H
                    have p11 : 0 ≤ (x6_2 : Int) := of_decide_eq_true (by first | (with_reducible assumption) | assumption)
                    have q11 : x6_2 < (a1.size : Int) := of_decide_eq_true (by first | (with_reducible assumption) | assumption)
                    have hx11 := bt_at a1 x6_2
                    replace p11 := eq_true p11
                    replace q11 := eq_true q11
                    go_wp2
                    repeat (go_quiet (fail); try go_wp2)
                    go_roundg k2
                    case measure => have := HJ4.out; have := HK2.out; omega
                    case rel => exact ⟨(wrap64 (x6_2 + 1)), (by first | rfl | (simp; done) | (simp [*]; done)), H', ⟨by have := HJ4.out; have := HK2.out; omega⟩, ⟨by repeat (first | (with_reducible first | exact HB.out | apply below_alloc | apply pw_below_drewN | apply below_drew1) | exact HB.out)⟩⟩
                · rw [if_neg c10] at H
                  exact absurd H (by simp)
              · rw [if_neg c9] at H
                have c9b0 : decide (x6_2 < (a1.size : Int)) = false := decide_eq_false c9
                clear c9
                replace H := Option.bind_eq_some_iff.mp H
                obtain ⟨⟨t210, t211, t212⟩, A130, H⟩ := H
                replace H : (if a0.size + 3 ≤ 9223372036854775807 then (if (a0 ++ (⟨#[32, 35, 32]⟩ : ByteArray)).size + a1.size ≤ 9223372036854775807 then ((word_Words.f ((a0 ++ (⟨#[32, 35, 32]⟩ : ByteArray)) ++ a1)).bind fun bt215 => (if 3 + a0.size ≤ 9223372036854775807 then ((word_Words.f ((⟨#[9, 32, 13]⟩ : ByteArray) ++ a0)).bind fun bt220 => (if (bt220.1.length : Int) = (t210.length : Int) then (syntagmlaw08_WordsSpace.j2 k2 true t210 t211 bt215.1 bt215.2.1 bt220.1 bt220.2.2 (t211 != bt220.2.1)) else (syntagmlaw08_WordsSpace.j2 k2 true t210 t211 bt215.1 bt215.2.1 bt220.1 bt220.2.2 true))) else (none))) else (none)) else (none)) = some r := H
                have A13 := Aside0.mk A130
                clear A130
                by_cases c14 : a0.size + 3 ≤ 9223372036854775807
                · rw [if_pos c14] at H
                  have c14b0 := eq_true c14
                  have c14b1 : decide (a0.size + 3 ≤ 9223372036854775807) = true := decide_eq_true c14
                  try have c14b2 : (9223372036854775807 < a0.size + 3) = False := eq_false (Nat.not_lt.2 c14)
                  by_cases c15 : (a0 ++ (⟨#[32, 35, 32]⟩ : ByteArray)).size + a1.size ≤ 9223372036854775807
                  · rw [if_pos c15] at H
                    have c15b0 := eq_true c15
                    have c15b1 : decide ((a0 ++ (⟨#[32, 35, 32]⟩ : ByteArray)).size + a1.size ≤ 9223372036854775807) = true := decide_eq_true c15
                    try have c15b2 : (9223372036854775807 < (a0 ++ (⟨#[32, 35, 32]⟩ : ByteArray)).size + a1.size) = False := eq_false (Nat.not_lt.2 c15)
                    replace H := Option.bind_eq_some_iff.mp H
                    obtain ⟨⟨t215, t216, t217⟩, A160, H⟩ := H
                    replace H : (if 3 + a0.size ≤ 9223372036854775807 then ((word_Words.f ((⟨#[9, 32, 13]⟩ : ByteArray) ++ a0)).bind fun bt220 => (if (bt220.1.length : Int) = (t210.length : Int) then (syntagmlaw08_WordsSpace.j2 k2 true t210 t211 t215 t216 bt220.1 bt220.2.2 (t211 != bt220.2.1)) else (syntagmlaw08_WordsSpace.j2 k2 true t210 t211 t215 t216 bt220.1 bt220.2.2 true))) else (none)) = some r := H
                    have A16 := Aside0.mk A160
                    clear A160
                    by_cases c17 : 3 + a0.size ≤ 9223372036854775807
                    · rw [if_pos c17] at H
                      have c17b0 := eq_true c17
                      have c17b1 : decide (3 + a0.size ≤ 9223372036854775807) = true := decide_eq_true c17
                      try have c17b2 : (9223372036854775807 < 3 + a0.size) = False := eq_false (Nat.not_lt.2 c17)
                      replace H := Option.bind_eq_some_iff.mp H
                      obtain ⟨⟨t220, t221, t222⟩, A180, H⟩ := H
                      replace H : (if (t220.length : Int) = (t210.length : Int) then (syntagmlaw08_WordsSpace.j2 k2 true t210 t211 t215 t216 t220 t222 (t211 != t221)) else (syntagmlaw08_WordsSpace.j2 k2 true t210 t211 t215 t216 t220 t222 true)) = some r := H
                      have A18 := Aside0.mk A180
                      clear A180
                      have HC19 := Aside0.mk H
                      clear H
                      go_upto_region 14 with (first | (go_at_call 14; (with_reducible refine (word_Words.calls a0 t210 t211 t212 _ A13.out).mono ?_); rintro e w20 ⟨v213, rfl, ho0, hb⟩; have n0_ := Aside0.mk (Kd.R_lower ho0 (below_size (by repeat (first | (with_reducible first | exact HB.out | apply below_alloc | apply pw_below_drewN | apply below_drew1) | exact HB.out)))); have n1_ := Aside0.mk (below_step (by repeat (first | (with_reducible first | exact HB.out | apply below_alloc | apply pw_below_drewN | apply below_drew1) | exact HB.out)) hb); clear HB; have HO214 := n0_; have HB := n1_; clear n0_ n1_; (try clear hb); (try clear hb2); (try clear hk); (try clear hi); (try clear ho0)) | (go_at_call 14; (with_reducible refine (word_Words.calls ((a0 ++ (⟨#[32, 35, 32]⟩ : ByteArray)) ++ a1) t215 t216 t217 _ A16.out).mono ?_); rintro e w21 ⟨v218, rfl, ho0, hb⟩; have n0_ := Aside0.mk (Kd.R_elder' (by (with_reducible repeat (first | apply Kd.R_alloc | apply Kd.R_drewN | apply Kd.R_drew)); exact HO214.out) (Kd.R_base ho0) hb); have n1_ := Aside0.mk (Kd.R_lower (Kd.R_new' ho0 (Kd.R_lt (by (with_reducible repeat (first | apply Kd.R_alloc | apply Kd.R_drewN | apply Kd.R_drew)); exact HO214.out))) (below_size (by repeat (first | (with_reducible first | exact HB.out | apply below_alloc | apply pw_below_drewN | apply below_drew1) | exact HB.out)))); have n2_ := Aside0.mk (below_step (by repeat (first | (with_reducible first | exact HB.out | apply below_alloc | apply pw_below_drewN | apply below_drew1) | exact HB.out)) hb); clear HO214; clear HB; have HO214 := n0_; have HO219 := n1_; have HB := n2_; clear n0_ n1_ n2_; (try clear hb); (try clear hb2); (try clear hk); (try clear hi); (try clear ho0)) | (go_at_call 14; (with_reducible refine (word_Words.calls ((⟨#[9, 32, 13]⟩ : ByteArray) ++ a0) t220 t221 t222 _ A18.out).mono ?_); rintro e w22 ⟨v223, rfl, ho0, hb⟩; have n0_ := Aside0.mk (Kd.R_elder' (by (with_reducible repeat (first | apply Kd.R_alloc | apply Kd.R_drewN | apply Kd.R_drew)); exact HO214.out) (Kd.R_base ho0) hb); have n1_ := Aside0.mk (Kd.R_elder' (by (with_reducible repeat (first | apply Kd.R_alloc | apply Kd.R_drewN | apply Kd.R_drew)); exact HO219.out) (Kd.R_base ho0) hb); have n2_ := Aside0.mk (Kd.R_lower (Kd.R_new' (Kd.R_new' ho0 (Kd.R_lt (by (with_reducible repeat (first | apply Kd.R_alloc | apply Kd.R_drewN | apply Kd.R_drew)); exact HO214.out))) (Kd.R_lt (by (with_reducible repeat (first | apply Kd.R_alloc | apply Kd.R_drewN | apply Kd.R_drew)); exact HO219.out))) (below_size (by repeat (first | (with_reducible first | exact HB.out | apply below_alloc | apply pw_below_drewN | apply below_drew1) | exact HB.out)))); have n3_ := Aside0.mk (below_step (by repeat (first | (with_reducible first | exact HB.out | apply below_alloc | apply pw_below_drewN | apply below_drew1) | exact HB.out)) hb); clear HO214; clear HO219; clear HB; have HO214 := n0_; have HO219 := n1_; have HO224 := n2_; have HB := n3_; clear n0_ n1_ n2_ n3_; (try clear hb); (try clear hb2); (try clear hk); (try clear hi); (try clear ho0)))
                      repeat (go_quiet (first | (go_at_call 14; (with_reducible refine (word_Words.calls a0 t210 t211 t212 _ A13.out).mono ?_); rintro e w20 ⟨v213, rfl, ho0, hb⟩; have n0_ := Aside0.mk (Kd.R_lower ho0 (below_size (by repeat (first | (with_reducible first | exact HB.out | apply below_alloc | apply pw_below_drewN | apply below_drew1) | exact HB.out)))); have n1_ := Aside0.mk (below_step (by repeat (first | (with_reducible first | exact HB.out | apply below_alloc | apply pw_below_drewN | apply below_drew1) | exact HB.out)) hb); clear HB; have HO214 := n0_; have HB := n1_; clear n0_ n1_; (try clear hb); (try clear hb2); (try clear hk); (try clear hi); (try clear ho0)) | (go_at_call 14; (with_reducible refine (word_Words.calls ((a0 ++ (⟨#[32, 35, 32]⟩ : ByteArray)) ++ a1) t215 t216 t217 _ A16.out).mono ?_); rintro e w21 ⟨v218, rfl, ho0, hb⟩; have n0_ := Aside0.mk (Kd.R_elder' (by (with_reducible repeat (first | apply Kd.R_alloc | apply Kd.R_drewN | apply Kd.R_drew)); exact HO214.out) (Kd.R_base ho0) hb); have n1_ := Aside0.mk (Kd.R_lower (Kd.R_new' ho0 (Kd.R_lt (by (with_reducible repeat (first | apply Kd.R_alloc | apply Kd.R_drewN | apply Kd.R_drew)); exact HO214.out))) (below_size (by repeat (first | (with_reducible first | exact HB.out | apply below_alloc | apply pw_below_drewN | apply below_drew1) | exact HB.out)))); have n2_ := Aside0.mk (below_step (by repeat (first | (with_reducible first | exact HB.out | apply below_alloc | apply pw_below_drewN | apply below_drew1) | exact HB.out)) hb); clear HO214; clear HB; have HO214 := n0_; have HO219 := n1_; have HB := n2_; clear n0_ n1_ n2_; (try clear hb); (try clear hb2); (try clear hk); (try clear hi); (try clear ho0)) | (go_at_call 14; (with_reducible refine (word_Words.calls ((⟨#[9, 32, 13]⟩ : ByteArray) ++ a0) t220 t221 t222 _ A18.out).mono ?_); rintro e w22 ⟨v223, rfl, ho0, hb⟩; have n0_ := Aside0.mk (Kd.R_elder' (by (with_reducible repeat (first | apply Kd.R_alloc | apply Kd.R_drewN | apply Kd.R_drew)); exact HO214.out) (Kd.R_base ho0) hb); have n1_ := Aside0.mk (Kd.R_elder' (by (with_reducible repeat (first | apply Kd.R_alloc | apply Kd.R_drewN | apply Kd.R_drew)); exact HO219.out) (Kd.R_base ho0) hb); have n2_ := Aside0.mk (Kd.R_lower (Kd.R_new' (Kd.R_new' ho0 (Kd.R_lt (by (with_reducible repeat (first | apply Kd.R_alloc | apply Kd.R_drewN | apply Kd.R_drew)); exact HO214.out))) (Kd.R_lt (by (with_reducible repeat (first | apply Kd.R_alloc | apply Kd.R_drewN | apply Kd.R_drew)); exact HO219.out))) (below_size (by repeat (first | (with_reducible first | exact HB.out | apply below_alloc | apply pw_below_drewN | apply below_drew1) | exact HB.out)))); have n3_ := Aside0.mk (below_step (by repeat (first | (with_reducible first | exact HB.out | apply below_alloc | apply pw_below_drewN | apply below_drew1) | exact HB.out)) hb); clear HO214; clear HO219; clear HB; have HO214 := n0_; have HO219 := n1_; have HO224 := n2_; have HB := n3_; clear n0_ n1_ n2_ n3_; (try clear hb); (try clear hb2); (try clear hk); (try clear hi); (try clear ho0))); go_upto_region 14 with (first | (go_at_call 14; (with_reducible refine (word_Words.calls a0 t210 t211 t212 _ A13.out).mono ?_); rintro e w20 ⟨v213, rfl, ho0, hb⟩; have n0_ := Aside0.mk (Kd.R_lower ho0 (below_size (by repeat (first | (with_reducible first | exact HB.out | apply below_alloc | apply pw_below_drewN | apply below_drew1) | exact HB.out)))); have n1_ := Aside0.mk (below_step (by repeat (first | (with_reducible first | exact HB.out | apply below_alloc | apply pw_below_drewN | apply below_drew1) | exact HB.out)) hb); clear HB; have HO214 := n0_; have HB := n1_; clear n0_ n1_; (try clear hb); (try clear hb2); (try clear hk); (try clear hi); (try clear ho0)) | (go_at_call 14; (with_reducible refine (word_Words.calls ((a0 ++ (⟨#[32, 35, 32]⟩ : ByteArray)) ++ a1) t215 t216 t217 _ A16.out).mono ?_); rintro e w21 ⟨v218, rfl, ho0, hb⟩; have n0_ := Aside0.mk (Kd.R_elder' (by (with_reducible repeat (first | apply Kd.R_alloc | apply Kd.R_drewN | apply Kd.R_drew)); exact HO214.out) (Kd.R_base ho0) hb); have n1_ := Aside0.mk (Kd.R_lower (Kd.R_new' ho0 (Kd.R_lt (by (with_reducible repeat (first | apply Kd.R_alloc | apply Kd.R_drewN | apply Kd.R_drew)); exact HO214.out))) (below_size (by repeat (first | (with_reducible first | exact HB.out | apply below_alloc | apply pw_below_drewN | apply below_drew1) | exact HB.out)))); have n2_ := Aside0.mk (below_step (by repeat (first | (with_reducible first | exact HB.out | apply below_alloc | apply pw_below_drewN | apply below_drew1) | exact HB.out)) hb); clear HO214; clear HB; have HO214 := n0_; have HO219 := n1_; have HB := n2_; clear n0_ n1_ n2_; (try clear hb); (try clear hb2); (try clear hk); (try clear hi); (try clear ho0)) | (go_at_call 14; (with_reducible refine (word_Words.calls ((⟨#[9, 32, 13]⟩ : ByteArray) ++ a0) t220 t221 t222 _ A18.out).mono ?_); rintro e w22 ⟨v223, rfl, ho0, hb⟩; have n0_ := Aside0.mk (Kd.R_elder' (by (with_reducible repeat (first | apply Kd.R_alloc | apply Kd.R_drewN | apply Kd.R_drew)); exact HO214.out) (Kd.R_base ho0) hb); have n1_ := Aside0.mk (Kd.R_elder' (by (with_reducible repeat (first | apply Kd.R_alloc | apply Kd.R_drewN | apply Kd.R_drew)); exact HO219.out) (Kd.R_base ho0) hb); have n2_ := Aside0.mk (Kd.R_lower (Kd.R_new' (Kd.R_new' ho0 (Kd.R_lt (by (with_reducible repeat (first | apply Kd.R_alloc | apply Kd.R_drewN | apply Kd.R_drew)); exact HO214.out))) (Kd.R_lt (by (with_reducible repeat (first | apply Kd.R_alloc | apply Kd.R_drewN | apply Kd.R_drew)); exact HO219.out))) (below_size (by repeat (first | (with_reducible first | exact HB.out | apply below_alloc | apply pw_below_drewN | apply below_drew1) | exact HB.out)))); have n3_ := Aside0.mk (below_step (by repeat (first | (with_reducible first | exact HB.out | apply below_alloc | apply pw_below_drewN | apply below_drew1) | exact HB.out)) hb); clear HO214; clear HO219; clear HB; have HO214 := n0_; have HO219 := n1_; have HO224 := n2_; have HB := n3_; clear n0_ n1_ n2_ n3_; (try clear hb); (try clear hb2); (try clear hk); (try clear hi); (try clear ho0))))
                      (try simp only [Act.put, List.setIfInBounds_toArray, List.set_cons_zero, List.set_cons_succ])
                      go_cut [72] (fun v72 wc => ∃ (kq : Nat) (x72_18 : Bool), v72 = .bool x72_18 ∧ Aside0 (syntagmlaw08_WordsSpace.j2 kq true t210 t211 t215 t216 t220 t222 x72_18 = some r) ∧ Aside0 (kq ≤ k2) ∧ Aside0 (Kd.R k32 32 wc w.heap.size (fun k_ => some k_ ≠ (v218 : Value).ownBlock ∧ some k_ ≠ (v223 : Value).ownBlock) v213 t210) ∧ Aside0 (Kd.R k32 32 wc w.heap.size (fun k_ => some k_ ≠ (v213 : Value).ownBlock ∧ some k_ ≠ (v223 : Value).ownBlock) v218 t215) ∧ Aside0 (Kd.R k32 32 wc w.heap.size (fun k_ => some k_ ≠ (v213 : Value).ownBlock ∧ some k_ ≠ (v218 : Value).ownBlock) v223 t220) ∧ Aside0 (Below w.heap.size w wc))
                      case first =>
                        have H := HC19.out
                        clear HC19
                        by_cases c23 : (t220.length : Int) = (t210.length : Int)
                        · rw [if_pos c23] at H
                          have c23b0 : ((t220.length : Int) == (t210.length : Int)) = true := beq_iff_eq.mpr c23
                          have c23b1 : ((t220.length : Int) != (t210.length : Int)) = false := bne_eq_false_iff_eq.mpr c23
                          have c23b2 : (t220.length == t210.length) = true := by first | simpa using c23 | (simp at c23 ⊢; omega)
                          clear c23
                          (first | rw [c23b0] | (simp only [i64_w, i32_w]; rw [c23b0]) | skip)
                          have H' := Aside0.mk H
                          clear H
                          obtain ⟨Ao24, co24, eo24⟩ := Kd.R_slice HO224.out
                          subst eo24
                          obtain ⟨Ao25, co25, eo25⟩ := Kd.R_slice HO214.out
                          subst eo25
                          go_wp2
                          repeat (go_quiet (fail); try go_wp2)
                          go_meet
                          case rel => exact ⟨_, ((t211 != t221)), (by first | rfl | (simp; done) | (simp [*]; done)), H', ⟨by have := HJ4.out; have := HK2.out; first | omega | exact Nat.le_refl _⟩, ⟨by (with_reducible repeat (first | apply Kd.R_alloc | apply Kd.R_drewN | apply Kd.R_drew)); exact Kd.R_mono HO214.out (fun _ hk => ⟨hk.1.2, hk.2⟩)⟩, ⟨by (with_reducible repeat (first | apply Kd.R_alloc | apply Kd.R_drewN | apply Kd.R_drew)); exact Kd.R_mono HO219.out (fun _ hk => ⟨hk.1.2, hk.2⟩)⟩, ⟨by (with_reducible repeat (first | apply Kd.R_alloc | apply Kd.R_drewN | apply Kd.R_drew)); exact Kd.R_mono HO224.out (fun _ hk => ⟨hk.1.2, hk.2⟩)⟩, ⟨by repeat (first | (with_reducible first | exact HB.out | apply below_alloc | apply pw_below_drewN | apply below_drew1) | exact HB.out)⟩⟩
                        · rw [if_neg c23] at H
                          have c23b0 : ((t220.length : Int) == (t210.length : Int)) = false := beq_eq_false_iff_ne.mpr c23
                          have c23b1 : ((t220.length : Int) != (t210.length : Int)) = true := bne_iff_ne.mpr c23
                          have c23b2 : (t220.length == t210.length) = false := by first | simpa using c23 | (simp at c23 ⊢; omega)
                          (first | rw [c23b0] | (simp only [i64_w, i32_w]; rw [c23b0]) | skip)
                          have H' := Aside0.mk H
                          clear H
                          obtain ⟨Ao26, co26, eo26⟩ := Kd.R_slice HO224.out
                          subst eo26
                          obtain ⟨Ao27, co27, eo27⟩ := Kd.R_slice HO214.out
                          subst eo27
                          go_wp2
                          repeat (go_quiet (fail); try go_wp2)
                          go_meet
                          case rel => exact ⟨_, (true), (by first | rfl | (simp; done) | (simp [*]; done)), H', ⟨by have := HJ4.out; have := HK2.out; first | omega | exact Nat.le_refl _⟩, ⟨by (with_reducible repeat (first | apply Kd.R_alloc | apply Kd.R_drewN | apply Kd.R_drew)); exact Kd.R_mono HO214.out (fun _ hk => ⟨hk.1.2, hk.2⟩)⟩, ⟨by (with_reducible repeat (first | apply Kd.R_alloc | apply Kd.R_drewN | apply Kd.R_drew)); exact Kd.R_mono HO219.out (fun _ hk => ⟨hk.1.2, hk.2⟩)⟩, ⟨by (with_reducible repeat (first | apply Kd.R_alloc | apply Kd.R_drewN | apply Kd.R_drew)); exact Kd.R_mono HO224.out (fun _ hk => ⟨hk.1.2, hk.2⟩)⟩, ⟨by repeat (first | (with_reducible first | exact HB.out | apply below_alloc | apply pw_below_drewN | apply below_drew1) | exact HB.out)⟩⟩
                      case rest =>
                        clear HC19
                        try clear c1
                        try clear p1
                        try clear q1
                        try clear hx1
                        try clear c2
                        try clear p2
                        try clear c4
                        try clear p6
                        try clear c7
                        try clear c7b0
                        try clear c7b1
                        try clear c8
                        try clear c9
                        try clear c9b0
                        try clear c10
                        try clear c10b0
                        try clear p11
                        try clear q11
                        try clear hx11
                        try clear c12
                        try clear c12b0
                        try clear c12b1
                        try clear c14
                        try clear c14b0
                        try clear c14b1
                        try clear c14b2
                        try clear c15
                        try clear c15b0
                        try clear c15b1
                        try clear c15b2
                        try clear c17
                        try clear c17b0
                        try clear c17b1
                        try clear c17b2
                        try clear c23
                        try clear c23b0
                        try clear c23b1
                        try clear c23b2
                        try clear p11
                        try clear p2
                        try clear q11
                        obtain ⟨kq, x72_18, rfl, HA, HJ18, HO_7, HO_10, HO_13, HB⟩ := hcut
                        cases kq with
                        | zero => exact absurd HA.out (by simp [syntagmlaw08_WordsSpace.j2])
                        | succ kj18 =>
                          have H := HA.out
                          clear HA
                          simp only [syntagmlaw08_WordsSpace.j2] at H
                          by_cases c28 : x72_18 = true
                          · subst c28
                            have H1 : (some false) = some r := by rw [if_pos rfl] at H; exact H
                            clear H
                            have H := H1
                            clear H1
                            exact absurd ((Option.some.inj H).trans HT.out) (by decide)
                          · replace c28 := Bool.eq_false_iff.mpr c28
                            subst c28
                            have H1 : (syntagmlaw08_WordsSpace.l1 kj18 true t210 t211 t215 t216 t220 t222 0) = some r := by rw [if_neg (show ¬ (false = true) by decide)] at H; exact H
                            clear H
                            have H := H1
                            clear H1
                            have H' := Aside0.mk H
                            clear H
                            go_wp2
                            repeat (go_quiet (fail); try go_wp2)
                            go_loopg [16] kj18 (fun kq v16 w' => ∃ (x16_4 : Int), v16 = .int .i64 x16_4 ∧ Aside0 (syntagmlaw08_WordsSpace.l1 kq true t210 t211 t215 t216 t220 t222 x16_4 = some r) ∧ Aside0 (kq ≤ kj18) ∧ Aside0 (Kd.R k32 32 w' w.heap.size (fun k_ => some k_ ≠ (v218 : Value).ownBlock ∧ some k_ ≠ (v223 : Value).ownBlock) v213 t210) ∧ Aside0 (Kd.R k32 32 w' w.heap.size (fun k_ => some k_ ≠ (v213 : Value).ownBlock ∧ some k_ ≠ (v223 : Value).ownBlock) v218 t215) ∧ Aside0 (Kd.R k32 32 w' w.heap.size (fun k_ => some k_ ≠ (v213 : Value).ownBlock ∧ some k_ ≠ (v218 : Value).ownBlock) v223 t220) ∧ Aside0 (Below w.heap.size w w'))
                            case atStart => exact ⟨(0), (by first | rfl | (simp; done) | (simp [*]; done)), H', ⟨Nat.le_refl _⟩, ⟨by (with_reducible repeat (first | apply Kd.R_alloc | apply Kd.R_drewN | apply Kd.R_drew)); exact HO_7.out⟩, ⟨by (with_reducible repeat (first | apply Kd.R_alloc | apply Kd.R_drewN | apply Kd.R_drew)); exact HO_10.out⟩, ⟨by (with_reducible repeat (first | apply Kd.R_alloc | apply Kd.R_drewN | apply Kd.R_drew)); exact HO_13.out⟩, ⟨by repeat (first | (with_reducible first | exact HB.out | apply below_alloc | apply pw_below_drewN | apply below_drew1) | exact HB.out)⟩⟩
                            case round =>
                              clear H'
                              try clear c1
                              try clear p1
                              try clear q1
                              try clear hx1
                              try clear c2
                              try clear p2
                              try clear c4
                              try clear p6
                              try clear c7
                              try clear c7b0
                              try clear c7b1
                              try clear c8
                              try clear c9
                              try clear c9b0
                              try clear c10
                              try clear c10b0
                              try clear p11
                              try clear q11
                              try clear hx11
                              try clear c12
                              try clear c12b0
                              try clear c12b1
                              try clear c14
                              try clear c14b0
                              try clear c14b1
                              try clear c14b2
                              try clear c15
                              try clear c15b0
                              try clear c15b1
                              try clear c15b2
                              try clear c17
                              try clear c17b0
                              try clear c17b1
                              try clear c17b2
                              try clear c23
                              try clear c23b0
                              try clear c23b1
                              try clear c23b2
                              try clear c28
                              try clear p1
                              try clear p11
                              try clear p2
                              try clear p6
                              try clear q1
                              try clear q11
                              obtain ⟨x16_4, rfl, HA, HK4, HO_7, HO_10, HO_13, HB⟩ := hrel
                              cases gk with
                              | zero => exact absurd HA.out (by simp [syntagmlaw08_WordsSpace.l1])
                              | succ k4 =>
                                have H := HA.out
                                clear HA
                                simp only [syntagmlaw08_WordsSpace.l1] at H
                                by_cases c29 : x16_4 < (t210.length : Int)
                                · rw [if_pos c29] at H
                                  have c29b0 : decide (x16_4 < (t210.length : Int)) = true := decide_eq_true c29
                                  clear c29
                                  by_cases c30 : 0 ≤ x16_4
                                  · rw [if_pos c30] at H
                                    have c30b0 : decide (0 ≤ x16_4) = true := decide_eq_true c30
                                    clear c30
                                    by_cases c31 : x16_4 < (t220.length : Int)
                                    · rw [if_pos c31] at H
                                      have c31b0 : decide (x16_4 < (t220.length : Int)) = true := decide_eq_true c31
                                      clear c31
                                      by_cases c32 : ((rd_T32 t220 x16_4).f1).toList = ((rd_T32 t210 x16_4).f1).toList
                                      · rw [if_pos c32] at H
                                        have c32b0 : (((rd_T32 t220 x16_4).f1).toList == ((rd_T32 t210 x16_4).f1).toList) = true := beq_iff_eq.mpr c32
                                        have c32b1 : (((rd_T32 t220 x16_4).f1).toList != ((rd_T32 t210 x16_4).f1).toList) = false := bne_eq_false_iff_eq.mpr c32
                                        clear c32
                                        by_cases c33 : ((rd_T32 t220 x16_4).f0) = ((rd_T32 t210 x16_4).f0)
                                        · rw [if_pos c33] at H
                                          have c33b0 : (((rd_T32 t220 x16_4).f0) == ((rd_T32 t210 x16_4).f0)) = true := beq_iff_eq.mpr c33
                                          have c33b1 : (((rd_T32 t220 x16_4).f0) != ((rd_T32 t210 x16_4).f0)) = false := bne_eq_false_iff_eq.mpr c33
                                          clear c33
                                          by_cases c34 : ((rd_T32 t220 x16_4).f3) = (wrap64 (((rd_T32 t210 x16_4).f3) + 3))
                                          · rw [if_pos c34] at H
                                            have c34b0 : (((rd_T32 t220 x16_4).f3) == (wrap64 (((rd_T32 t210 x16_4).f3) + 3))) = true := beq_iff_eq.mpr c34
                                            have c34b1 : (((rd_T32 t220 x16_4).f3) != (wrap64 (((rd_T32 t210 x16_4).f3) + 3))) = false := bne_eq_false_iff_eq.mpr c34
                                            clear c34
                                            have H' := Aside0.mk H
                                            clear H
                                            obtain ⟨Ao35, co35, eo35⟩ := Kd.R_slice HO_7.out
                                            subst eo35
                                            obtain ⟨Ao36, co36, eo36⟩ := Kd.R_slice HO_13.out
                                            subst eo36
                                            have p225 : 0 ≤ (x16_4 : Int) := of_decide_eq_true (by first | (with_reducible assumption) | assumption)
                                            have q225 : x16_4 < (t220.length : Int) := of_decide_eq_true (by first | (with_reducible assumption) | assumption)
                                            obtain ⟨ad225, e225, hx225_0, hx225_1, hx225_2, hx225_3⟩ := at_T32 (Kd.R_reads' HO_13.out).2.2 x16_4 p225 q225
                                            cases e225
                                            replace p225 := eq_true p225
                                            replace q225 := eq_true q225
                                            have p226 : 0 ≤ (x16_4 : Int) := of_decide_eq_true (by first | (with_reducible assumption) | assumption)
                                            have q226 : x16_4 < (t210.length : Int) := of_decide_eq_true (by first | (with_reducible assumption) | assumption)
                                            obtain ⟨ad226, e226, hx226_0, hx226_1, hx226_2, hx226_3⟩ := at_T32 (Kd.R_reads' HO_7.out).2.2 x16_4 p226 q226
                                            cases e226
                                            replace p226 := eq_true p226
                                            replace q226 := eq_true q226
                                            have p227 : 0 ≤ (x16_4 : Int) := of_decide_eq_true (by first | (with_reducible assumption) | assumption)
                                            have q227 : x16_4 < (t220.length : Int) := of_decide_eq_true (by first | (with_reducible assumption) | assumption)
                                            obtain ⟨ad227, e227, hx227_0, hx227_1, hx227_2, hx227_3⟩ := at_T32 (Kd.R_reads' HO_13.out).2.2 x16_4 p227 q227
                                            obtain rfl : ad225 = ad227 := (by injection e227)
                                            replace p227 := eq_true p227
                                            replace q227 := eq_true q227
                                            have p228 : 0 ≤ (x16_4 : Int) := of_decide_eq_true (by first | (with_reducible assumption) | assumption)
                                            have q228 : x16_4 < (t210.length : Int) := of_decide_eq_true (by first | (with_reducible assumption) | assumption)
                                            obtain ⟨ad228, e228, hx228_0, hx228_1, hx228_2, hx228_3⟩ := at_T32 (Kd.R_reads' HO_7.out).2.2 x16_4 p228 q228
                                            obtain rfl : ad226 = ad228 := (by injection e228)
                                            replace p228 := eq_true p228
                                            replace q228 := eq_true q228
                                            have p229 : 0 ≤ (x16_4 : Int) := of_decide_eq_true (by first | (with_reducible assumption) | assumption)
                                            have q229 : x16_4 < (t220.length : Int) := of_decide_eq_true (by first | (with_reducible assumption) | assumption)
                                            obtain ⟨ad229, e229, hx229_0, hx229_1, hx229_2, hx229_3⟩ := at_T32 (Kd.R_reads' HO_13.out).2.2 x16_4 p229 q229
                                            obtain rfl : ad225 = ad229 := (by injection e229)
                                            replace p229 := eq_true p229
                                            replace q229 := eq_true q229
                                            have p230 : 0 ≤ (x16_4 : Int) := of_decide_eq_true (by first | (with_reducible assumption) | assumption)
                                            have q230 : x16_4 < (t210.length : Int) := of_decide_eq_true (by first | (with_reducible assumption) | assumption)
                                            obtain ⟨ad230, e230, hx230_0, hx230_1, hx230_2, hx230_3⟩ := at_T32 (Kd.R_reads' HO_7.out).2.2 x16_4 p230 q230
                                            obtain rfl : ad226 = ad230 := (by injection e230)
                                            replace p230 := eq_true p230
                                            replace q230 := eq_true q230
                                            go_wp2
                                            repeat (go_quiet (fail); try go_wp2)
                                            go_roundg k4
                                            case measure => have := HJ4.out; have := HK2.out; have := HJ18.out; have := HK4.out; omega
                                            case rel => exact ⟨(wrap64 (x16_4 + 1)), (by first | rfl | (simp; done) | (simp [*]; done)), H', ⟨by have := HJ4.out; have := HK2.out; have := HJ18.out; have := HK4.out; omega⟩, ⟨by (with_reducible repeat (first | apply Kd.R_alloc | apply Kd.R_drewN | apply Kd.R_drew)); exact HO_7.out⟩, ⟨by (with_reducible repeat (first | apply Kd.R_alloc | apply Kd.R_drewN | apply Kd.R_drew)); exact HO_10.out⟩, ⟨by (with_reducible repeat (first | apply Kd.R_alloc | apply Kd.R_drewN | apply Kd.R_drew)); exact HO_13.out⟩, ⟨by repeat (first | (with_reducible first | exact HB.out | apply below_alloc | apply pw_below_drewN | apply below_drew1) | exact HB.out)⟩⟩
                                          · rw [if_neg c34] at H
                                            have c34b0 : (((rd_T32 t220 x16_4).f3) == (wrap64 (((rd_T32 t210 x16_4).f3) + 3))) = false := beq_eq_false_iff_ne.mpr c34
                                            have c34b1 : (((rd_T32 t220 x16_4).f3) != (wrap64 (((rd_T32 t210 x16_4).f3) + 3))) = true := bne_iff_ne.mpr c34
                                            exact absurd ((Option.some.inj H).trans HT.out) (by decide)
                                        · rw [if_neg c33] at H
                                          have c33b0 : (((rd_T32 t220 x16_4).f0) == ((rd_T32 t210 x16_4).f0)) = false := beq_eq_false_iff_ne.mpr c33
                                          have c33b1 : (((rd_T32 t220 x16_4).f0) != ((rd_T32 t210 x16_4).f0)) = true := bne_iff_ne.mpr c33
                                          exact absurd ((Option.some.inj H).trans HT.out) (by decide)
                                      · rw [if_neg c32] at H
                                        have c32b0 : (((rd_T32 t220 x16_4).f1).toList == ((rd_T32 t210 x16_4).f1).toList) = false := beq_eq_false_iff_ne.mpr c32
                                        have c32b1 : (((rd_T32 t220 x16_4).f1).toList != ((rd_T32 t210 x16_4).f1).toList) = true := bne_iff_ne.mpr c32
                                        exact absurd ((Option.some.inj H).trans HT.out) (by decide)
                                    · rw [if_neg c31] at H
                                      exact absurd H (by simp)
                                  · rw [if_neg c30] at H
                                    exact absurd H (by simp)
                                · rw [if_neg c29] at H
                                  have c29b0 : decide (x16_4 < (t210.length : Int)) = false := decide_eq_false c29
                                  clear c29
                                  by_cases c37 : t211 = 0
                                  · rw [if_pos c37] at H
                                    have c37b0 : (t211 == 0) = true := beq_iff_eq.mpr c37
                                    have c37b1 : (t211 != 0) = false := bne_eq_false_iff_eq.mpr c37
                                    clear c37
                                    have HC38 := Aside0.mk H
                                    clear H
                                    obtain ⟨Ao39, co39, eo39⟩ := Kd.R_slice HO_7.out
                                    subst eo39
                                    go_upto_region 23 with (fail)
                                    repeat (go_quiet (fail); go_upto_region 23 with (fail))
                                    go_cut [132] (fun v132 wc => ∃ (kq : Nat) (x132_37 : Bool), v132 = .bool x132_37 ∧ Aside0 (syntagmlaw08_WordsSpace.j4 kq true t210 t215 x132_37 = some r) ∧ Aside0 (kq ≤ k4) ∧ Aside0 (Kd.R k32 32 wc w.heap.size (fun k_ => some k_ ≠ (v218 : Value).ownBlock) (.slice Ao39 t210.length co39) t210) ∧ Aside0 (Kd.R k32 32 wc w.heap.size (fun k_ => some k_ ≠ ((.slice Ao39 t210.length co39) : Value).ownBlock) v218 t215) ∧ Aside0 (Below w.heap.size w wc))
                                    case first =>
                                      have H := HC38.out
                                      clear HC38
                                      by_cases c40 : t216 = 0
                                      · rw [if_pos c40] at H
                                        have c40b0 : (t216 == 0) = true := beq_iff_eq.mpr c40
                                        have c40b1 : (t216 != 0) = false := bne_eq_false_iff_eq.mpr c40
                                        clear c40
                                        (first | rw [c40b0] | (simp only [i64_w, i32_w]; rw [c40b0]) | skip)
                                        have H' := Aside0.mk H
                                        clear H
                                        obtain ⟨Ao41, co41, eo41⟩ := Kd.R_slice HO_10.out
                                        subst eo41
                                        go_wp2
                                        repeat (go_quiet (fail); try go_wp2)
                                        go_meet
                                        case rel => exact ⟨_, (((t215.length : Int) != (t210.length : Int))), (by first | rfl | (simp; done) | (simp [*]; done)), H', ⟨by have := HJ4.out; have := HK2.out; have := HJ18.out; have := HK4.out; first | omega | exact Nat.le_refl _⟩, ⟨by (with_reducible repeat (first | apply Kd.R_alloc | apply Kd.R_drewN | apply Kd.R_drew)); exact Kd.R_mono HO_7.out (fun _ hk => hk.1)⟩, ⟨by (with_reducible repeat (first | apply Kd.R_alloc | apply Kd.R_drewN | apply Kd.R_drew)); exact Kd.R_mono HO_10.out (fun _ hk => hk.1)⟩, ⟨by repeat (first | (with_reducible first | exact HB.out | apply below_alloc | apply pw_below_drewN | apply below_drew1) | exact HB.out)⟩⟩
                                      · rw [if_neg c40] at H
                                        have c40b0 : (t216 == 0) = false := beq_eq_false_iff_ne.mpr c40
                                        have c40b1 : (t216 != 0) = true := bne_iff_ne.mpr c40
                                        (first | rw [c40b0] | (simp only [i64_w, i32_w]; rw [c40b0]) | skip)
                                        have H' := Aside0.mk H
                                        clear H
                                        go_wp2
                                        repeat (go_quiet (fail); try go_wp2)
                                        go_meet
                                        case rel => exact ⟨_, (true), (by first | rfl | (simp; done) | (simp [*]; done)), H', ⟨by have := HJ4.out; have := HK2.out; have := HJ18.out; have := HK4.out; first | omega | exact Nat.le_refl _⟩, ⟨by (with_reducible repeat (first | apply Kd.R_alloc | apply Kd.R_drewN | apply Kd.R_drew)); exact Kd.R_mono HO_7.out (fun _ hk => hk.1)⟩, ⟨by (with_reducible repeat (first | apply Kd.R_alloc | apply Kd.R_drewN | apply Kd.R_drew)); exact Kd.R_mono HO_10.out (fun _ hk => hk.1)⟩, ⟨by repeat (first | (with_reducible first | exact HB.out | apply below_alloc | apply pw_below_drewN | apply below_drew1) | exact HB.out)⟩⟩
                                    case rest =>
                                      clear HC38
                                      try clear c1
                                      try clear p1
                                      try clear q1
                                      try clear hx1
                                      try clear c2
                                      try clear p2
                                      try clear q2
                                      try clear hx2
                                      try clear c3
                                      try clear c4
                                      try clear p6
                                      try clear c7
                                      try clear c7b0
                                      try clear c7b1
                                      try clear c8
                                      try clear c9
                                      try clear c9b0
                                      try clear c10
                                      try clear c10b0
                                      try clear p11
                                      try clear q11
                                      try clear hx11
                                      try clear c12
                                      try clear c12b0
                                      try clear c12b1
                                      try clear c14
                                      try clear c14b0
                                      try clear c14b1
                                      try clear c14b2
                                      try clear c15
                                      try clear c15b0
                                      try clear c15b1
                                      try clear c15b2
                                      try clear c17
                                      try clear c17b0
                                      try clear c17b1
                                      try clear c17b2
                                      try clear p22
                                      try clear q22
                                      try clear hx22
                                      try clear c23
                                      try clear c23b0
                                      try clear c23b1
                                      try clear c23b2
                                      try clear p23
                                      try clear q23
                                      try clear hx23
                                      try clear c28
                                      try clear c29
                                      try clear c29b0
                                      try clear c30
                                      try clear c30b0
                                      try clear c31
                                      try clear c31b0
                                      try clear c32
                                      try clear c32b0
                                      try clear c32b1
                                      try clear c33
                                      try clear c33b0
                                      try clear c33b1
                                      try clear c34
                                      try clear c34b0
                                      try clear c34b1
                                      try clear c37
                                      try clear c37b0
                                      try clear c37b1
                                      try clear c40
                                      try clear c40b0
                                      try clear c40b1
                                      try clear hx225_0
                                      try clear hx225_1
                                      try clear hx225_2
                                      try clear hx225_3
                                      try clear hx226_0
                                      try clear hx226_1
                                      try clear hx226_2
                                      try clear hx226_3
                                      try clear hx227_0
                                      try clear hx227_1
                                      try clear hx227_2
                                      try clear hx227_3
                                      try clear hx228_0
                                      try clear hx228_1
                                      try clear hx228_2
                                      try clear hx228_3
                                      try clear hx229_0
                                      try clear hx229_1
                                      try clear hx229_2
                                      try clear hx229_3
                                      try clear hx230_0
                                      try clear hx230_1
                                      try clear hx230_2
                                      try clear hx230_3
                                      try clear p1
                                      try clear p11
                                      try clear p2
                                      try clear p225
                                      try clear p226
                                      try clear p227
                                      try clear p228
                                      try clear p229
                                      try clear p230
                                      try clear p6
                                      try clear q1
                                      try clear q11
                                      try clear q225
                                      try clear q226
                                      try clear q227
                                      try clear q228
                                      try clear q229
                                      try clear q230
                                      obtain ⟨kq, x132_37, rfl, HA, HJ37, HO_7, HO_10, HB⟩ := hcut
                                      cases kq with
                                      | zero => exact absurd HA.out (by simp [syntagmlaw08_WordsSpace.j4])
                                      | succ kj37 =>
                                        have H := HA.out
                                        clear HA
                                        simp only [syntagmlaw08_WordsSpace.j4] at H
                                        by_cases c42 : x132_37 = true
                                        · subst c42
                                          have H1 : (some false) = some r := by rw [if_pos rfl] at H; exact H
                                          clear H
                                          have H := H1
                                          clear H1
                                          exact absurd ((Option.some.inj H).trans HT.out) (by decide)
                                        · replace c42 := Bool.eq_false_iff.mpr c42
                                          subst c42
                                          have H1 : (syntagmlaw08_WordsSpace.l2 kj37 true t210 t215 0) = some r := by rw [if_neg (show ¬ (false = true) by decide)] at H; exact H
                                          clear H
                                          have H := H1
                                          clear H1
                                          have H' := Aside0.mk H
                                          clear H
                                          go_wp2
                                          repeat (go_quiet (fail); try go_wp2)
                                          go_loopg [17] kj37 (fun kq v17 w' => ∃ (x17_6 : Int), v17 = .int .i64 x17_6 ∧ Aside0 (syntagmlaw08_WordsSpace.l2 kq true t210 t215 x17_6 = some r) ∧ Aside0 (kq ≤ kj37) ∧ Aside0 (Kd.R k32 32 w' w.heap.size (fun k_ => some k_ ≠ (v218 : Value).ownBlock) (.slice Ao39 t210.length co39) t210) ∧ Aside0 (Kd.R k32 32 w' w.heap.size (fun k_ => some k_ ≠ ((.slice Ao39 t210.length co39) : Value).ownBlock) v218 t215) ∧ Aside0 (Below w.heap.size w w'))
                                          case atStart => exact ⟨(0), (by first | rfl | (simp; done) | (simp [*]; done)), H', ⟨Nat.le_refl _⟩, ⟨by (with_reducible repeat (first | apply Kd.R_alloc | apply Kd.R_drewN | apply Kd.R_drew)); exact HO_7.out⟩, ⟨by (with_reducible repeat (first | apply Kd.R_alloc | apply Kd.R_drewN | apply Kd.R_drew)); exact HO_10.out⟩, ⟨by repeat (first | (with_reducible first | exact HB.out | apply below_alloc | apply pw_below_drewN | apply below_drew1) | exact HB.out)⟩⟩
                                          case round =>
                                            clear H'
                                            try clear c1
                                            try clear p1
                                            try clear q1
                                            try clear hx1
                                            try clear c2
                                            try clear p2
                                            try clear q2
                                            try clear hx2
                                            try clear c3
                                            try clear c4
                                            try clear p6
                                            try clear c7
                                            try clear c7b0
                                            try clear c7b1
                                            try clear c8
                                            try clear c9
                                            try clear c9b0
                                            try clear c10
                                            try clear c10b0
                                            try clear p11
                                            try clear q11
                                            try clear hx11
                                            try clear c12
                                            try clear c12b0
                                            try clear c12b1
                                            try clear c14
                                            try clear c14b0
                                            try clear c14b1
                                            try clear c14b2
                                            try clear c15
                                            try clear c15b0
                                            try clear c15b1
                                            try clear c15b2
                                            try clear c17
                                            try clear c17b0
                                            try clear c17b1
                                            try clear c17b2
                                            try clear p22
                                            try clear q22
                                            try clear hx22
                                            try clear c23
                                            try clear c23b0
                                            try clear c23b1
                                            try clear c23b2
                                            try clear p23
                                            try clear q23
                                            try clear hx23
                                            try clear c28
                                            try clear c29
                                            try clear c29b0
                                            try clear c30
                                            try clear c30b0
                                            try clear c31
                                            try clear c31b0
                                            try clear c32
                                            try clear c32b0
                                            try clear c32b1
                                            try clear c33
                                            try clear c33b0
                                            try clear c33b1
                                            try clear c34
                                            try clear c34b0
                                            try clear c34b1
                                            try clear c37
                                            try clear c37b0
                                            try clear c37b1
                                            try clear c40
                                            try clear c40b0
                                            try clear c40b1
                                            try clear c42
                                            try clear hx225_0
                                            try clear hx225_1
                                            try clear hx225_2
                                            try clear hx225_3
                                            try clear hx226_0
                                            try clear hx226_1
                                            try clear hx226_2
                                            try clear hx226_3
                                            try clear hx227_0
                                            try clear hx227_1
                                            try clear hx227_2
                                            try clear hx227_3
                                            try clear hx228_0
                                            try clear hx228_1
                                            try clear hx228_2
                                            try clear hx228_3
                                            try clear hx229_0
                                            try clear hx229_1
                                            try clear hx229_2
                                            try clear hx229_3
                                            try clear hx230_0
                                            try clear hx230_1
                                            try clear hx230_2
                                            try clear hx230_3
                                            try clear p1
                                            try clear p11
                                            try clear p2
                                            try clear p22
                                            try clear p225
                                            try clear p226
                                            try clear p227
                                            try clear p228
                                            try clear p229
                                            try clear p23
                                            try clear p230
                                            try clear p6
                                            try clear q1
                                            try clear q11
                                            try clear q2
                                            try clear q22
                                            try clear q225
                                            try clear q226
                                            try clear q227
                                            try clear q228
                                            try clear q229
                                            try clear q23
                                            try clear q230
                                            obtain ⟨x17_6, rfl, HA, HK6, HO_7, HO_10, HB⟩ := hrel
                                            cases gk with
                                            | zero => exact absurd HA.out (by simp [syntagmlaw08_WordsSpace.l2])
                                            | succ k6 =>
                                              have H := HA.out
                                              clear HA
                                              simp only [syntagmlaw08_WordsSpace.l2] at H
                                              by_cases c43 : x17_6 < (t210.length : Int)
                                              · rw [if_pos c43] at H
                                                have c43b0 : decide (x17_6 < (t210.length : Int)) = true := decide_eq_true c43
                                                clear c43
                                                by_cases c44 : 0 ≤ x17_6
                                                · rw [if_pos c44] at H
                                                  have c44b0 : decide (0 ≤ x17_6) = true := decide_eq_true c44
                                                  clear c44
                                                  by_cases c45 : x17_6 < (t215.length : Int)
                                                  · rw [if_pos c45] at H
                                                    have c45b0 : decide (x17_6 < (t215.length : Int)) = true := decide_eq_true c45
                                                    clear c45
                                                    by_cases c46 : ((rd_T32 t215 x17_6).f1).toList = ((rd_T32 t210 x17_6).f1).toList
                                                    · rw [if_pos c46] at H
                                                      have c46b0 : (((rd_T32 t215 x17_6).f1).toList == ((rd_T32 t210 x17_6).f1).toList) = true := beq_iff_eq.mpr c46
                                                      have c46b1 : (((rd_T32 t215 x17_6).f1).toList != ((rd_T32 t210 x17_6).f1).toList) = false := bne_eq_false_iff_eq.mpr c46
                                                      clear c46
                                                      by_cases c47 : ((rd_T32 t215 x17_6).f0) = ((rd_T32 t210 x17_6).f0)
                                                      · rw [if_pos c47] at H
                                                        have c47b0 : (((rd_T32 t215 x17_6).f0) == ((rd_T32 t210 x17_6).f0)) = true := beq_iff_eq.mpr c47
                                                        have c47b1 : (((rd_T32 t215 x17_6).f0) != ((rd_T32 t210 x17_6).f0)) = false := bne_eq_false_iff_eq.mpr c47
                                                        clear c47
                                                        have H' := Aside0.mk H
                                                        clear H
                                                        obtain ⟨Ao48, co48, eo48⟩ := Kd.R_slice HO_10.out
                                                        subst eo48
                                                        have p231 : 0 ≤ (x17_6 : Int) := of_decide_eq_true (by first | (with_reducible assumption) | assumption)
                                                        have q231 : x17_6 < (t215.length : Int) := of_decide_eq_true (by first | (with_reducible assumption) | assumption)
                                                        obtain ⟨ad231, e231, hx231_0, hx231_1, hx231_2, hx231_3⟩ := at_T32 (Kd.R_reads' HO_10.out).2.2 x17_6 p231 q231
                                                        cases e231
                                                        replace p231 := eq_true p231
                                                        replace q231 := eq_true q231
                                                        have p232 : 0 ≤ (x17_6 : Int) := of_decide_eq_true (by first | (with_reducible assumption) | assumption)
                                                        have q232 : x17_6 < (t210.length : Int) := of_decide_eq_true (by first | (with_reducible assumption) | assumption)
                                                        obtain ⟨ad232, e232, hx232_0, hx232_1, hx232_2, hx232_3⟩ := at_T32 (Kd.R_reads' HO_7.out).2.2 x17_6 p232 q232
                                                        cases e232
                                                        replace p232 := eq_true p232
                                                        replace q232 := eq_true q232
                                                        have p233 : 0 ≤ (x17_6 : Int) := of_decide_eq_true (by first | (with_reducible assumption) | assumption)
                                                        have q233 : x17_6 < (t215.length : Int) := of_decide_eq_true (by first | (with_reducible assumption) | assumption)
                                                        obtain ⟨ad233, e233, hx233_0, hx233_1, hx233_2, hx233_3⟩ := at_T32 (Kd.R_reads' HO_10.out).2.2 x17_6 p233 q233
                                                        obtain rfl : ad231 = ad233 := (by injection e233)
                                                        replace p233 := eq_true p233
                                                        replace q233 := eq_true q233
                                                        have p234 : 0 ≤ (x17_6 : Int) := of_decide_eq_true (by first | (with_reducible assumption) | assumption)
                                                        have q234 : x17_6 < (t210.length : Int) := of_decide_eq_true (by first | (with_reducible assumption) | assumption)
                                                        obtain ⟨ad234, e234, hx234_0, hx234_1, hx234_2, hx234_3⟩ := at_T32 (Kd.R_reads' HO_7.out).2.2 x17_6 p234 q234
                                                        obtain rfl : ad232 = ad234 := (by injection e234)
                                                        replace p234 := eq_true p234
                                                        replace q234 := eq_true q234
                                                        go_wp2
                                                        repeat (go_quiet (fail); try go_wp2)
                                                        go_roundg k6
                                                        case measure => have := HJ4.out; have := HK2.out; have := HJ18.out; have := HK4.out; have := HJ37.out; have := HK6.out; omega
                                                        case rel => exact ⟨(wrap64 (x17_6 + 1)), (by first | rfl | (simp; done) | (simp [*]; done)), H', ⟨by have := HJ4.out; have := HK2.out; have := HJ18.out; have := HK4.out; have := HJ37.out; have := HK6.out; omega⟩, ⟨by (with_reducible repeat (first | apply Kd.R_alloc | apply Kd.R_drewN | apply Kd.R_drew)); exact HO_7.out⟩, ⟨by (with_reducible repeat (first | apply Kd.R_alloc | apply Kd.R_drewN | apply Kd.R_drew)); exact HO_10.out⟩, ⟨by repeat (first | (with_reducible first | exact HB.out | apply below_alloc | apply pw_below_drewN | apply below_drew1) | exact HB.out)⟩⟩
                                                      · rw [if_neg c47] at H
                                                        have c47b0 : (((rd_T32 t215 x17_6).f0) == ((rd_T32 t210 x17_6).f0)) = false := beq_eq_false_iff_ne.mpr c47
                                                        have c47b1 : (((rd_T32 t215 x17_6).f0) != ((rd_T32 t210 x17_6).f0)) = true := bne_iff_ne.mpr c47
                                                        exact absurd ((Option.some.inj H).trans HT.out) (by decide)
                                                    · rw [if_neg c46] at H
                                                      have c46b0 : (((rd_T32 t215 x17_6).f1).toList == ((rd_T32 t210 x17_6).f1).toList) = false := beq_eq_false_iff_ne.mpr c46
                                                      have c46b1 : (((rd_T32 t215 x17_6).f1).toList != ((rd_T32 t210 x17_6).f1).toList) = true := bne_iff_ne.mpr c46
                                                      exact absurd ((Option.some.inj H).trans HT.out) (by decide)
                                                  · rw [if_neg c45] at H
                                                    exact absurd H (by simp)
                                                · rw [if_neg c44] at H
                                                  exact absurd H (by simp)
                                              · rw [if_neg c43] at H
                                                have c43b0 : decide (x17_6 < (t210.length : Int)) = false := decide_eq_false c43
                                                clear c43
                                                obtain rfl := Option.some.inj H
                                                go_wp2
                                                repeat (go_quiet (fail); try go_wp2)
                                                go_ret
                                                exact ⟨by first | rfl | (simp [errW_none, errW_some] <;> rfl) | (simp [*, errW_none, errW_some] <;> rfl), by repeat (first | (with_reducible first | exact HB.out | apply below_alloc | apply pw_below_drewN | apply below_drew1) | exact HB.out)⟩
                                  · rw [if_neg c37] at H
                                    have c37b0 : (t211 == 0) = false := beq_eq_false_iff_ne.mpr c37
                                    have c37b1 : (t211 != 0) = true := bne_iff_ne.mpr c37
                                    replace H : (some (decide (t222 ≥ 3))) = some r := by first | (rw [if_pos rfl] at H; exact H) | (rw [if_pos trivial] at H; exact H)
                                    obtain rfl := Option.some.inj H
                                    obtain ⟨Ao49, co49, eo49⟩ := Kd.R_slice HO_7.out
                                    subst eo49
                                    go_wp2
                                    repeat (go_quiet (fail); try go_wp2)
                                    go_ret
                                    exact ⟨by first | rfl | (simp [errW_none, errW_some] <;> rfl) | (simp [*, errW_none, errW_some] <;> rfl), by repeat (first | (with_reducible first | exact HB.out | apply below_alloc | apply pw_below_drewN | apply below_drew1) | exact HB.out)⟩
                    · rw [if_neg c17] at H
                      exact absurd H (by simp)
                  · rw [if_neg c15] at H
                    exact absurd H (by simp)
                · rw [if_neg c14] at H
                  exact absurd H (by simp)
  · replace c4 := Bool.eq_false_iff.mpr c4
    subst c4
    have H1 : (some false) = some r := by rw [if_neg (show ¬ (false = true) by decide)] at H; exact H
    clear H
    have H := H1
    clear H1
    exact absurd ((Option.some.inj H).trans HT.out) (by decide)

end Go.Proofs.YtageaahlkiaigaaDoor.P
