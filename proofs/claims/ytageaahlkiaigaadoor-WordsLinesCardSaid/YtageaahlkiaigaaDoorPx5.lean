/- Functions of the given program as plain Lean functions, each with the proof that its call comes to that function's answer (conditions: the hypotheses of each '.calls'). Printed by wip/tools/pw.py, a wrapper round the kit's print. -/
import Derived.Test.YtageaahlkiaigaaDoorPx0
import Derived.Test.YtageaahlkiaigaaDoorWd9
namespace Go.Proofs.YtageaahlkiaigaaDoor.P
open Go.RowKit Go.Proofs.YtageaahlkiaigaaDoorW.PrintWords Go.Proofs.YtageaahlkiaigaaDoorW.PrintLast Go.Proofs.YtageaahlkiaigaaDoorW.PrintMore
attribute [local go_sem] max2_int min2_int max_two min_two max_three min_three max_four min_four   -- for this text's walks alone
set_option linter.unusedVariables false
set_option linter.unusedSimpArgs false

/-! ### utf8_ValidRune: function 41 -/
def utf8_ValidRune.j0 : Nat → Int → Bool → Option (Bool)
  | 0, _, _ => none
  | k + 1, x0, x3 => if x3 = true then (some true) else (if 57343 < x0 then (if x0 ≤ 1114111 then (some true) else (some false)) else (some false))
def utf8_ValidRune.f (k : Nat) (a0 : Int) : Option (Bool) := if 0 ≤ a0 then (utf8_ValidRune.j0 k a0 (decide (a0 < 55296))) else (utf8_ValidRune.j0 k a0 false)
theorem utf8_ValidRune.mono_l : ∀ k, (∀ y0 y1, LeO (utf8_ValidRune.j0 k y0 y1) (utf8_ValidRune.j0 (k + 1) y0 y1))
  | 0 => fun _ _ r h => by simp [utf8_ValidRune.j0] at h
  | k + 1 => by
    have ih0 := utf8_ValidRune.mono_l k
    · intro y0 y1
      unfold utf8_ValidRune.j0
      repeat' first
      | (with_reducible exact ih0 _ _)
      | (with_reducible exact LeO.refl _)
      | (with_reducible exact LeO.none _)
      | (with_reducible refine LeO.ite ?_ ?_)
      | (with_reducible refine LeO.bind ?_ (fun _ => ?_))
      | exact ih0 _ _
      | exact LeO.none _
      | refine LeO.ite ?_ ?_
      | refine LeO.bind ?_ (fun _ => ?_)
theorem utf8_ValidRune.mono : ∀ a0 k, LeO (utf8_ValidRune.f k a0) (utf8_ValidRune.f (k + 1) a0) := by
  intro a0 k
  have ih0 := utf8_ValidRune.mono_l k
  unfold utf8_ValidRune.f
  repeat' first
      | (with_reducible exact ih0 _ _)
      | (with_reducible exact LeO.refl _)
      | (with_reducible exact LeO.none _)
      | (with_reducible refine LeO.ite ?_ ?_)
      | (with_reducible refine LeO.bind ?_ (fun _ => ?_))
      | exact ih0 _ _
      | exact LeO.none _
      | refine LeO.ite ?_ ?_
      | refine LeO.bind ?_ (fun _ => ?_)
set_option maxHeartbeats 8000000 in
set_option maxRecDepth 100000 in
theorem utf8_ValidRune.calls (k : Nat) (a0 : Int) (r : Bool) (w : World) (h : utf8_ValidRune.f k a0 = some r) :
    Calls Tryd.prog 41 #[.int .i32 a0] w fun e w' => e = .returned (.bool r) ∧ Drawn0 w w' := by
  have H : (if 0 ≤ a0 then (utf8_ValidRune.j0 k a0 (decide (a0 < 55296))) else (utf8_ValidRune.j0 k a0 false)) = some r := h
  clear h
  have HC2 := Aside0.mk H
  clear H
  go_enter Tryd.func41, Tryd.ntmps41
  go_upto_region 1 with (fail)
  go_cut [3] (fun v3 wc => ∃ (kq : Nat) (x3_1 : Bool), v3 = .bool x3_1 ∧ Aside0 (utf8_ValidRune.j0 kq a0 x3_1 = some r) ∧ Aside0 (kq ≤ k) ∧ Drawn0 w wc)
  case first =>
    have H := HC2.out
    clear HC2
    by_cases c3 : 0 ≤ a0
    · rw [if_pos c3] at H
      have c3b0 : decide (0 ≤ a0) = true := decide_eq_true c3
      clear c3
      (first | rw [c3b0] | (simp only [i64_w, i32_w]; rw [c3b0]) | skip)
      have H' := Aside0.mk H
      clear H
      go_wp2
      go_meet
      case rel => exact ⟨_, (decide (a0 < 55296)), (by first | rfl | (simp; done) | (simp [*]; done)), H', ⟨by first | omega | exact Nat.le_refl _⟩, by repeat (first | exact Drawn0.refl _ | apply Drawn0.step)⟩
    · rw [if_neg c3] at H
      have c3b0 : decide (0 ≤ a0) = false := decide_eq_false c3
      clear c3
      (first | rw [c3b0] | (simp only [i64_w, i32_w]; rw [c3b0]) | skip)
      have H' := Aside0.mk H
      clear H
      go_wp2
      go_meet
      case rel => exact ⟨_, (false), (by first | rfl | (simp; done) | (simp [*]; done)), H', ⟨by first | omega | exact Nat.le_refl _⟩, by repeat (first | exact Drawn0.refl _ | apply Drawn0.step)⟩
  case rest =>
    clear HC2
    try clear p2
    try clear c3
    try clear c3b0
    obtain ⟨kq, x3_1, rfl, HA, HJ1, ⟨mc1, rfl⟩⟩ := hcut
    cases kq with
    | zero => exact absurd HA.out (by simp [utf8_ValidRune.j0])
    | succ kj1 =>
      have H := HA.out
      clear HA
      simp only [utf8_ValidRune.j0] at H
      by_cases c4 : x3_1 = true
      · subst c4
        have H1 : (some true) = some r := by rw [if_pos rfl] at H; exact H
        clear H
        have H := H1
        clear H1
        obtain rfl := Option.some.inj H
        go_wp2
        go_ret
        exact ⟨by first | rfl | (simp; done) | (simp [*]; done), by repeat (first | exact Drawn0.refl _ | apply Drawn0.step)⟩
      · replace c4 := Bool.eq_false_iff.mpr c4
        subst c4
        have H1 : (if 57343 < a0 then (if a0 ≤ 1114111 then (some true) else (some false)) else (some false)) = some r := by rw [if_neg (show ¬ (false = true) by decide)] at H; exact H
        clear H
        have H := H1
        clear H1
        by_cases c5 : 57343 < a0
        · rw [if_pos c5] at H
          have c5b0 : decide (57343 < a0) = true := decide_eq_true c5
          clear c5
          by_cases c6 : a0 ≤ 1114111
          · rw [if_pos c6] at H
            have c6b0 : decide (a0 ≤ 1114111) = true := decide_eq_true c6
            clear c6
            obtain rfl := Option.some.inj H
            go_wp2
            go_ret
            exact ⟨by first | rfl | (simp; done) | (simp [*]; done), by repeat (first | exact Drawn0.refl _ | apply Drawn0.step)⟩
          · rw [if_neg c6] at H
            have c6b0 : decide (a0 ≤ 1114111) = false := decide_eq_false c6
            clear c6
            obtain rfl := Option.some.inj H
            go_wp2
            go_ret
            exact ⟨by first | rfl | (simp; done) | (simp [*]; done), by repeat (first | exact Drawn0.refl _ | apply Drawn0.step)⟩
        · rw [if_neg c5] at H
          have c5b0 : decide (57343 < a0) = false := decide_eq_false c5
          clear c5
          obtain rfl := Option.some.inj H
          go_wp2
          go_ret
          exact ⟨by first | rfl | (simp; done) | (simp [*]; done), by repeat (first | exact Drawn0.refl _ | apply Drawn0.step)⟩

/-! ### bytealg_Cutover: function 42 -/
def bytealg_Cutover.f (a0 : Int) : Option (Int) := some (wrap64 (Int.tdiv (wrap64 (a0 + 16)) 8))
set_option maxHeartbeats 8000000 in
set_option maxRecDepth 100000 in
theorem bytealg_Cutover.calls (a0 : Int) (r : Int) (w : World) (h : bytealg_Cutover.f a0 = some r) :
    Calls Tryd.prog 42 #[.int .i64 a0] w fun e w' => e = .returned (.int .i64 r) ∧ Drawn0 w w' := by
  have H : (some (wrap64 (Int.tdiv (wrap64 (a0 + 16)) 8))) = some r := h
  clear h
  obtain rfl := Option.some.inj H
  go_enter Tryd.func42, Tryd.ntmps42
  go_wp2
  go_ret
  exact ⟨by first | rfl | (simp; done) | (simp [*]; done), by repeat (first | exact Drawn0.refl _ | apply Drawn0.step)⟩

-- NOT PRINTED: function 43 (bytealg_IndexString)

-- NOT PRINTED: function 34 (strings_IndexRune)

-- NOT PRINTED: function 29 (strings_ContainsRune)

-- NOT PRINTED: function 30 (word_regex)

-- NOT PRINTED: function 21 (word_reader_word)

/-! ### syntagmlaw08_works: function 9 -/
def syntagmlaw08_works.f  : Option (Bool) := (word_Words.f (⟨#[116, 101, 114, 109, 32, 105, 102, 32, 47, 105, 102, 47, 32, 35, 32, 97, 32, 119, 111, 114, 100]⟩ : ByteArray)).bind fun bt138 => ((word_Quote.f (⟨#[97, 47, 98]⟩ : ByteArray)).bind fun bt143 => (if bt138.2.1 = 0 then (if (bt138.1.length : Int) = 4 then (if 0 < (bt138.1.length : Int) then (if ((rd_T32 bt138.1 0).f0) = 0 then (if 1 < (bt138.1.length : Int) then (if ((rd_T32 bt138.1 1).f1).toList = ([105, 102] : List UInt8) then (if 2 < (bt138.1.length : Int) then (if ((rd_T32 bt138.1 2).f0) = 3 then (if ((rd_T32 bt138.1 2).f1).toList = ([105, 102] : List UInt8) then (if 3 < (bt138.1.length : Int) then (if ((rd_T32 bt138.1 3).f0) = 4 then ((word_IsName.f (⟨#[97, 95, 49]⟩ : ByteArray)).bind fun t150 => (if t150 = true then ((word_IsName.f (⟨#[49, 97]⟩ : ByteArray)).bind fun t151 => (if t151 = true then (some false) else (if bt143.1.toList = ([47, 97, 92, 47, 98, 47] : List UInt8) then (some bt143.2) else (some false)))) else (some false))) else (some false)) else (none)) else (some false)) else (some false)) else (none)) else (some false)) else (none)) else (some false)) else (none)) else (some false)) else (some false)))
set_option maxHeartbeats 8000000 in
set_option maxRecDepth 100000 in
theorem syntagmlaw08_works.calls  (r : Bool) (w : World) (hT : r = true) (h : syntagmlaw08_works.f  = some r) :
    Calls Tryd.prog 9 #[] w fun e w' => e = .returned (.bool r) ∧ Below w.heap.size w w' := by
  have HT := Aside0.mk hT
  clear hT
  have HB := Aside0.mk (Below.refl w.heap.size w)
  have H : ((word_Words.f (⟨#[116, 101, 114, 109, 32, 105, 102, 32, 47, 105, 102, 47, 32, 35, 32, 97, 32, 119, 111, 114, 100]⟩ : ByteArray)).bind fun bt138 => ((word_Quote.f (⟨#[97, 47, 98]⟩ : ByteArray)).bind fun bt143 => (if bt138.2.1 = 0 then (if (bt138.1.length : Int) = 4 then (if 0 < (bt138.1.length : Int) then (if ((rd_T32 bt138.1 0).f0) = 0 then (if 1 < (bt138.1.length : Int) then (if ((rd_T32 bt138.1 1).f1).toList = ([105, 102] : List UInt8) then (if 2 < (bt138.1.length : Int) then (if ((rd_T32 bt138.1 2).f0) = 3 then (if ((rd_T32 bt138.1 2).f1).toList = ([105, 102] : List UInt8) then (if 3 < (bt138.1.length : Int) then (if ((rd_T32 bt138.1 3).f0) = 4 then ((word_IsName.f (⟨#[97, 95, 49]⟩ : ByteArray)).bind fun t150 => (if t150 = true then ((word_IsName.f (⟨#[49, 97]⟩ : ByteArray)).bind fun t151 => (if t151 = true then (some false) else (if bt143.1.toList = ([47, 97, 92, 47, 98, 47] : List UInt8) then (some bt143.2) else (some false)))) else (some false))) else (some false)) else (none)) else (some false)) else (some false)) else (none)) else (some false)) else (none)) else (some false)) else (none)) else (some false)) else (some false)))) = some r := h
  clear h
  replace H := Option.bind_eq_some_iff.mp H
  obtain ⟨⟨t138, t139, t140⟩, A10, H⟩ := H
  replace H : ((word_Quote.f (⟨#[97, 47, 98]⟩ : ByteArray)).bind fun bt143 => (if t139 = 0 then (if (t138.length : Int) = 4 then (if 0 < (t138.length : Int) then (if ((rd_T32 t138 0).f0) = 0 then (if 1 < (t138.length : Int) then (if ((rd_T32 t138 1).f1).toList = ([105, 102] : List UInt8) then (if 2 < (t138.length : Int) then (if ((rd_T32 t138 2).f0) = 3 then (if ((rd_T32 t138 2).f1).toList = ([105, 102] : List UInt8) then (if 3 < (t138.length : Int) then (if ((rd_T32 t138 3).f0) = 4 then ((word_IsName.f (⟨#[97, 95, 49]⟩ : ByteArray)).bind fun t150 => (if t150 = true then ((word_IsName.f (⟨#[49, 97]⟩ : ByteArray)).bind fun t151 => (if t151 = true then (some false) else (if bt143.1.toList = ([47, 97, 92, 47, 98, 47] : List UInt8) then (some bt143.2) else (some false)))) else (some false))) else (some false)) else (none)) else (some false)) else (some false)) else (none)) else (some false)) else (none)) else (some false)) else (none)) else (some false)) else (some false))) = some r := H
  have A1 := Aside0.mk A10
  clear A10
  replace H := Option.bind_eq_some_iff.mp H
  obtain ⟨⟨t143, t144⟩, A20, H⟩ := H
  replace H : (if t139 = 0 then (if (t138.length : Int) = 4 then (if 0 < (t138.length : Int) then (if ((rd_T32 t138 0).f0) = 0 then (if 1 < (t138.length : Int) then (if ((rd_T32 t138 1).f1).toList = ([105, 102] : List UInt8) then (if 2 < (t138.length : Int) then (if ((rd_T32 t138 2).f0) = 3 then (if ((rd_T32 t138 2).f1).toList = ([105, 102] : List UInt8) then (if 3 < (t138.length : Int) then (if ((rd_T32 t138 3).f0) = 4 then ((word_IsName.f (⟨#[97, 95, 49]⟩ : ByteArray)).bind fun t150 => (if t150 = true then ((word_IsName.f (⟨#[49, 97]⟩ : ByteArray)).bind fun t151 => (if t151 = true then (some false) else (if t143.toList = ([47, 97, 92, 47, 98, 47] : List UInt8) then (some t144) else (some false)))) else (some false))) else (some false)) else (none)) else (some false)) else (some false)) else (none)) else (some false)) else (none)) else (some false)) else (none)) else (some false)) else (some false)) = some r := H
  have A2 := Aside0.mk A20
  clear A20
  by_cases c3 : t139 = 0
  · rw [if_pos c3] at H
    have c3b0 : (t139 == 0) = true := beq_iff_eq.mpr c3
    have c3b1 : (t139 != 0) = false := bne_eq_false_iff_eq.mpr c3
    clear c3
    by_cases c4 : (t138.length : Int) = 4
    · rw [if_pos c4] at H
      have c4b0 : ((t138.length : Int) == 4) = true := beq_iff_eq.mpr c4
      have c4b1 : ((t138.length : Int) != 4) = false := bne_eq_false_iff_eq.mpr c4
      clear c4
      by_cases c5 : 0 < (t138.length : Int)
      · rw [if_pos c5] at H
        have c5b0 : decide (0 < (t138.length : Int)) = true := decide_eq_true c5
        have c5b1 : decide (0 < t138.length) = true := decide_eq_true (by omega)
        clear c5
        by_cases c6 : ((rd_T32 t138 0).f0) = 0
        · rw [if_pos c6] at H
          have c6b0 : (((rd_T32 t138 0).f0) == 0) = true := beq_iff_eq.mpr c6
          have c6b1 : (((rd_T32 t138 0).f0) != 0) = false := bne_eq_false_iff_eq.mpr c6
          clear c6
          by_cases c7 : 1 < (t138.length : Int)
          · rw [if_pos c7] at H
            have c7b0 : decide (1 < (t138.length : Int)) = true := decide_eq_true c7
            have c7b1 : decide (1 < t138.length) = true := decide_eq_true (by omega)
            clear c7
            by_cases c8 : ((rd_T32 t138 1).f1).toList = ([105, 102] : List UInt8)
            · rw [if_pos c8] at H
              have c8b0 : (((rd_T32 t138 1).f1).toList == ([105, 102] : List UInt8)) = true := beq_iff_eq.mpr c8
              have c8b1 : (((rd_T32 t138 1).f1).toList != ([105, 102] : List UInt8)) = false := bne_eq_false_iff_eq.mpr c8
              clear c8
              by_cases c9 : 2 < (t138.length : Int)
              · rw [if_pos c9] at H
                have c9b0 : decide (2 < (t138.length : Int)) = true := decide_eq_true c9
                have c9b1 : decide (2 < t138.length) = true := decide_eq_true (by omega)
                clear c9
                by_cases c10 : ((rd_T32 t138 2).f0) = 3
                · rw [if_pos c10] at H
                  have c10b0 : (((rd_T32 t138 2).f0) == 3) = true := beq_iff_eq.mpr c10
                  have c10b1 : (((rd_T32 t138 2).f0) != 3) = false := bne_eq_false_iff_eq.mpr c10
                  clear c10
                  by_cases c11 : ((rd_T32 t138 2).f1).toList = ([105, 102] : List UInt8)
                  · rw [if_pos c11] at H
                    have c11b0 : (((rd_T32 t138 2).f1).toList == ([105, 102] : List UInt8)) = true := beq_iff_eq.mpr c11
                    have c11b1 : (((rd_T32 t138 2).f1).toList != ([105, 102] : List UInt8)) = false := bne_eq_false_iff_eq.mpr c11
                    clear c11
                    by_cases c12 : 3 < (t138.length : Int)
                    · rw [if_pos c12] at H
                      have c12b0 : decide (3 < (t138.length : Int)) = true := decide_eq_true c12
                      have c12b1 : decide (3 < t138.length) = true := decide_eq_true (by omega)
                      clear c12
                      by_cases c13 : ((rd_T32 t138 3).f0) = 4
                      · rw [if_pos c13] at H
                        have c13b0 : (((rd_T32 t138 3).f0) == 4) = true := beq_iff_eq.mpr c13
                        have c13b1 : (((rd_T32 t138 3).f0) != 4) = false := bne_eq_false_iff_eq.mpr c13
                        clear c13
                        replace H := Option.bind_eq_some_iff.mp H
                        obtain ⟨t150, A140, H⟩ := H
                        replace H : (if t150 = true then ((word_IsName.f (⟨#[49, 97]⟩ : ByteArray)).bind fun t151 => (if t151 = true then (some false) else (if t143.toList = ([47, 97, 92, 47, 98, 47] : List UInt8) then (some t144) else (some false)))) else (some false)) = some r := H
                        have A14 := Aside0.mk A140
                        clear A140
                        by_cases c15 : t150 = true
                        · subst c15
                          have H1 : ((word_IsName.f (⟨#[49, 97]⟩ : ByteArray)).bind fun t151 => (if t151 = true then (some false) else (if t143.toList = ([47, 97, 92, 47, 98, 47] : List UInt8) then (some t144) else (some false)))) = some r := by rw [if_pos rfl] at H; exact H
                          clear H
                          have H := H1
                          clear H1
                          replace H := Option.bind_eq_some_iff.mp H
                          obtain ⟨t151, A160, H⟩ := H
                          replace H : (if t151 = true then (some false) else (if t143.toList = ([47, 97, 92, 47, 98, 47] : List UInt8) then (some t144) else (some false))) = some r := H
                          have A16 := Aside0.mk A160
                          clear A160
                          by_cases c17 : t151 = true
                          · subst c17
                            have H1 : (some false) = some r := by rw [if_pos rfl] at H; exact H
                            clear H
                            have H := H1
                            clear H1
                            exact absurd ((Option.some.inj H).trans HT.out) (by decide)
                          · replace c17 := Bool.eq_false_iff.mpr c17
                            subst c17
                            have H1 : (if t143.toList = ([47, 97, 92, 47, 98, 47] : List UInt8) then (some t144) else (some false)) = some r := by rw [if_neg (show ¬ (false = true) by decide)] at H; exact H
                            clear H
                            have H := H1
                            clear H1
                            by_cases c18 : t143.toList = ([47, 97, 92, 47, 98, 47] : List UInt8)
                            · rw [if_pos c18] at H
                              have c18b0 : (t143.toList == ([47, 97, 92, 47, 98, 47] : List UInt8)) = true := beq_iff_eq.mpr c18
                              have c18b1 : (t143.toList != ([47, 97, 92, 47, 98, 47] : List UInt8)) = false := bne_eq_false_iff_eq.mpr c18
                              clear c18
                              obtain rfl := Option.some.inj H
                              go_enter Tryd.func9, Tryd.ntmps9
                              go_wp2_with (first | ((with_reducible refine gate_callee (f := 14) rfl ?_); refine goesL_ (some 7) rfl rfl Tryd.func14 (by kernel_rfl) rfl #[.string (⟨#[116, 101, 114, 109, 32, 105, 102, 32, 47, 105, 102, 47, 32, 35, 32, 97, 32, 119, 111, 114, 100]⟩ : ByteArray)] rfl (by (try simp only [List.map_toArray, List.map_cons, List.map_nil]); first | done | rfl | (simp only [List.length_drop, List.length_take]; rfl)) ?_; (with_reducible refine (word_Words.calls (⟨#[116, 101, 114, 109, 32, 105, 102, 32, 47, 105, 102, 47, 32, 35, 32, 97, 32, 119, 111, 114, 100]⟩ : ByteArray) t138 t139 t140 _ A1.out).mono ?_); rintro e w19 ⟨v141, rfl, ho0, hb⟩; refine ⟨_, rfl, ?_⟩; have n0_ := Aside0.mk (Kd.R_lower ho0 (below_size (by repeat (first | (with_reducible first | exact HB.out | apply below_alloc | apply pw_below_drewN | apply below_drew1) | exact HB.out)))); have n1_ := Aside0.mk (below_step (by repeat (first | (with_reducible first | exact HB.out | apply below_alloc | apply pw_below_drewN | apply below_drew1) | exact HB.out)) hb); clear HB; have HO142 := n0_; have HB := n1_; clear n0_ n1_; (try clear hb); (try clear hb2); (try clear hk); (try clear hi); (try clear ho0)) | ((with_reducible refine gate_callee (f := 10) rfl ?_); refine goesL_ (some 12) rfl rfl Tryd.func10 (by kernel_rfl) rfl #[.string (⟨#[97, 47, 98]⟩ : ByteArray)] rfl (by (try simp only [List.map_toArray, List.map_cons, List.map_nil]); first | done | rfl | (simp only [List.length_drop, List.length_take]; rfl)) ?_; (with_reducible refine (word_Quote.calls (⟨#[97, 47, 98]⟩ : ByteArray) t143 t144 _ A2.out).mono ?_); rintro e w20 ⟨rfl, hb⟩; refine ⟨_, rfl, ?_⟩; have n0_ := Aside0.mk (Kd.R_below (by (with_reducible repeat (first | apply Kd.R_alloc | apply Kd.R_drewN | apply Kd.R_drew)); exact HO142.out) hb); have n1_ := Aside0.mk (below_step (by repeat (first | (with_reducible first | exact HB.out | apply below_alloc | apply pw_below_drewN | apply below_drew1) | exact HB.out)) hb); clear HO142; clear HB; have HO142 := n0_; have HB := n1_; clear n0_ n1_; (try clear hb); (try clear hb2); (try clear hk); (try clear hi); obtain ⟨Ao21, co21, eo21⟩ := Kd.R_slice HO142.out; subst eo21; have p145 : 0 ≤ (0 : Int) := (by omega); have q145 : 0 < (t138.length : Int) := of_decide_eq_true (by first | (with_reducible assumption) | assumption); obtain ⟨ad145, e145, hx145_0, hx145_1, hx145_2, hx145_3⟩ := at_T32 (Kd.R_reads' HO142.out).2.2 0 p145 q145; cases e145; have qi145 : (0 < t138.length) = True := eq_true (by omega); (try rw [show ((0 : Int)).toNat = 0 from rfl] at hx145_0); (try rw [show 0 * 4 = 0 from rfl] at hx145_0); (try rw [Addr.add_zero'] at hx145_0); (try rw [show ((0 : Int)).toNat = 0 from rfl] at hx145_1); (try rw [show 0 * 4 = 0 from rfl] at hx145_1); (try rw [Addr.add_zero'] at hx145_1); (try rw [show ((0 : Int)).toNat = 0 from rfl] at hx145_2); (try rw [show 0 * 4 = 0 from rfl] at hx145_2); (try rw [Addr.add_zero'] at hx145_2); (try rw [show ((0 : Int)).toNat = 0 from rfl] at hx145_3); (try rw [show 0 * 4 = 0 from rfl] at hx145_3); (try rw [Addr.add_zero'] at hx145_3); replace p145 := eq_true p145; replace q145 := eq_true q145; have p146 : 0 ≤ (1 : Int) := (by omega); have q146 : 1 < (t138.length : Int) := of_decide_eq_true (by first | (with_reducible assumption) | assumption); obtain ⟨ad146, e146, hx146_0, hx146_1, hx146_2, hx146_3⟩ := at_T32 (Kd.R_reads' HO142.out).2.2 1 p146 q146; obtain rfl : ad145 = ad146 := (by injection e146); (try simp only [show (1 : Int).toNat = 1 from rfl, Nat.reduceMul, Nat.reduceEqDiff, Go.Addr.add, ↓reduceIte] at hx146_0); (try simp only [show (1 : Int).toNat = 1 from rfl, Nat.reduceMul, Nat.reduceEqDiff, Go.Addr.add, ↓reduceIte] at hx146_1); (try simp only [show (1 : Int).toNat = 1 from rfl, Nat.reduceMul, Nat.reduceEqDiff, Go.Addr.add, ↓reduceIte] at hx146_2); (try simp only [show (1 : Int).toNat = 1 from rfl, Nat.reduceMul, Nat.reduceEqDiff, Go.Addr.add, ↓reduceIte] at hx146_3); have qi146 : (1 < t138.length) = True := eq_true (by omega); (try rw [show ((1 : Int)).toNat = 1 from rfl] at hx146_0); (try rw [show 1 * 4 = 4 from rfl] at hx146_0); (try rw [show ((1 : Int)).toNat = 1 from rfl] at hx146_1); (try rw [show 1 * 4 = 4 from rfl] at hx146_1); (try rw [show ((1 : Int)).toNat = 1 from rfl] at hx146_2); (try rw [show 1 * 4 = 4 from rfl] at hx146_2); (try rw [show ((1 : Int)).toNat = 1 from rfl] at hx146_3); (try rw [show 1 * 4 = 4 from rfl] at hx146_3); replace p146 := eq_true p146; replace q146 := eq_true q146; have p147 : 0 ≤ (2 : Int) := (by omega); have q147 : 2 < (t138.length : Int) := of_decide_eq_true (by first | (with_reducible assumption) | assumption); obtain ⟨ad147, e147, hx147_0, hx147_1, hx147_2, hx147_3⟩ := at_T32 (Kd.R_reads' HO142.out).2.2 2 p147 q147; obtain rfl : ad145 = ad147 := (by injection e147); (try simp only [show (2 : Int).toNat = 2 from rfl, Nat.reduceMul, Nat.reduceEqDiff, Go.Addr.add, ↓reduceIte] at hx147_0); (try simp only [show (2 : Int).toNat = 2 from rfl, Nat.reduceMul, Nat.reduceEqDiff, Go.Addr.add, ↓reduceIte] at hx147_1); (try simp only [show (2 : Int).toNat = 2 from rfl, Nat.reduceMul, Nat.reduceEqDiff, Go.Addr.add, ↓reduceIte] at hx147_2); (try simp only [show (2 : Int).toNat = 2 from rfl, Nat.reduceMul, Nat.reduceEqDiff, Go.Addr.add, ↓reduceIte] at hx147_3); have qi147 : (2 < t138.length) = True := eq_true (by omega); (try rw [show ((2 : Int)).toNat = 2 from rfl] at hx147_0); (try rw [show 2 * 4 = 8 from rfl] at hx147_0); (try rw [show ((2 : Int)).toNat = 2 from rfl] at hx147_1); (try rw [show 2 * 4 = 8 from rfl] at hx147_1); (try rw [show ((2 : Int)).toNat = 2 from rfl] at hx147_2); (try rw [show 2 * 4 = 8 from rfl] at hx147_2); (try rw [show ((2 : Int)).toNat = 2 from rfl] at hx147_3); (try rw [show 2 * 4 = 8 from rfl] at hx147_3); replace p147 := eq_true p147; replace q147 := eq_true q147; have p148 : 0 ≤ (2 : Int) := (by omega); have q148 : 2 < (t138.length : Int) := of_decide_eq_true (by first | (with_reducible assumption) | assumption); obtain ⟨ad148, e148, hx148_0, hx148_1, hx148_2, hx148_3⟩ := at_T32 (Kd.R_reads' HO142.out).2.2 2 p148 q148; obtain rfl : ad145 = ad148 := (by injection e148); (try simp only [show (2 : Int).toNat = 2 from rfl, Nat.reduceMul, Nat.reduceEqDiff, Go.Addr.add, ↓reduceIte] at hx148_0); (try simp only [show (2 : Int).toNat = 2 from rfl, Nat.reduceMul, Nat.reduceEqDiff, Go.Addr.add, ↓reduceIte] at hx148_1); (try simp only [show (2 : Int).toNat = 2 from rfl, Nat.reduceMul, Nat.reduceEqDiff, Go.Addr.add, ↓reduceIte] at hx148_2); (try simp only [show (2 : Int).toNat = 2 from rfl, Nat.reduceMul, Nat.reduceEqDiff, Go.Addr.add, ↓reduceIte] at hx148_3); have qi148 : (2 < t138.length) = True := eq_true (by omega); (try rw [show ((2 : Int)).toNat = 2 from rfl] at hx148_0); (try rw [show 2 * 4 = 8 from rfl] at hx148_0); (try rw [show ((2 : Int)).toNat = 2 from rfl] at hx148_1); (try rw [show 2 * 4 = 8 from rfl] at hx148_1); (try rw [show ((2 : Int)).toNat = 2 from rfl] at hx148_2); (try rw [show 2 * 4 = 8 from rfl] at hx148_2); (try rw [show ((2 : Int)).toNat = 2 from rfl] at hx148_3); (try rw [show 2 * 4 = 8 from rfl] at hx148_3); replace p148 := eq_true p148; replace q148 := eq_true q148; have p149 : 0 ≤ (3 : Int) := (by omega); have q149 : 3 < (t138.length : Int) := of_decide_eq_true (by first | (with_reducible assumption) | assumption); obtain ⟨ad149, e149, hx149_0, hx149_1, hx149_2, hx149_3⟩ := at_T32 (Kd.R_reads' HO142.out).2.2 3 p149 q149; obtain rfl : ad145 = ad149 := (by injection e149); (try simp only [show (3 : Int).toNat = 3 from rfl, Nat.reduceMul, Nat.reduceEqDiff, Go.Addr.add, ↓reduceIte] at hx149_0); (try simp only [show (3 : Int).toNat = 3 from rfl, Nat.reduceMul, Nat.reduceEqDiff, Go.Addr.add, ↓reduceIte] at hx149_1); (try simp only [show (3 : Int).toNat = 3 from rfl, Nat.reduceMul, Nat.reduceEqDiff, Go.Addr.add, ↓reduceIte] at hx149_2); (try simp only [show (3 : Int).toNat = 3 from rfl, Nat.reduceMul, Nat.reduceEqDiff, Go.Addr.add, ↓reduceIte] at hx149_3); have qi149 : (3 < t138.length) = True := eq_true (by omega); (try rw [show ((3 : Int)).toNat = 3 from rfl] at hx149_0); (try rw [show 3 * 4 = 12 from rfl] at hx149_0); (try rw [show ((3 : Int)).toNat = 3 from rfl] at hx149_1); (try rw [show 3 * 4 = 12 from rfl] at hx149_1); (try rw [show ((3 : Int)).toNat = 3 from rfl] at hx149_2); (try rw [show 3 * 4 = 12 from rfl] at hx149_2); (try rw [show ((3 : Int)).toNat = 3 from rfl] at hx149_3); (try rw [show 3 * 4 = 12 from rfl] at hx149_3); replace p149 := eq_true p149; replace q149 := eq_true q149) | (go_at_call 13; (with_reducible refine (word_IsName.calls (⟨#[97, 95, 49]⟩ : ByteArray) true _ A14.out).mono ?_); rintro e w22 ⟨rfl, hb⟩; have n0_ := Aside0.mk (Kd.R_below (by (with_reducible repeat (first | apply Kd.R_alloc | apply Kd.R_drewN | apply Kd.R_drew)); exact HO142.out) hb); have n1_ := Aside0.mk (below_step (by repeat (first | (with_reducible first | exact HB.out | apply below_alloc | apply pw_below_drewN | apply below_drew1) | exact HB.out)) hb); clear HO142; clear HB; have HO142 := n0_; have HB := n1_; clear n0_ n1_; (try clear hb); (try clear hb2); (try clear hk); (try clear hi)) | (go_at_call 13; (with_reducible refine (word_IsName.calls (⟨#[49, 97]⟩ : ByteArray) false _ A16.out).mono ?_); rintro e w23 ⟨rfl, hb⟩; have n0_ := Aside0.mk (Kd.R_below (by (with_reducible repeat (first | apply Kd.R_alloc | apply Kd.R_drewN | apply Kd.R_drew)); exact HO142.out) hb); have n1_ := Aside0.mk (below_step (by repeat (first | (with_reducible first | exact HB.out | apply below_alloc | apply pw_below_drewN | apply below_drew1) | exact HB.out)) hb); clear HO142; clear HB; have HO142 := n0_; have HB := n1_; clear n0_ n1_; (try clear hb); (try clear hb2); (try clear hk); (try clear hi)))
                              go_ret
                              exact ⟨by first | rfl | (simp [errW_none, errW_some] <;> rfl) | (simp [*, errW_none, errW_some] <;> rfl), by repeat (first | (with_reducible first | exact HB.out | apply below_alloc | apply pw_below_drewN | apply below_drew1) | exact HB.out)⟩
                            · rw [if_neg c18] at H
                              have c18b0 : (t143.toList == ([47, 97, 92, 47, 98, 47] : List UInt8)) = false := beq_eq_false_iff_ne.mpr c18
                              have c18b1 : (t143.toList != ([47, 97, 92, 47, 98, 47] : List UInt8)) = true := bne_iff_ne.mpr c18
                              exact absurd ((Option.some.inj H).trans HT.out) (by decide)
                        · replace c15 := Bool.eq_false_iff.mpr c15
                          subst c15
                          have H1 : (some false) = some r := by rw [if_neg (show ¬ (false = true) by decide)] at H; exact H
                          clear H
                          have H := H1
                          clear H1
                          exact absurd ((Option.some.inj H).trans HT.out) (by decide)
                      · rw [if_neg c13] at H
                        have c13b0 : (((rd_T32 t138 3).f0) == 4) = false := beq_eq_false_iff_ne.mpr c13
                        have c13b1 : (((rd_T32 t138 3).f0) != 4) = true := bne_iff_ne.mpr c13
                        exact absurd ((Option.some.inj H).trans HT.out) (by decide)
                    · rw [if_neg c12] at H
                      exact absurd H (by simp)
                  · rw [if_neg c11] at H
                    have c11b0 : (((rd_T32 t138 2).f1).toList == ([105, 102] : List UInt8)) = false := beq_eq_false_iff_ne.mpr c11
                    have c11b1 : (((rd_T32 t138 2).f1).toList != ([105, 102] : List UInt8)) = true := bne_iff_ne.mpr c11
                    exact absurd ((Option.some.inj H).trans HT.out) (by decide)
                · rw [if_neg c10] at H
                  have c10b0 : (((rd_T32 t138 2).f0) == 3) = false := beq_eq_false_iff_ne.mpr c10
                  have c10b1 : (((rd_T32 t138 2).f0) != 3) = true := bne_iff_ne.mpr c10
                  exact absurd ((Option.some.inj H).trans HT.out) (by decide)
              · rw [if_neg c9] at H
                exact absurd H (by simp)
            · rw [if_neg c8] at H
              have c8b0 : (((rd_T32 t138 1).f1).toList == ([105, 102] : List UInt8)) = false := beq_eq_false_iff_ne.mpr c8
              have c8b1 : (((rd_T32 t138 1).f1).toList != ([105, 102] : List UInt8)) = true := bne_iff_ne.mpr c8
              exact absurd ((Option.some.inj H).trans HT.out) (by decide)
          · rw [if_neg c7] at H
            exact absurd H (by simp)
        · rw [if_neg c6] at H
          have c6b0 : (((rd_T32 t138 0).f0) == 0) = false := beq_eq_false_iff_ne.mpr c6
          have c6b1 : (((rd_T32 t138 0).f0) != 0) = true := bne_iff_ne.mpr c6
          exact absurd ((Option.some.inj H).trans HT.out) (by decide)
      · rw [if_neg c5] at H
        exact absurd H (by simp)
    · rw [if_neg c4] at H
      have c4b0 : ((t138.length : Int) == 4) = false := beq_eq_false_iff_ne.mpr c4
      have c4b1 : ((t138.length : Int) != 4) = true := bne_iff_ne.mpr c4
      exact absurd ((Option.some.inj H).trans HT.out) (by decide)
  · rw [if_neg c3] at H
    have c3b0 : (t139 == 0) = false := beq_eq_false_iff_ne.mpr c3
    have c3b1 : (t139 != 0) = true := bne_iff_ne.mpr c3
    exact absurd ((Option.some.inj H).trans HT.out) (by decide)

end Go.Proofs.YtageaahlkiaigaaDoor.P
