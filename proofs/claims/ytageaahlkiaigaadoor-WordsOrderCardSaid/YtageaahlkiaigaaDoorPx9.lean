/- Functions of the given program as plain Lean functions, each with the proof that its call comes to that function's answer (conditions: the hypotheses of each '.calls'). Printed by wip/tools/pw.py, a wrapper round the kit's print. -/
import Derived.Test.YtageaahlkiaigaaDoorPx0
import Derived.Test.YtageaahlkiaigaaDoorPx5
import Derived.Test.YtageaahlkiaigaaDoorWd9
namespace Go.Proofs.YtageaahlkiaigaaDoor.P
open Go.RowKit Go.Proofs.YtageaahlkiaigaaDoorW.PrintWords Go.Proofs.YtageaahlkiaigaaDoorW.PrintLast Go.Proofs.YtageaahlkiaigaaDoorW.PrintMore
attribute [local go_sem] max2_int min2_int max_two min_two max_three min_three max_four min_four   -- for this text's walks alone
set_option linter.unusedVariables false
set_option linter.unusedSimpArgs false

/-! ### syntagmlaw08_WordsOrder: function 5 -/
mutual
def syntagmlaw08_WordsOrder.l0 : Nat → ByteArray → Bool → List (S32) → Int → Int → Int → Int → Option (Bool)
  | 0, _, _, _, _, _, _, _ => none
  | k + 1, x0, x3, x4, x5, x6, x7, x8 => if x8 < (x4.length : Int) then (if 0 ≤ x8 then (if ((rd_T32 x4 x8).f3) < x7 then (syntagmlaw08_WordsOrder.j1 k x0 x3 x4 x5 x6 x8 true ((rd_T32 x4 x8).f0) ((rd_T32 x4 x8).f1) ((rd_T32 x4 x8).f2) ((rd_T32 x4 x8).f3)) else (if ((rd_T32 x4 x8).f3) > (x0.size : Int) then (syntagmlaw08_WordsOrder.j1 k x0 x3 x4 x5 x6 x8 true ((rd_T32 x4 x8).f0) ((rd_T32 x4 x8).f1) ((rd_T32 x4 x8).f2) ((rd_T32 x4 x8).f3)) else (if ((rd_T32 x4 x8).f0) = 4 then (if x8 = 0 then (syntagmlaw08_WordsOrder.j1 k x0 x3 x4 x5 x6 x8 true ((rd_T32 x4 x8).f0) ((rd_T32 x4 x8).f1) ((rd_T32 x4 x8).f2) ((rd_T32 x4 x8).f3)) else (if 0 ≤ (wrap64 (x8 - 1)) then (if (wrap64 (x8 - 1)) < (x4.length : Int) then (syntagmlaw08_WordsOrder.j1 k x0 x3 x4 x5 x6 x8 (((rd_T32 x4 (wrap64 (x8 - 1))).f0) == 4) ((rd_T32 x4 x8).f0) ((rd_T32 x4 x8).f1) ((rd_T32 x4 x8).f2) ((rd_T32 x4 x8).f3)) else (none)) else (none))) else (syntagmlaw08_WordsOrder.j1 k x0 x3 x4 x5 x6 x8 false ((rd_T32 x4 x8).f0) ((rd_T32 x4 x8).f1) ((rd_T32 x4 x8).f2) ((rd_T32 x4 x8).f3))))) else (none)) else (if x5 = 0 then (if x3 = true then (if (x4.length : Int) = 0 then (some true) else (if 0 ≤ (wrap64 ((x4.length : Int) - 1)) then (if (wrap64 ((x4.length : Int) - 1)) < (x4.length : Int) then (some (((rd_T32 x4 (wrap64 ((x4.length : Int) - 1))).f0) == 4)) else (none)) else (none))) else (some false)) else (if x3 = true then (if x6 ≥ x7 then (some (decide (x6 < (x0.size : Int)))) else (some false)) else (some false)))
def syntagmlaw08_WordsOrder.j1 : Nat → ByteArray → Bool → List (S32) → Int → Int → Int → Bool → Int → ByteArray → Int → Int → Option (Bool)
  | 0, _, _, _, _, _, _, _, _, _, _, _ => none
  | k + 1, x0, x3, x4, x5, x6, x8, x61, x185000, x185001, x185002, x185003 => if x61 = true then (some false) else (if x185000 = 0 then (syntagmlaw08_WordsOrder.j2 k x0 x3 x4 x5 x6 x185003 x8 true x185000 x185001 x185002 x185003) else (if x185000 = 1 then (syntagmlaw08_WordsOrder.j2 k x0 x3 x4 x5 x6 x185003 x8 true x185000 x185001 x185002 x185003) else (syntagmlaw08_WordsOrder.j2 k x0 x3 x4 x5 x6 x185003 x8 (x185000 == 2) x185000 x185001 x185002 x185003)))
def syntagmlaw08_WordsOrder.j2 : Nat → ByteArray → Bool → List (S32) → Int → Int → Int → Int → Bool → Int → ByteArray → Int → Int → Option (Bool)
  | 0, _, _, _, _, _, _, _, _, _, _, _, _ => none
  | k + 1, x0, x3, x4, x5, x6, x7, x8, x76, x185000, x185001, x185002, x185003 => if x76 = true then (if (wrap64 (x185003 + (x185001.size : Int))) > (x0.size : Int) then (syntagmlaw08_WordsOrder.j3 k x0 x3 x4 x5 x6 (wrap64 (x185003 + (x185001.size : Int))) x8 true x185000 x185001 x185002 x185003) else (if 0 ≤ x185003 then (if x185003 ≤ (wrap64 (x185003 + (x185001.size : Int))) then (if (wrap64 (x185003 + (x185001.size : Int))) ≤ (x0.size : Int) then (if (x0.extract (x185003 : Int).toNat ((wrap64 (x185003 + (x185001.size : Int))) : Int).toNat).toList = x185001.toList then (syntagmlaw08_WordsOrder.j3 k x0 x3 x4 x5 x6 (wrap64 (x185003 + (x185001.size : Int))) x8 ((x185001.size : Int) == 0) x185000 x185001 x185002 x185003) else (syntagmlaw08_WordsOrder.j3 k x0 x3 x4 x5 x6 (wrap64 (x185003 + (x185001.size : Int))) x8 true x185000 x185001 x185002 x185003)) else (none)) else (none)) else (none))) else (if x185000 = 0 then ((word_IsName.f x185001).bind fun t187 => (if t187 = true then (syntagmlaw08_WordsOrder.l0 k x0 x3 x4 x5 x6 x7 (wrap64 (x8 + 1))) else (some false))) else (syntagmlaw08_WordsOrder.l0 k x0 x3 x4 x5 x6 x7 (wrap64 (x8 + 1))))
def syntagmlaw08_WordsOrder.j3 : Nat → ByteArray → Bool → List (S32) → Int → Int → Int → Int → Bool → Int → ByteArray → Int → Int → Option (Bool)
  | 0, _, _, _, _, _, _, _, _, _, _, _, _ => none
  | k + 1, x0, x3, x4, x5, x6, x7, x8, x102, x185000, x185001, x185002, x185003 => if x102 = true then (some false) else (if x185000 = 0 then ((word_IsName.f x185001).bind fun t186 => (if t186 = true then (syntagmlaw08_WordsOrder.l0 k x0 x3 x4 x5 x6 x7 (wrap64 (x8 + 1))) else (some false))) else (syntagmlaw08_WordsOrder.l0 k x0 x3 x4 x5 x6 x7 (wrap64 (x8 + 1))))
end
def syntagmlaw08_WordsOrder.f (k : Nat) (a0 : ByteArray) : Option (Bool) := (syntagmlaw08_works.f).bind fun t176 => (if t176 = true then (if (a0.size : Int) > 400 then (some t176) else ((word_Words.f a0).bind fun bt177 => (syntagmlaw08_WordsOrder.l0 k a0 t176 bt177.1 bt177.2.1 bt177.2.2 0 0))) else (some false))
theorem syntagmlaw08_WordsOrder.mono_l : ∀ k, (∀ y0 y1 y2 y3 y4 y5 y6, LeO (syntagmlaw08_WordsOrder.l0 k y0 y1 y2 y3 y4 y5 y6) (syntagmlaw08_WordsOrder.l0 (k + 1) y0 y1 y2 y3 y4 y5 y6)) ∧ (∀ y0 y1 y2 y3 y4 y5 y6 y7 y8 y9 y10, LeO (syntagmlaw08_WordsOrder.j1 k y0 y1 y2 y3 y4 y5 y6 y7 y8 y9 y10) (syntagmlaw08_WordsOrder.j1 (k + 1) y0 y1 y2 y3 y4 y5 y6 y7 y8 y9 y10)) ∧ (∀ y0 y1 y2 y3 y4 y5 y6 y7 y8 y9 y10 y11, LeO (syntagmlaw08_WordsOrder.j2 k y0 y1 y2 y3 y4 y5 y6 y7 y8 y9 y10 y11) (syntagmlaw08_WordsOrder.j2 (k + 1) y0 y1 y2 y3 y4 y5 y6 y7 y8 y9 y10 y11)) ∧ (∀ y0 y1 y2 y3 y4 y5 y6 y7 y8 y9 y10 y11, LeO (syntagmlaw08_WordsOrder.j3 k y0 y1 y2 y3 y4 y5 y6 y7 y8 y9 y10 y11) (syntagmlaw08_WordsOrder.j3 (k + 1) y0 y1 y2 y3 y4 y5 y6 y7 y8 y9 y10 y11))
  | 0 => ⟨fun _ _ _ _ _ _ _ r h => by simp [syntagmlaw08_WordsOrder.l0] at h, fun _ _ _ _ _ _ _ _ _ _ _ r h => by simp [syntagmlaw08_WordsOrder.j1] at h, fun _ _ _ _ _ _ _ _ _ _ _ _ r h => by simp [syntagmlaw08_WordsOrder.j2] at h, fun _ _ _ _ _ _ _ _ _ _ _ _ r h => by simp [syntagmlaw08_WordsOrder.j3] at h⟩
  | k + 1 => by
    obtain ⟨ih0, ih1, ih2, ih3⟩ := syntagmlaw08_WordsOrder.mono_l k
    refine ⟨?_, ?_, ?_, ?_⟩
    · intro y0 y1 y2 y3 y4 y5 y6
      unfold syntagmlaw08_WordsOrder.l0
      repeat' first
      | (with_reducible exact ih0 _ _ _ _ _ _ _)
      | (with_reducible exact ih1 _ _ _ _ _ _ _ _ _ _ _)
      | (with_reducible exact ih2 _ _ _ _ _ _ _ _ _ _ _ _)
      | (with_reducible exact ih3 _ _ _ _ _ _ _ _ _ _ _ _)
      | (with_reducible exact LeO.refl _)
      | (with_reducible exact LeO.none _)
      | (with_reducible refine LeO.ite ?_ ?_)
      | (with_reducible refine LeO.bind ?_ (fun _ => ?_))
      | exact ih0 _ _ _ _ _ _ _
      | exact ih1 _ _ _ _ _ _ _ _ _ _ _
      | exact ih2 _ _ _ _ _ _ _ _ _ _ _ _
      | exact ih3 _ _ _ _ _ _ _ _ _ _ _ _
      | exact LeO.none _
      | refine LeO.ite ?_ ?_
      | refine LeO.bind ?_ (fun _ => ?_)
    · intro y0 y1 y2 y3 y4 y5 y6 y7 y8 y9 y10
      unfold syntagmlaw08_WordsOrder.j1
      repeat' first
      | (with_reducible exact ih0 _ _ _ _ _ _ _)
      | (with_reducible exact ih1 _ _ _ _ _ _ _ _ _ _ _)
      | (with_reducible exact ih2 _ _ _ _ _ _ _ _ _ _ _ _)
      | (with_reducible exact ih3 _ _ _ _ _ _ _ _ _ _ _ _)
      | (with_reducible exact LeO.refl _)
      | (with_reducible exact LeO.none _)
      | (with_reducible refine LeO.ite ?_ ?_)
      | (with_reducible refine LeO.bind ?_ (fun _ => ?_))
      | exact ih0 _ _ _ _ _ _ _
      | exact ih1 _ _ _ _ _ _ _ _ _ _ _
      | exact ih2 _ _ _ _ _ _ _ _ _ _ _ _
      | exact ih3 _ _ _ _ _ _ _ _ _ _ _ _
      | exact LeO.none _
      | refine LeO.ite ?_ ?_
      | refine LeO.bind ?_ (fun _ => ?_)
    · intro y0 y1 y2 y3 y4 y5 y6 y7 y8 y9 y10 y11
      unfold syntagmlaw08_WordsOrder.j2
      repeat' first
      | (with_reducible exact ih0 _ _ _ _ _ _ _)
      | (with_reducible exact ih1 _ _ _ _ _ _ _ _ _ _ _)
      | (with_reducible exact ih2 _ _ _ _ _ _ _ _ _ _ _ _)
      | (with_reducible exact ih3 _ _ _ _ _ _ _ _ _ _ _ _)
      | (with_reducible exact LeO.refl _)
      | (with_reducible exact LeO.none _)
      | (with_reducible refine LeO.ite ?_ ?_)
      | (with_reducible refine LeO.bind ?_ (fun _ => ?_))
      | exact ih0 _ _ _ _ _ _ _
      | exact ih1 _ _ _ _ _ _ _ _ _ _ _
      | exact ih2 _ _ _ _ _ _ _ _ _ _ _ _
      | exact ih3 _ _ _ _ _ _ _ _ _ _ _ _
      | exact LeO.none _
      | refine LeO.ite ?_ ?_
      | refine LeO.bind ?_ (fun _ => ?_)
    · intro y0 y1 y2 y3 y4 y5 y6 y7 y8 y9 y10 y11
      unfold syntagmlaw08_WordsOrder.j3
      repeat' first
      | (with_reducible exact ih0 _ _ _ _ _ _ _)
      | (with_reducible exact ih1 _ _ _ _ _ _ _ _ _ _ _)
      | (with_reducible exact ih2 _ _ _ _ _ _ _ _ _ _ _ _)
      | (with_reducible exact ih3 _ _ _ _ _ _ _ _ _ _ _ _)
      | (with_reducible exact LeO.refl _)
      | (with_reducible exact LeO.none _)
      | (with_reducible refine LeO.ite ?_ ?_)
      | (with_reducible refine LeO.bind ?_ (fun _ => ?_))
      | exact ih0 _ _ _ _ _ _ _
      | exact ih1 _ _ _ _ _ _ _ _ _ _ _
      | exact ih2 _ _ _ _ _ _ _ _ _ _ _ _
      | exact ih3 _ _ _ _ _ _ _ _ _ _ _ _
      | exact LeO.none _
      | refine LeO.ite ?_ ?_
      | refine LeO.bind ?_ (fun _ => ?_)
theorem syntagmlaw08_WordsOrder.mono : ∀ a0 k, LeO (syntagmlaw08_WordsOrder.f k a0) (syntagmlaw08_WordsOrder.f (k + 1) a0) := by
  intro a0 k
  obtain ⟨ih0, ih1, ih2, ih3⟩ := syntagmlaw08_WordsOrder.mono_l k
  unfold syntagmlaw08_WordsOrder.f
  repeat' first
      | (with_reducible exact ih0 _ _ _ _ _ _ _)
      | (with_reducible exact ih1 _ _ _ _ _ _ _ _ _ _ _)
      | (with_reducible exact ih2 _ _ _ _ _ _ _ _ _ _ _ _)
      | (with_reducible exact ih3 _ _ _ _ _ _ _ _ _ _ _ _)
      | (with_reducible exact LeO.refl _)
      | (with_reducible exact LeO.none _)
      | (with_reducible refine LeO.ite ?_ ?_)
      | (with_reducible refine LeO.bind ?_ (fun _ => ?_))
      | exact ih0 _ _ _ _ _ _ _
      | exact ih1 _ _ _ _ _ _ _ _ _ _ _
      | exact ih2 _ _ _ _ _ _ _ _ _ _ _ _
      | exact ih3 _ _ _ _ _ _ _ _ _ _ _ _
      | exact LeO.none _
      | refine LeO.ite ?_ ?_
      | refine LeO.bind ?_ (fun _ => ?_)
set_option maxHeartbeats 8000000 in
set_option maxRecDepth 100000 in
theorem syntagmlaw08_WordsOrder.calls (k : Nat) (a0 : ByteArray) (r : Bool) (w : World) (hT : r = true) (h : syntagmlaw08_WordsOrder.f k a0 = some r) :
    Calls Tryd.prog 5 #[.string a0] w fun e w' => e = .returned (.bool r) ∧ Below w.heap.size w w' := by
  have hu32 := Tryd.underlying32
  have HT := Aside0.mk hT
  clear hT
  have HB := Aside0.mk (Below.refl w.heap.size w)
  have H : ((syntagmlaw08_works.f).bind fun t176 => (if t176 = true then (if (a0.size : Int) > 400 then (some t176) else ((word_Words.f a0).bind fun bt177 => (syntagmlaw08_WordsOrder.l0 k a0 t176 bt177.1 bt177.2.1 bt177.2.2 0 0))) else (some false))) = some r := h
  clear h
  replace H := Option.bind_eq_some_iff.mp H
  obtain ⟨t176, A20, H⟩ := H
  replace H : (if t176 = true then (if (a0.size : Int) > 400 then (some t176) else ((word_Words.f a0).bind fun bt177 => (syntagmlaw08_WordsOrder.l0 k a0 t176 bt177.1 bt177.2.1 bt177.2.2 0 0))) else (some false)) = some r := H
  have A2 := Aside0.mk A20
  clear A20
  by_cases c3 : t176 = true
  · subst c3
    have H1 : (if (a0.size : Int) > 400 then (some true) else ((word_Words.f a0).bind fun bt177 => (syntagmlaw08_WordsOrder.l0 k a0 true bt177.1 bt177.2.1 bt177.2.2 0 0))) = some r := by rw [if_pos rfl] at H; exact H
    clear H
    have H := H1
    clear H1
    by_cases c4 : (a0.size : Int) > 400
    · rw [if_pos c4] at H
      have c4b0 : decide (400 < (a0.size : Int)) = true := decide_eq_true c4
      have c4b1 : decide (400 < a0.size) = true := decide_eq_true (by omega)
      clear c4
      obtain rfl := Option.some.inj H
      go_enter Tryd.func5, Tryd.ntmps5
      go_wp2_with (first | (go_at_call 9; (with_reducible refine (syntagmlaw08_works.calls  true _ ?side1 A2.out).mono ?_); (case side1 => rfl); rintro e w5 ⟨rfl, hb⟩; have n0_ := Aside0.mk (below_step (by repeat (first | (with_reducible first | exact HB.out | apply below_alloc | apply pw_below_drewN | apply below_drew1) | exact HB.out)) hb); clear HB; have HB := n0_; clear n0_; (try clear hb); (try clear hb2); (try clear hk); (try clear hi)))
      repeat (go_quiet (first | (go_at_call 9; (with_reducible refine (syntagmlaw08_works.calls  true _ ?side1 A2.out).mono ?_); (case side1 => rfl); rintro e w5 ⟨rfl, hb⟩; have n0_ := Aside0.mk (below_step (by repeat (first | (with_reducible first | exact HB.out | apply below_alloc | apply pw_below_drewN | apply below_drew1) | exact HB.out)) hb); clear HB; have HB := n0_; clear n0_; (try clear hb); (try clear hb2); (try clear hk); (try clear hi))); try go_wp2_with (first | (go_at_call 9; (with_reducible refine (syntagmlaw08_works.calls  true _ ?side1 A2.out).mono ?_); (case side1 => rfl); rintro e w5 ⟨rfl, hb⟩; have n0_ := Aside0.mk (below_step (by repeat (first | (with_reducible first | exact HB.out | apply below_alloc | apply pw_below_drewN | apply below_drew1) | exact HB.out)) hb); clear HB; have HB := n0_; clear n0_; (try clear hb); (try clear hb2); (try clear hk); (try clear hi))))
      go_ret
      exact ⟨by first | rfl | (simp [errW_none, errW_some] <;> rfl) | (simp [*, errW_none, errW_some] <;> rfl), by repeat (first | (with_reducible first | exact HB.out | apply below_alloc | apply pw_below_drewN | apply below_drew1) | exact HB.out)⟩
    · rw [if_neg c4] at H
      have c4b0 : decide (400 < (a0.size : Int)) = false := decide_eq_false c4
      have c4b1 : decide (400 < a0.size) = false := decide_eq_false (by omega)
      clear c4
      replace H := Option.bind_eq_some_iff.mp H
      obtain ⟨⟨t177, t178, t179⟩, A60, H⟩ := H
      replace H : (syntagmlaw08_WordsOrder.l0 k a0 true t177 t178 t179 0 0) = some r := H
      have A6 := Aside0.mk A60
      clear A60
      have H' := Aside0.mk H
      clear H
      go_enter Tryd.func5, Tryd.ntmps5
      go_wp2_with (first | (go_at_call 9; (with_reducible refine (syntagmlaw08_works.calls  true _ ?side1 A2.out).mono ?_); (case side1 => rfl); rintro e w7 ⟨rfl, hb⟩; have n0_ := Aside0.mk (below_step (by repeat (first | (with_reducible first | exact HB.out | apply below_alloc | apply pw_below_drewN | apply below_drew1) | exact HB.out)) hb); clear HB; have HB := n0_; clear n0_; (try clear hb); (try clear hb2); (try clear hk); (try clear hi)) | (go_at_call 14; (with_reducible refine (word_Words.calls a0 t177 t178 t179 _ A6.out).mono ?_); rintro e w8 ⟨v180, rfl, ho0, hb⟩; have n0_ := Aside0.mk (Kd.R_lower ho0 (below_size (by repeat (first | (with_reducible first | exact HB.out | apply below_alloc | apply pw_below_drewN | apply below_drew1) | exact HB.out)))); have n1_ := Aside0.mk (below_step (by repeat (first | (with_reducible first | exact HB.out | apply below_alloc | apply pw_below_drewN | apply below_drew1) | exact HB.out)) hb); clear HB; have HO181 := n0_; have HB := n1_; clear n0_ n1_; (try clear hb); (try clear hb2); (try clear hk); (try clear hi); (try clear ho0)))
      repeat (go_quiet (first | (go_at_call 9; (with_reducible refine (syntagmlaw08_works.calls  true _ ?side1 A2.out).mono ?_); (case side1 => rfl); rintro e w7 ⟨rfl, hb⟩; have n0_ := Aside0.mk (below_step (by repeat (first | (with_reducible first | exact HB.out | apply below_alloc | apply pw_below_drewN | apply below_drew1) | exact HB.out)) hb); clear HB; have HB := n0_; clear n0_; (try clear hb); (try clear hb2); (try clear hk); (try clear hi)) | (go_at_call 14; (with_reducible refine (word_Words.calls a0 t177 t178 t179 _ A6.out).mono ?_); rintro e w8 ⟨v180, rfl, ho0, hb⟩; have n0_ := Aside0.mk (Kd.R_lower ho0 (below_size (by repeat (first | (with_reducible first | exact HB.out | apply below_alloc | apply pw_below_drewN | apply below_drew1) | exact HB.out)))); have n1_ := Aside0.mk (below_step (by repeat (first | (with_reducible first | exact HB.out | apply below_alloc | apply pw_below_drewN | apply below_drew1) | exact HB.out)) hb); clear HB; have HO181 := n0_; have HB := n1_; clear n0_ n1_; (try clear hb); (try clear hb2); (try clear hk); (try clear hi); (try clear ho0))); try go_wp2_with (first | (go_at_call 9; (with_reducible refine (syntagmlaw08_works.calls  true _ ?side1 A2.out).mono ?_); (case side1 => rfl); rintro e w7 ⟨rfl, hb⟩; have n0_ := Aside0.mk (below_step (by repeat (first | (with_reducible first | exact HB.out | apply below_alloc | apply pw_below_drewN | apply below_drew1) | exact HB.out)) hb); clear HB; have HB := n0_; clear n0_; (try clear hb); (try clear hb2); (try clear hk); (try clear hi)) | (go_at_call 14; (with_reducible refine (word_Words.calls a0 t177 t178 t179 _ A6.out).mono ?_); rintro e w8 ⟨v180, rfl, ho0, hb⟩; have n0_ := Aside0.mk (Kd.R_lower ho0 (below_size (by repeat (first | (with_reducible first | exact HB.out | apply below_alloc | apply pw_below_drewN | apply below_drew1) | exact HB.out)))); have n1_ := Aside0.mk (below_step (by repeat (first | (with_reducible first | exact HB.out | apply below_alloc | apply pw_below_drewN | apply below_drew1) | exact HB.out)) hb); clear HB; have HO181 := n0_; have HB := n1_; clear n0_ n1_; (try clear hb); (try clear hb2); (try clear hk); (try clear hi); (try clear ho0))))
      go_loopg [7, 8] k (fun kq v7 v8 w' => ∃ (x7_1 : Int) (x8_1 : Int), v7 = .int .i64 x7_1 ∧ v8 = .int .i64 x8_1 ∧ Aside0 (syntagmlaw08_WordsOrder.l0 kq a0 true t177 t178 t179 x7_1 x8_1 = some r) ∧ Aside0 (kq ≤ k) ∧ Aside0 (Kd.R k32 32 w' w.heap.size (fun _ => True) v180 t177) ∧ Aside0 (Below w.heap.size w w'))
      case atStart => exact ⟨(0), (0), (by first | rfl | (simp; done) | (simp [*]; done)), (by first | rfl | (simp; done) | (simp [*]; done)), H', ⟨Nat.le_refl _⟩, ⟨by (with_reducible repeat (first | apply Kd.R_alloc | apply Kd.R_drewN | apply Kd.R_drew)); exact HO181.out⟩, ⟨by repeat (first | (with_reducible first | exact HB.out | apply below_alloc | apply pw_below_drewN | apply below_drew1) | exact HB.out)⟩⟩
      case round =>
        clear H'
        try clear p2
        try clear c3
        try clear c4
        try clear c4b0
        try clear c4b1
        try clear c5
        obtain ⟨x7_1, x8_1, rfl, rfl, HA, HK1, HO_4, HB⟩ := hrel
        cases gk with
        | zero => exact absurd HA.out (by simp [syntagmlaw08_WordsOrder.l0])
        | succ k1 =>
          have H := HA.out
          clear HA
          simp only [syntagmlaw08_WordsOrder.l0] at H
          by_cases c9 : x8_1 < (t177.length : Int)
          · rw [if_pos c9] at H
            have c9b0 : decide (x8_1 < (t177.length : Int)) = true := decide_eq_true c9
            clear c9
            by_cases c10 : 0 ≤ x8_1
            · rw [if_pos c10] at H
              have c10b0 : decide (0 ≤ x8_1) = true := decide_eq_true c10
              clear c10
              have HC11 := Aside0.mk H
              clear H
              obtain ⟨Ao12, co12, eo12⟩ := Kd.R_slice HO_4.out
              subst eo12
              have p183 : 0 ≤ (x8_1 : Int) := of_decide_eq_true (by first | (with_reducible assumption) | assumption)
              have q183 : x8_1 < (t177.length : Int) := of_decide_eq_true (by first | (with_reducible assumption) | assumption)
              obtain ⟨ad183, e183, hx183_0, hx183_1, hx183_2, hx183_3⟩ := at_T32 (Kd.R_reads' HO_4.out).2.2 x8_1 p183 q183
              cases e183
              replace p183 := eq_true p183
              replace q183 := eq_true q183
              go_upto_region 12 with (first | ((with_reducible refine gate_dst (N := 9) rfl ?_); (try (refine gate_guard (by rfl) ?_; dsimp only)); refine box_event ?hg (N := 9) ?hd (cs := #[.int .i64 0, .string (⟨#[]⟩ : ByteArray), .int .i64 0, .int .i64 0]) (t := 32) ?hr ?_; (case hd => rfl); (case hg => rfl); (case hr => first | (go_simp; done) | (go_simp; rfl)); intro gb184 hg w13 hbox hb; have n0_ := Aside0.mk (Kd.R_below (Kd.R_elderB (by (with_reducible repeat (first | apply Kd.R_alloc | apply Kd.R_drewN | apply Kd.R_drew)); exact HO_4.out) gb184 (Nat.le_of_eq hg.symm)) hb); have n1_ := Aside0.mk (below_step (by repeat (first | (with_reducible first | exact HB.out | apply below_alloc | apply pw_below_drewN | apply below_drew1) | exact HB.out)) hb); have n2_ := Aside0.mk (hbox); have n3_ := Aside0.mk ((by rw [hg]; exact (below_size (by repeat (first | (with_reducible first | exact HB.out | apply below_alloc | apply pw_below_drewN | apply below_drew1) | exact HB.out))) : w.heap.size ≤ gb184)); have n4_ := Aside0.mk ((by rw [hg]; exact (below_size (by repeat (first | (with_reducible first | exact HB.out | apply below_alloc | apply pw_below_drewN | apply below_drew1) | exact HB.out))) : w.heap.size ≤ gb184)); clear HO_4; clear HB; have HO_4 := n0_; have HB := n1_; have BK184 := n2_; have GW184 := n3_; have GE184 := n4_; clear n0_ n1_ n2_ n3_ n4_; clear hb hbox hg; have hcz14_0 : w13.cell? ⟨gb184, 0, none⟩ = some (.int .i64 0) := (blk_cell BK184.out 0).trans rfl; have hcz14_1 : w13.cell? ⟨gb184, 1, none⟩ = some (.string (⟨#[]⟩ : ByteArray)) := (blk_cell BK184.out 1).trans rfl; have hcz14_2 : w13.cell? ⟨gb184, 2, none⟩ = some (.int .i64 0) := (blk_cell BK184.out 2).trans rfl; have hcz14_3 : w13.cell? ⟨gb184, 3, none⟩ = some (.int .i64 0) := (blk_cell BK184.out 3).trans rfl; have hfz14_0 := blk_frozen BK184.out 0; have hfz14_1 := blk_frozen BK184.out 1; have hfz14_2 := blk_frozen BK184.out 2; have hfz14_3 := blk_frozen BK184.out 3))
              repeat (go_quiet (first | ((with_reducible refine gate_dst (N := 9) rfl ?_); (try (refine gate_guard (by rfl) ?_; dsimp only)); refine box_event ?hg (N := 9) ?hd (cs := #[.int .i64 0, .string (⟨#[]⟩ : ByteArray), .int .i64 0, .int .i64 0]) (t := 32) ?hr ?_; (case hd => rfl); (case hg => rfl); (case hr => first | (go_simp; done) | (go_simp; rfl)); intro gb184 hg w13 hbox hb; have n0_ := Aside0.mk (Kd.R_below (Kd.R_elderB (by (with_reducible repeat (first | apply Kd.R_alloc | apply Kd.R_drewN | apply Kd.R_drew)); exact HO_4.out) gb184 (Nat.le_of_eq hg.symm)) hb); have n1_ := Aside0.mk (below_step (by repeat (first | (with_reducible first | exact HB.out | apply below_alloc | apply pw_below_drewN | apply below_drew1) | exact HB.out)) hb); have n2_ := Aside0.mk (hbox); have n3_ := Aside0.mk ((by rw [hg]; exact (below_size (by repeat (first | (with_reducible first | exact HB.out | apply below_alloc | apply pw_below_drewN | apply below_drew1) | exact HB.out))) : w.heap.size ≤ gb184)); have n4_ := Aside0.mk ((by rw [hg]; exact (below_size (by repeat (first | (with_reducible first | exact HB.out | apply below_alloc | apply pw_below_drewN | apply below_drew1) | exact HB.out))) : w.heap.size ≤ gb184)); clear HO_4; clear HB; have HO_4 := n0_; have HB := n1_; have BK184 := n2_; have GW184 := n3_; have GE184 := n4_; clear n0_ n1_ n2_ n3_ n4_; clear hb hbox hg; have hcz14_0 : w13.cell? ⟨gb184, 0, none⟩ = some (.int .i64 0) := (blk_cell BK184.out 0).trans rfl; have hcz14_1 : w13.cell? ⟨gb184, 1, none⟩ = some (.string (⟨#[]⟩ : ByteArray)) := (blk_cell BK184.out 1).trans rfl; have hcz14_2 : w13.cell? ⟨gb184, 2, none⟩ = some (.int .i64 0) := (blk_cell BK184.out 2).trans rfl; have hcz14_3 : w13.cell? ⟨gb184, 3, none⟩ = some (.int .i64 0) := (blk_cell BK184.out 3).trans rfl; have hfz14_0 := blk_frozen BK184.out 0; have hfz14_1 := blk_frozen BK184.out 1; have hfz14_2 := blk_frozen BK184.out 2; have hfz14_3 := blk_frozen BK184.out 3)); go_upto_region 12 with (first | ((with_reducible refine gate_dst (N := 9) rfl ?_); (try (refine gate_guard (by rfl) ?_; dsimp only)); refine box_event ?hg (N := 9) ?hd (cs := #[.int .i64 0, .string (⟨#[]⟩ : ByteArray), .int .i64 0, .int .i64 0]) (t := 32) ?hr ?_; (case hd => rfl); (case hg => rfl); (case hr => first | (go_simp; done) | (go_simp; rfl)); intro gb184 hg w13 hbox hb; have n0_ := Aside0.mk (Kd.R_below (Kd.R_elderB (by (with_reducible repeat (first | apply Kd.R_alloc | apply Kd.R_drewN | apply Kd.R_drew)); exact HO_4.out) gb184 (Nat.le_of_eq hg.symm)) hb); have n1_ := Aside0.mk (below_step (by repeat (first | (with_reducible first | exact HB.out | apply below_alloc | apply pw_below_drewN | apply below_drew1) | exact HB.out)) hb); have n2_ := Aside0.mk (hbox); have n3_ := Aside0.mk ((by rw [hg]; exact (below_size (by repeat (first | (with_reducible first | exact HB.out | apply below_alloc | apply pw_below_drewN | apply below_drew1) | exact HB.out))) : w.heap.size ≤ gb184)); have n4_ := Aside0.mk ((by rw [hg]; exact (below_size (by repeat (first | (with_reducible first | exact HB.out | apply below_alloc | apply pw_below_drewN | apply below_drew1) | exact HB.out))) : w.heap.size ≤ gb184)); clear HO_4; clear HB; have HO_4 := n0_; have HB := n1_; have BK184 := n2_; have GW184 := n3_; have GE184 := n4_; clear n0_ n1_ n2_ n3_ n4_; clear hb hbox hg; have hcz14_0 : w13.cell? ⟨gb184, 0, none⟩ = some (.int .i64 0) := (blk_cell BK184.out 0).trans rfl; have hcz14_1 : w13.cell? ⟨gb184, 1, none⟩ = some (.string (⟨#[]⟩ : ByteArray)) := (blk_cell BK184.out 1).trans rfl; have hcz14_2 : w13.cell? ⟨gb184, 2, none⟩ = some (.int .i64 0) := (blk_cell BK184.out 2).trans rfl; have hcz14_3 : w13.cell? ⟨gb184, 3, none⟩ = some (.int .i64 0) := (blk_cell BK184.out 3).trans rfl; have hfz14_0 := blk_frozen BK184.out 0; have hfz14_1 := blk_frozen BK184.out 1; have hfz14_2 := blk_frozen BK184.out 2; have hfz14_3 := blk_frozen BK184.out 3)))
              (try simp only [Act.put, List.setIfInBounds_toArray, List.set_cons_zero, List.set_cons_succ])
              go_cut [61] (fun v61 wc => ∃ (kq : Nat) (x61_10 : Bool), v61 = .bool x61_10 ∧ Aside0 (syntagmlaw08_WordsOrder.j1 kq a0 true t177 t178 t179 x8_1 x61_10 ((rd_T32 t177 x8_1).f0) ((rd_T32 t177 x8_1).f1) ((rd_T32 t177 x8_1).f2) ((rd_T32 t177 x8_1).f3) = some r) ∧ Aside0 (kq ≤ k1) ∧ Aside0 (Kd.R k32 32 wc w.heap.size (fun k_ => k_ ≠ gb184) (.slice (some ad183) t177.length co12) t177) ∧ Aside0 (wc.heap[gb184]? = some (.cells #[.int .i64 ((rd_T32 t177 x8_1).f0), .string ((rd_T32 t177 x8_1).f1), .int .i64 ((rd_T32 t177 x8_1).f2), .int .i64 ((rd_T32 t177 x8_1).f3)] 32 (0, 0))) ∧ Aside0 (Below w.heap.size w wc))
              case first =>
                have H := HC11.out
                clear HC11
                by_cases c15 : ((rd_T32 t177 x8_1).f3) < x7_1
                · rw [if_pos c15] at H
                  have c15b0 : decide (((rd_T32 t177 x8_1).f3) < x7_1) = true := decide_eq_true c15
                  clear c15
                  (first | rw [c15b0] | (simp only [i64_w, i32_w]; rw [c15b0]) | skip)
                  have H' := Aside0.mk H
                  clear H
                  have hcz16_0 : w13.cell? ⟨gb184, 0, none⟩ = some (.int .i64 0) := (blk_cell BK184.out 0).trans rfl
                  have hcz16_1 : w13.cell? ⟨gb184, 1, none⟩ = some (.string (⟨#[]⟩ : ByteArray)) := (blk_cell BK184.out 1).trans rfl
                  have hcz16_2 : w13.cell? ⟨gb184, 2, none⟩ = some (.int .i64 0) := (blk_cell BK184.out 2).trans rfl
                  have hcz16_3 : w13.cell? ⟨gb184, 3, none⟩ = some (.int .i64 0) := (blk_cell BK184.out 3).trans rfl
                  have hfz16_0 := blk_frozen BK184.out 0
                  have hfz16_1 := blk_frozen BK184.out 1
                  have hfz16_2 := blk_frozen BK184.out 2
                  have hfz16_3 := blk_frozen BK184.out 3
                  go_wp2
                  repeat (go_quiet (fail); try go_wp2)
                  go_meet
                  case rel => exact ⟨_, (true), (by first | rfl | (simp; done) | (simp [*]; done)), H', ⟨by have := HK1.out; first | omega | exact Nat.le_refl _⟩, ⟨by (with_reducible repeat (first | apply Kd.R_alloc | apply Kd.R_drewN | apply Kd.R_drew)); exact Kd.R_mono (Kd.R_far (p := ⟨gb184, 3, none⟩) (Kd.R_far (p := ⟨gb184, 2, none⟩) (Kd.R_far (p := ⟨gb184, 1, none⟩) (Kd.R_far (p := ⟨gb184, 0, none⟩) (Kd.R_mono HO_4.out (fun k_ hk => (⟨hk, hk.2⟩ : _ ∧ k_ ≠ gb184))) (fun _ hk => hk.2) (.int .i64 ((rd_T32 t177 x8_1).f0))) (fun _ hk => hk.2) (.string ((rd_T32 t177 x8_1).f1))) (fun _ hk => hk.2) (.int .i64 ((rd_T32 t177 x8_1).f2))) (fun _ hk => hk.2) (.int .i64 ((rd_T32 t177 x8_1).f3))) (fun _ hk => hk.1.2)⟩, ⟨by (with_reducible repeat (first | refine blk_drewN ?_ _ | refine blk_drew ?_ | refine blk_alloc ?_ _)); refine blk_put (cs := #[.int .i64 ((rd_T32 t177 x8_1).f0), .string ((rd_T32 t177 x8_1).f1), .int .i64 ((rd_T32 t177 x8_1).f2), .int .i64 0]) ?_ 3 _ rfl; (with_reducible repeat (first | refine blk_drewN ?_ _ | refine blk_drew ?_ | refine blk_alloc ?_ _)); refine blk_put (cs := #[.int .i64 ((rd_T32 t177 x8_1).f0), .string ((rd_T32 t177 x8_1).f1), .int .i64 0, .int .i64 0]) ?_ 2 _ rfl; (with_reducible repeat (first | refine blk_drewN ?_ _ | refine blk_drew ?_ | refine blk_alloc ?_ _)); refine blk_put (cs := #[.int .i64 ((rd_T32 t177 x8_1).f0), .string (⟨#[]⟩ : ByteArray), .int .i64 0, .int .i64 0]) ?_ 1 _ rfl; (with_reducible repeat (first | refine blk_drewN ?_ _ | refine blk_drew ?_ | refine blk_alloc ?_ _)); refine blk_put (cs := #[.int .i64 0, .string (⟨#[]⟩ : ByteArray), .int .i64 0, .int .i64 0]) ?_ 0 _ rfl; (with_reducible repeat (first | refine blk_drewN ?_ _ | refine blk_drew ?_ | refine blk_alloc ?_ _)); exact BK184.out⟩, ⟨by repeat (first | (with_reducible first | exact HB.out | apply below_alloc | apply pw_below_drewN | apply below_drew1 | refine below_set ?_ GE184.out) | exact HB.out)⟩⟩
                · rw [if_neg c15] at H
                  have c15b0 : decide (((rd_T32 t177 x8_1).f3) < x7_1) = false := decide_eq_false c15
                  clear c15
                  (first | rw [c15b0] | (simp only [i64_w, i32_w]; rw [c15b0]) | skip)
                  by_cases c17 : ((rd_T32 t177 x8_1).f3) > (a0.size : Int)
                  · rw [if_pos c17] at H
                    have c17b0 : decide ((a0.size : Int) < ((rd_T32 t177 x8_1).f3)) = true := decide_eq_true c17
                    clear c17
                    have H' := Aside0.mk H
                    clear H
                    have hcz18_0 : w13.cell? ⟨gb184, 0, none⟩ = some (.int .i64 0) := (blk_cell BK184.out 0).trans rfl
                    have hcz18_1 : w13.cell? ⟨gb184, 1, none⟩ = some (.string (⟨#[]⟩ : ByteArray)) := (blk_cell BK184.out 1).trans rfl
                    have hcz18_2 : w13.cell? ⟨gb184, 2, none⟩ = some (.int .i64 0) := (blk_cell BK184.out 2).trans rfl
                    have hcz18_3 : w13.cell? ⟨gb184, 3, none⟩ = some (.int .i64 0) := (blk_cell BK184.out 3).trans rfl
                    have hfz18_0 := blk_frozen BK184.out 0
                    have hfz18_1 := blk_frozen BK184.out 1
                    have hfz18_2 := blk_frozen BK184.out 2
                    have hfz18_3 := blk_frozen BK184.out 3
                    go_wp2
                    repeat (go_quiet (fail); try go_wp2)
                    go_meet
                    case rel => exact ⟨_, (true), (by first | rfl | (simp; done) | (simp [*]; done)), H', ⟨by have := HK1.out; first | omega | exact Nat.le_refl _⟩, ⟨by (with_reducible repeat (first | apply Kd.R_alloc | apply Kd.R_drewN | apply Kd.R_drew)); exact Kd.R_mono (Kd.R_far (p := ⟨gb184, 3, none⟩) (Kd.R_far (p := ⟨gb184, 2, none⟩) (Kd.R_far (p := ⟨gb184, 1, none⟩) (Kd.R_far (p := ⟨gb184, 0, none⟩) (Kd.R_mono HO_4.out (fun k_ hk => (⟨hk, hk.2⟩ : _ ∧ k_ ≠ gb184))) (fun _ hk => hk.2) (.int .i64 ((rd_T32 t177 x8_1).f0))) (fun _ hk => hk.2) (.string ((rd_T32 t177 x8_1).f1))) (fun _ hk => hk.2) (.int .i64 ((rd_T32 t177 x8_1).f2))) (fun _ hk => hk.2) (.int .i64 ((rd_T32 t177 x8_1).f3))) (fun _ hk => hk.1.2)⟩, ⟨by (with_reducible repeat (first | refine blk_drewN ?_ _ | refine blk_drew ?_ | refine blk_alloc ?_ _)); refine blk_put (cs := #[.int .i64 ((rd_T32 t177 x8_1).f0), .string ((rd_T32 t177 x8_1).f1), .int .i64 ((rd_T32 t177 x8_1).f2), .int .i64 0]) ?_ 3 _ rfl; (with_reducible repeat (first | refine blk_drewN ?_ _ | refine blk_drew ?_ | refine blk_alloc ?_ _)); refine blk_put (cs := #[.int .i64 ((rd_T32 t177 x8_1).f0), .string ((rd_T32 t177 x8_1).f1), .int .i64 0, .int .i64 0]) ?_ 2 _ rfl; (with_reducible repeat (first | refine blk_drewN ?_ _ | refine blk_drew ?_ | refine blk_alloc ?_ _)); refine blk_put (cs := #[.int .i64 ((rd_T32 t177 x8_1).f0), .string (⟨#[]⟩ : ByteArray), .int .i64 0, .int .i64 0]) ?_ 1 _ rfl; (with_reducible repeat (first | refine blk_drewN ?_ _ | refine blk_drew ?_ | refine blk_alloc ?_ _)); refine blk_put (cs := #[.int .i64 0, .string (⟨#[]⟩ : ByteArray), .int .i64 0, .int .i64 0]) ?_ 0 _ rfl; (with_reducible repeat (first | refine blk_drewN ?_ _ | refine blk_drew ?_ | refine blk_alloc ?_ _)); exact BK184.out⟩, ⟨by repeat (first | (with_reducible first | exact HB.out | apply below_alloc | apply pw_below_drewN | apply below_drew1 | refine below_set ?_ GE184.out) | exact HB.out)⟩⟩
                  · rw [if_neg c17] at H
                    have c17b0 : decide ((a0.size : Int) < ((rd_T32 t177 x8_1).f3)) = false := decide_eq_false c17
                    clear c17
                    by_cases c19 : ((rd_T32 t177 x8_1).f0) = 4
                    · rw [if_pos c19] at H
                      have c19b0 : (((rd_T32 t177 x8_1).f0) == 4) = true := beq_iff_eq.mpr c19
                      have c19b1 : (((rd_T32 t177 x8_1).f0) != 4) = false := bne_eq_false_iff_eq.mpr c19
                      clear c19
                      by_cases c20 : x8_1 = 0
                      · rw [if_pos c20] at H
                        have c20b0 : (x8_1 == 0) = true := beq_iff_eq.mpr c20
                        have c20b1 : (x8_1 != 0) = false := bne_eq_false_iff_eq.mpr c20
                        clear c20
                        have H' := Aside0.mk H
                        clear H
                        have hcz21_0 : w13.cell? ⟨gb184, 0, none⟩ = some (.int .i64 0) := (blk_cell BK184.out 0).trans rfl
                        have hcz21_1 : w13.cell? ⟨gb184, 1, none⟩ = some (.string (⟨#[]⟩ : ByteArray)) := (blk_cell BK184.out 1).trans rfl
                        have hcz21_2 : w13.cell? ⟨gb184, 2, none⟩ = some (.int .i64 0) := (blk_cell BK184.out 2).trans rfl
                        have hcz21_3 : w13.cell? ⟨gb184, 3, none⟩ = some (.int .i64 0) := (blk_cell BK184.out 3).trans rfl
                        have hfz21_0 := blk_frozen BK184.out 0
                        have hfz21_1 := blk_frozen BK184.out 1
                        have hfz21_2 := blk_frozen BK184.out 2
                        have hfz21_3 := blk_frozen BK184.out 3
                        go_wp2
                        repeat (go_quiet (fail); try go_wp2)
                        go_meet
                        case rel => exact ⟨_, (true), (by first | rfl | (simp; done) | (simp [*]; done)), H', ⟨by have := HK1.out; first | omega | exact Nat.le_refl _⟩, ⟨by (with_reducible repeat (first | apply Kd.R_alloc | apply Kd.R_drewN | apply Kd.R_drew)); exact Kd.R_mono (Kd.R_far (p := ⟨gb184, 3, none⟩) (Kd.R_far (p := ⟨gb184, 2, none⟩) (Kd.R_far (p := ⟨gb184, 1, none⟩) (Kd.R_far (p := ⟨gb184, 0, none⟩) (Kd.R_mono HO_4.out (fun k_ hk => (⟨hk, hk.2⟩ : _ ∧ k_ ≠ gb184))) (fun _ hk => hk.2) (.int .i64 ((rd_T32 t177 x8_1).f0))) (fun _ hk => hk.2) (.string ((rd_T32 t177 x8_1).f1))) (fun _ hk => hk.2) (.int .i64 ((rd_T32 t177 x8_1).f2))) (fun _ hk => hk.2) (.int .i64 ((rd_T32 t177 x8_1).f3))) (fun _ hk => hk.1.2)⟩, ⟨by (with_reducible repeat (first | refine blk_drewN ?_ _ | refine blk_drew ?_ | refine blk_alloc ?_ _)); refine blk_put (cs := #[.int .i64 ((rd_T32 t177 x8_1).f0), .string ((rd_T32 t177 x8_1).f1), .int .i64 ((rd_T32 t177 x8_1).f2), .int .i64 0]) ?_ 3 _ rfl; (with_reducible repeat (first | refine blk_drewN ?_ _ | refine blk_drew ?_ | refine blk_alloc ?_ _)); refine blk_put (cs := #[.int .i64 ((rd_T32 t177 x8_1).f0), .string ((rd_T32 t177 x8_1).f1), .int .i64 0, .int .i64 0]) ?_ 2 _ rfl; (with_reducible repeat (first | refine blk_drewN ?_ _ | refine blk_drew ?_ | refine blk_alloc ?_ _)); refine blk_put (cs := #[.int .i64 ((rd_T32 t177 x8_1).f0), .string (⟨#[]⟩ : ByteArray), .int .i64 0, .int .i64 0]) ?_ 1 _ rfl; (with_reducible repeat (first | refine blk_drewN ?_ _ | refine blk_drew ?_ | refine blk_alloc ?_ _)); refine blk_put (cs := #[.int .i64 0, .string (⟨#[]⟩ : ByteArray), .int .i64 0, .int .i64 0]) ?_ 0 _ rfl; (with_reducible repeat (first | refine blk_drewN ?_ _ | refine blk_drew ?_ | refine blk_alloc ?_ _)); exact BK184.out⟩, ⟨by repeat (first | (with_reducible first | exact HB.out | apply below_alloc | apply pw_below_drewN | apply below_drew1 | refine below_set ?_ GE184.out) | exact HB.out)⟩⟩
                      · rw [if_neg c20] at H
                        have c20b0 : (x8_1 == 0) = false := beq_eq_false_iff_ne.mpr c20
                        have c20b1 : (x8_1 != 0) = true := bne_iff_ne.mpr c20
                        obtain ⟨ji22, hji22⟩ : ∃ j_ : Int, (wrap64 (x8_1 - 1)) = j_ := ⟨_, rfl⟩
                        replace H : (if 0 ≤ (ji22) then (if (ji22) < (t177.length : Int) then (syntagmlaw08_WordsOrder.j1 k1 a0 true t177 t178 t179 x8_1 (((rd_T32 t177 (ji22)).f0) == 4) ((rd_T32 t177 x8_1).f0) ((rd_T32 t177 x8_1).f1) ((rd_T32 t177 x8_1).f2) ((rd_T32 t177 x8_1).f3)) else (none)) else (none)) = some r := by first | (rw [hji22] at H; exact H) | (simp only [hji22] at H ⊢; exact H)
                        have hji22w : (IntKind.i64.wrap (x8_1 - 1)) = ji22 := (i64_w _).trans hji22
                        by_cases c23 : 0 ≤ (ji22)
                        · rw [if_pos c23] at H
                          have c23b0 : decide (0 ≤ (ji22)) = true := decide_eq_true c23
                          clear c23
                          by_cases c24 : (ji22) < (t177.length : Int)
                          · rw [if_pos c24] at H
                            have c24b0 : decide ((ji22) < (t177.length : Int)) = true := decide_eq_true c24
                            clear c24
                            have H' := Aside0.mk H
                            clear H
                            have hcz25_0 : w13.cell? ⟨gb184, 0, none⟩ = some (.int .i64 0) := (blk_cell BK184.out 0).trans rfl
                            have hcz25_1 : w13.cell? ⟨gb184, 1, none⟩ = some (.string (⟨#[]⟩ : ByteArray)) := (blk_cell BK184.out 1).trans rfl
                            have hcz25_2 : w13.cell? ⟨gb184, 2, none⟩ = some (.int .i64 0) := (blk_cell BK184.out 2).trans rfl
                            have hcz25_3 : w13.cell? ⟨gb184, 3, none⟩ = some (.int .i64 0) := (blk_cell BK184.out 3).trans rfl
                            have hfz25_0 := blk_frozen BK184.out 0
                            have hfz25_1 := blk_frozen BK184.out 1
                            have hfz25_2 := blk_frozen BK184.out 2
                            have hfz25_3 := blk_frozen BK184.out 3
                            have p185 : 0 ≤ ((ji22) : Int) := of_decide_eq_true (by first | (with_reducible assumption) | assumption)
                            have q185 : (ji22) < (t177.length : Int) := of_decide_eq_true (by first | (with_reducible assumption) | assumption)
                            obtain ⟨ad185, e185, hx185_0, hx185_1, hx185_2, hx185_3⟩ := at_T32 (Kd.R_reads' HO_4.out).2.2 (ji22) p185 q185
                            obtain rfl : ad183 = ad185 := (by injection e185)
                            have hn185_0 : ad183.block ≠ gb184 := Kd.own_blk (Kd.R_away HO_4.out (fun k hk => by first | exact hk.2 | exact hk))
                            have hn185_1 : ad183.block ≠ gb184 := Kd.own_blk (Kd.R_away HO_4.out (fun k hk => by first | exact hk.2 | exact hk))
                            have hn185_2 : ad183.block ≠ gb184 := Kd.own_blk (Kd.R_away HO_4.out (fun k hk => by first | exact hk.2 | exact hk))
                            have hn185_3 : ad183.block ≠ gb184 := Kd.own_blk (Kd.R_away HO_4.out (fun k hk => by first | exact hk.2 | exact hk))
                            replace hx185_0 := (cell_far (p := ⟨gb184, 0, none⟩) (by first | (rw [add_block]; exact hn185_0) | (show (Addr.add _ _).block ≠ _; rw [add_block]; exact hn185_0) | exact hn185_0) (.int .i64 ((rd_T32 t177 x8_1).f0))).trans hx185_0
                            replace hx185_1 := (cell_far (p := ⟨gb184, 0, none⟩) (by first | (rw [add_block]; exact hn185_0) | (show (Addr.add _ _).block ≠ _; rw [add_block]; exact hn185_0) | exact hn185_0) (.int .i64 ((rd_T32 t177 x8_1).f0))).trans hx185_1
                            replace hx185_2 := (cell_far (p := ⟨gb184, 0, none⟩) (by first | (rw [add_block]; exact hn185_0) | (show (Addr.add _ _).block ≠ _; rw [add_block]; exact hn185_0) | exact hn185_0) (.int .i64 ((rd_T32 t177 x8_1).f0))).trans hx185_2
                            replace hx185_3 := (cell_far (p := ⟨gb184, 0, none⟩) (by first | (rw [add_block]; exact hn185_0) | (show (Addr.add _ _).block ≠ _; rw [add_block]; exact hn185_0) | exact hn185_0) (.int .i64 ((rd_T32 t177 x8_1).f0))).trans hx185_3
                            replace hx185_0 := (cell_far (p := ⟨gb184, 1, none⟩) (by first | (rw [add_block]; exact hn185_1) | (show (Addr.add _ _).block ≠ _; rw [add_block]; exact hn185_1) | exact hn185_1) (.string ((rd_T32 t177 x8_1).f1))).trans hx185_0
                            replace hx185_1 := (cell_far (p := ⟨gb184, 1, none⟩) (by first | (rw [add_block]; exact hn185_1) | (show (Addr.add _ _).block ≠ _; rw [add_block]; exact hn185_1) | exact hn185_1) (.string ((rd_T32 t177 x8_1).f1))).trans hx185_1
                            replace hx185_2 := (cell_far (p := ⟨gb184, 1, none⟩) (by first | (rw [add_block]; exact hn185_1) | (show (Addr.add _ _).block ≠ _; rw [add_block]; exact hn185_1) | exact hn185_1) (.string ((rd_T32 t177 x8_1).f1))).trans hx185_2
                            replace hx185_3 := (cell_far (p := ⟨gb184, 1, none⟩) (by first | (rw [add_block]; exact hn185_1) | (show (Addr.add _ _).block ≠ _; rw [add_block]; exact hn185_1) | exact hn185_1) (.string ((rd_T32 t177 x8_1).f1))).trans hx185_3
                            replace hx185_0 := (cell_far (p := ⟨gb184, 2, none⟩) (by first | (rw [add_block]; exact hn185_2) | (show (Addr.add _ _).block ≠ _; rw [add_block]; exact hn185_2) | exact hn185_2) (.int .i64 ((rd_T32 t177 x8_1).f2))).trans hx185_0
                            replace hx185_1 := (cell_far (p := ⟨gb184, 2, none⟩) (by first | (rw [add_block]; exact hn185_2) | (show (Addr.add _ _).block ≠ _; rw [add_block]; exact hn185_2) | exact hn185_2) (.int .i64 ((rd_T32 t177 x8_1).f2))).trans hx185_1
                            replace hx185_2 := (cell_far (p := ⟨gb184, 2, none⟩) (by first | (rw [add_block]; exact hn185_2) | (show (Addr.add _ _).block ≠ _; rw [add_block]; exact hn185_2) | exact hn185_2) (.int .i64 ((rd_T32 t177 x8_1).f2))).trans hx185_2
                            replace hx185_3 := (cell_far (p := ⟨gb184, 2, none⟩) (by first | (rw [add_block]; exact hn185_2) | (show (Addr.add _ _).block ≠ _; rw [add_block]; exact hn185_2) | exact hn185_2) (.int .i64 ((rd_T32 t177 x8_1).f2))).trans hx185_3
                            replace hx185_0 := (cell_far (p := ⟨gb184, 3, none⟩) (by first | (rw [add_block]; exact hn185_3) | (show (Addr.add _ _).block ≠ _; rw [add_block]; exact hn185_3) | exact hn185_3) (.int .i64 ((rd_T32 t177 x8_1).f3))).trans hx185_0
                            replace hx185_1 := (cell_far (p := ⟨gb184, 3, none⟩) (by first | (rw [add_block]; exact hn185_3) | (show (Addr.add _ _).block ≠ _; rw [add_block]; exact hn185_3) | exact hn185_3) (.int .i64 ((rd_T32 t177 x8_1).f3))).trans hx185_1
                            replace hx185_2 := (cell_far (p := ⟨gb184, 3, none⟩) (by first | (rw [add_block]; exact hn185_3) | (show (Addr.add _ _).block ≠ _; rw [add_block]; exact hn185_3) | exact hn185_3) (.int .i64 ((rd_T32 t177 x8_1).f3))).trans hx185_2
                            replace hx185_3 := (cell_far (p := ⟨gb184, 3, none⟩) (by first | (rw [add_block]; exact hn185_3) | (show (Addr.add _ _).block ≠ _; rw [add_block]; exact hn185_3) | exact hn185_3) (.int .i64 ((rd_T32 t177 x8_1).f3))).trans hx185_3
                            (try have hy185_0 := fun (n_ : Nat) => (show ((((((w13.drewN n_).setCell ⟨gb184, 0, none⟩ (.int .i64 ((rd_T32 t177 x8_1).f0))).setCell ⟨gb184, 1, none⟩ (.string ((rd_T32 t177 x8_1).f1))).setCell ⟨gb184, 2, none⟩ (.int .i64 ((rd_T32 t177 x8_1).f2))).setCell ⟨gb184, 3, none⟩ (.int .i64 ((rd_T32 t177 x8_1).f3)))).cell? _ = some _ from hx185_0))
                            (try have hy185_1 := fun (n_ : Nat) => (show ((((((w13.drewN n_).setCell ⟨gb184, 0, none⟩ (.int .i64 ((rd_T32 t177 x8_1).f0))).setCell ⟨gb184, 1, none⟩ (.string ((rd_T32 t177 x8_1).f1))).setCell ⟨gb184, 2, none⟩ (.int .i64 ((rd_T32 t177 x8_1).f2))).setCell ⟨gb184, 3, none⟩ (.int .i64 ((rd_T32 t177 x8_1).f3)))).cell? _ = some _ from hx185_1))
                            (try have hy185_2 := fun (n_ : Nat) => (show ((((((w13.drewN n_).setCell ⟨gb184, 0, none⟩ (.int .i64 ((rd_T32 t177 x8_1).f0))).setCell ⟨gb184, 1, none⟩ (.string ((rd_T32 t177 x8_1).f1))).setCell ⟨gb184, 2, none⟩ (.int .i64 ((rd_T32 t177 x8_1).f2))).setCell ⟨gb184, 3, none⟩ (.int .i64 ((rd_T32 t177 x8_1).f3)))).cell? _ = some _ from hx185_2))
                            (try have hy185_3 := fun (n_ : Nat) => (show ((((((w13.drewN n_).setCell ⟨gb184, 0, none⟩ (.int .i64 ((rd_T32 t177 x8_1).f0))).setCell ⟨gb184, 1, none⟩ (.string ((rd_T32 t177 x8_1).f1))).setCell ⟨gb184, 2, none⟩ (.int .i64 ((rd_T32 t177 x8_1).f2))).setCell ⟨gb184, 3, none⟩ (.int .i64 ((rd_T32 t177 x8_1).f3)))).cell? _ = some _ from hx185_3))
                            clear hn185_0
                            clear hn185_1
                            clear hn185_2
                            clear hn185_3
                            replace p185 := eq_true p185
                            replace q185 := eq_true q185
                            go_wp2
                            repeat (go_quiet (fail); try go_wp2)
                            go_meet
                            case rel => exact ⟨_, ((((rd_T32 t177 (ji22)).f0) == 4)), (by first | rfl | (simp; done) | (simp only [← hji22] <;> (first | rfl | simp)) | (simp [*]; done)), H', ⟨by have := HK1.out; first | omega | exact Nat.le_refl _⟩, ⟨by (with_reducible repeat (first | apply Kd.R_alloc | apply Kd.R_drewN | apply Kd.R_drew)); exact Kd.R_mono (Kd.R_far (p := ⟨gb184, 3, none⟩) (Kd.R_far (p := ⟨gb184, 2, none⟩) (Kd.R_far (p := ⟨gb184, 1, none⟩) (Kd.R_far (p := ⟨gb184, 0, none⟩) (Kd.R_mono HO_4.out (fun k_ hk => (⟨hk, hk.2⟩ : _ ∧ k_ ≠ gb184))) (fun _ hk => hk.2) (.int .i64 ((rd_T32 t177 x8_1).f0))) (fun _ hk => hk.2) (.string ((rd_T32 t177 x8_1).f1))) (fun _ hk => hk.2) (.int .i64 ((rd_T32 t177 x8_1).f2))) (fun _ hk => hk.2) (.int .i64 ((rd_T32 t177 x8_1).f3))) (fun _ hk => hk.1.2)⟩, ⟨by (with_reducible repeat (first | refine blk_drewN ?_ _ | refine blk_drew ?_ | refine blk_alloc ?_ _)); refine blk_put (cs := #[.int .i64 ((rd_T32 t177 x8_1).f0), .string ((rd_T32 t177 x8_1).f1), .int .i64 ((rd_T32 t177 x8_1).f2), .int .i64 0]) ?_ 3 _ rfl; (with_reducible repeat (first | refine blk_drewN ?_ _ | refine blk_drew ?_ | refine blk_alloc ?_ _)); refine blk_put (cs := #[.int .i64 ((rd_T32 t177 x8_1).f0), .string ((rd_T32 t177 x8_1).f1), .int .i64 0, .int .i64 0]) ?_ 2 _ rfl; (with_reducible repeat (first | refine blk_drewN ?_ _ | refine blk_drew ?_ | refine blk_alloc ?_ _)); refine blk_put (cs := #[.int .i64 ((rd_T32 t177 x8_1).f0), .string (⟨#[]⟩ : ByteArray), .int .i64 0, .int .i64 0]) ?_ 1 _ rfl; (with_reducible repeat (first | refine blk_drewN ?_ _ | refine blk_drew ?_ | refine blk_alloc ?_ _)); refine blk_put (cs := #[.int .i64 0, .string (⟨#[]⟩ : ByteArray), .int .i64 0, .int .i64 0]) ?_ 0 _ rfl; (with_reducible repeat (first | refine blk_drewN ?_ _ | refine blk_drew ?_ | refine blk_alloc ?_ _)); exact BK184.out⟩, ⟨by repeat (first | (with_reducible first | exact HB.out | apply below_alloc | apply pw_below_drewN | apply below_drew1 | refine below_set ?_ GE184.out) | exact HB.out)⟩⟩
                          · rw [if_neg c24] at H
                            exact absurd H (by simp)
                        · rw [if_neg c23] at H
                          exact absurd H (by simp)
                    · rw [if_neg c19] at H
                      have c19b0 : (((rd_T32 t177 x8_1).f0) == 4) = false := beq_eq_false_iff_ne.mpr c19
                      have c19b1 : (((rd_T32 t177 x8_1).f0) != 4) = true := bne_iff_ne.mpr c19
                      have H' := Aside0.mk H
                      clear H
                      have hcz26_0 : w13.cell? ⟨gb184, 0, none⟩ = some (.int .i64 0) := (blk_cell BK184.out 0).trans rfl
                      have hcz26_1 : w13.cell? ⟨gb184, 1, none⟩ = some (.string (⟨#[]⟩ : ByteArray)) := (blk_cell BK184.out 1).trans rfl
                      have hcz26_2 : w13.cell? ⟨gb184, 2, none⟩ = some (.int .i64 0) := (blk_cell BK184.out 2).trans rfl
                      have hcz26_3 : w13.cell? ⟨gb184, 3, none⟩ = some (.int .i64 0) := (blk_cell BK184.out 3).trans rfl
                      have hfz26_0 := blk_frozen BK184.out 0
                      have hfz26_1 := blk_frozen BK184.out 1
                      have hfz26_2 := blk_frozen BK184.out 2
                      have hfz26_3 := blk_frozen BK184.out 3
                      go_wp2
                      repeat (go_quiet (fail); try go_wp2)
                      go_meet
                      case rel => exact ⟨_, (false), (by first | rfl | (simp; done) | (simp [*]; done)), H', ⟨by have := HK1.out; first | omega | exact Nat.le_refl _⟩, ⟨by (with_reducible repeat (first | apply Kd.R_alloc | apply Kd.R_drewN | apply Kd.R_drew)); exact Kd.R_mono (Kd.R_far (p := ⟨gb184, 3, none⟩) (Kd.R_far (p := ⟨gb184, 2, none⟩) (Kd.R_far (p := ⟨gb184, 1, none⟩) (Kd.R_far (p := ⟨gb184, 0, none⟩) (Kd.R_mono HO_4.out (fun k_ hk => (⟨hk, hk.2⟩ : _ ∧ k_ ≠ gb184))) (fun _ hk => hk.2) (.int .i64 ((rd_T32 t177 x8_1).f0))) (fun _ hk => hk.2) (.string ((rd_T32 t177 x8_1).f1))) (fun _ hk => hk.2) (.int .i64 ((rd_T32 t177 x8_1).f2))) (fun _ hk => hk.2) (.int .i64 ((rd_T32 t177 x8_1).f3))) (fun _ hk => hk.1.2)⟩, ⟨by (with_reducible repeat (first | refine blk_drewN ?_ _ | refine blk_drew ?_ | refine blk_alloc ?_ _)); refine blk_put (cs := #[.int .i64 ((rd_T32 t177 x8_1).f0), .string ((rd_T32 t177 x8_1).f1), .int .i64 ((rd_T32 t177 x8_1).f2), .int .i64 0]) ?_ 3 _ rfl; (with_reducible repeat (first | refine blk_drewN ?_ _ | refine blk_drew ?_ | refine blk_alloc ?_ _)); refine blk_put (cs := #[.int .i64 ((rd_T32 t177 x8_1).f0), .string ((rd_T32 t177 x8_1).f1), .int .i64 0, .int .i64 0]) ?_ 2 _ rfl; (with_reducible repeat (first | refine blk_drewN ?_ _ | refine blk_drew ?_ | refine blk_alloc ?_ _)); refine blk_put (cs := #[.int .i64 ((rd_T32 t177 x8_1).f0), .string (⟨#[]⟩ : ByteArray), .int .i64 0, .int .i64 0]) ?_ 1 _ rfl; (with_reducible repeat (first | refine blk_drewN ?_ _ | refine blk_drew ?_ | refine blk_alloc ?_ _)); refine blk_put (cs := #[.int .i64 0, .string (⟨#[]⟩ : ByteArray), .int .i64 0, .int .i64 0]) ?_ 0 _ rfl; (with_reducible repeat (first | refine blk_drewN ?_ _ | refine blk_drew ?_ | refine blk_alloc ?_ _)); exact BK184.out⟩, ⟨by repeat (first | (with_reducible first | exact HB.out | apply below_alloc | apply pw_below_drewN | apply below_drew1 | refine below_set ?_ GE184.out) | exact HB.out)⟩⟩
              case rest =>
                clear HC11
                try clear c1
                try clear p1
                try clear q1
                try clear hx1
                try clear c2
                try clear p2
                try clear c3
                try clear c4
                try clear c4b0
                try clear c4b1
                try clear c5
                try clear p6
                try clear c9
                try clear c9b0
                try clear c10
                try clear c10b0
                try clear c15
                try clear c15b0
                try clear c17
                try clear c17b0
                try clear p18
                try clear q18
                try clear hx18
                try clear c19
                try clear c19b0
                try clear c19b1
                try clear c20
                try clear c20b0
                try clear c20b1
                try clear c23
                try clear c23b0
                try clear c24
                try clear c24b0
                try clear hcz14_0
                try clear hcz14_1
                try clear hcz14_2
                try clear hcz14_3
                try clear hcz16_0
                try clear hcz16_1
                try clear hcz16_2
                try clear hcz16_3
                try clear hcz18_0
                try clear hcz18_1
                try clear hcz18_2
                try clear hcz18_3
                try clear hcz21_0
                try clear hcz21_1
                try clear hcz21_2
                try clear hcz21_3
                try clear hcz25_0
                try clear hcz25_1
                try clear hcz25_2
                try clear hcz25_3
                try clear hcz26_0
                try clear hcz26_1
                try clear hcz26_2
                try clear hcz26_3
                try clear hfz14_0
                try clear hfz14_1
                try clear hfz14_2
                try clear hfz14_3
                try clear hfz16_0
                try clear hfz16_1
                try clear hfz16_2
                try clear hfz16_3
                try clear hfz18_0
                try clear hfz18_1
                try clear hfz18_2
                try clear hfz18_3
                try clear hfz21_0
                try clear hfz21_1
                try clear hfz21_2
                try clear hfz21_3
                try clear hfz25_0
                try clear hfz25_1
                try clear hfz25_2
                try clear hfz25_3
                try clear hfz26_0
                try clear hfz26_1
                try clear hfz26_2
                try clear hfz26_3
                try clear hx183_0
                try clear hx183_1
                try clear hx183_2
                try clear hx183_3
                try clear hx185_0
                try clear hx185_1
                try clear hx185_2
                try clear hx185_3
                try clear p183
                try clear p185
                try clear p2
                try clear q183
                try clear q185
                obtain ⟨kq, x61_10, rfl, HA, HJ10, HO_4, BK184, HB⟩ := hcut
                cases kq with
                | zero => exact absurd HA.out (by simp [syntagmlaw08_WordsOrder.j1])
                | succ kj10 =>
                  have H := HA.out
                  clear HA
                  simp only [syntagmlaw08_WordsOrder.j1] at H
                  by_cases c27 : x61_10 = true
                  · subst c27
                    have H1 : (some false) = some r := by rw [if_pos rfl] at H; exact H
                    clear H
                    have H := H1
                    clear H1
                    exact absurd ((Option.some.inj H).trans HT.out) (by decide)
                  · replace c27 := Bool.eq_false_iff.mpr c27
                    subst c27
                    have H1 : (if ((rd_T32 t177 x8_1).f0) = 0 then (syntagmlaw08_WordsOrder.j2 kj10 a0 true t177 t178 t179 ((rd_T32 t177 x8_1).f3) x8_1 true ((rd_T32 t177 x8_1).f0) ((rd_T32 t177 x8_1).f1) ((rd_T32 t177 x8_1).f2) ((rd_T32 t177 x8_1).f3)) else (if ((rd_T32 t177 x8_1).f0) = 1 then (syntagmlaw08_WordsOrder.j2 kj10 a0 true t177 t178 t179 ((rd_T32 t177 x8_1).f3) x8_1 true ((rd_T32 t177 x8_1).f0) ((rd_T32 t177 x8_1).f1) ((rd_T32 t177 x8_1).f2) ((rd_T32 t177 x8_1).f3)) else (syntagmlaw08_WordsOrder.j2 kj10 a0 true t177 t178 t179 ((rd_T32 t177 x8_1).f3) x8_1 (((rd_T32 t177 x8_1).f0) == 2) ((rd_T32 t177 x8_1).f0) ((rd_T32 t177 x8_1).f1) ((rd_T32 t177 x8_1).f2) ((rd_T32 t177 x8_1).f3)))) = some r := by rw [if_neg (show ¬ (false = true) by decide)] at H; exact H
                    clear H
                    have H := H1
                    clear H1
                    have HC28 := Aside0.mk H
                    clear H
                    have hcz29_0 : wc.cell? ⟨gb184, 0, none⟩ = some (.int .i64 ((rd_T32 t177 x8_1).f0)) := (blk_cell BK184.out 0).trans rfl
                    have hcz29_1 : wc.cell? ⟨gb184, 1, none⟩ = some (.string ((rd_T32 t177 x8_1).f1)) := (blk_cell BK184.out 1).trans rfl
                    have hcz29_2 : wc.cell? ⟨gb184, 2, none⟩ = some (.int .i64 ((rd_T32 t177 x8_1).f2)) := (blk_cell BK184.out 2).trans rfl
                    have hcz29_3 : wc.cell? ⟨gb184, 3, none⟩ = some (.int .i64 ((rd_T32 t177 x8_1).f3)) := (blk_cell BK184.out 3).trans rfl
                    have hfz29_0 := blk_frozen BK184.out 0
                    have hfz29_1 := blk_frozen BK184.out 1
                    have hfz29_2 := blk_frozen BK184.out 2
                    have hfz29_3 := blk_frozen BK184.out 3
                    go_upto_region 15 with (fail)
                    repeat (go_quiet (fail); go_upto_region 15 with (fail))
                    go_cut [76] (fun v76 wc => ∃ (kq : Nat) (x76_27 : Bool), v76 = .bool x76_27 ∧ Aside0 (syntagmlaw08_WordsOrder.j2 kq a0 true t177 t178 t179 ((rd_T32 t177 x8_1).f3) x8_1 x76_27 ((rd_T32 t177 x8_1).f0) ((rd_T32 t177 x8_1).f1) ((rd_T32 t177 x8_1).f2) ((rd_T32 t177 x8_1).f3) = some r) ∧ Aside0 (kq ≤ kj10) ∧ Aside0 (Kd.R k32 32 wc w.heap.size (fun k_ => k_ ≠ gb184) (.slice (some ad183) t177.length co12) t177) ∧ Aside0 (wc.heap[gb184]? = some (.cells #[.int .i64 ((rd_T32 t177 x8_1).f0), .string ((rd_T32 t177 x8_1).f1), .int .i64 ((rd_T32 t177 x8_1).f2), .int .i64 ((rd_T32 t177 x8_1).f3)] 32 (0, 0))) ∧ Aside0 (Below w.heap.size w wc))
                    case first =>
                      have H := HC28.out
                      clear HC28
                      by_cases c30 : ((rd_T32 t177 x8_1).f0) = 0
                      · rw [if_pos c30] at H
                        have c30b0 : (((rd_T32 t177 x8_1).f0) == 0) = true := beq_iff_eq.mpr c30
                        have c30b1 : (((rd_T32 t177 x8_1).f0) != 0) = false := bne_eq_false_iff_eq.mpr c30
                        clear c30
                        (first | rw [c30b0] | (simp only [i64_w, i32_w]; rw [c30b0]) | skip)
                        have H' := Aside0.mk H
                        clear H
                        have hcz31_0 : wc.cell? ⟨gb184, 0, none⟩ = some (.int .i64 ((rd_T32 t177 x8_1).f0)) := (blk_cell BK184.out 0).trans rfl
                        have hcz31_1 : wc.cell? ⟨gb184, 1, none⟩ = some (.string ((rd_T32 t177 x8_1).f1)) := (blk_cell BK184.out 1).trans rfl
                        have hcz31_2 : wc.cell? ⟨gb184, 2, none⟩ = some (.int .i64 ((rd_T32 t177 x8_1).f2)) := (blk_cell BK184.out 2).trans rfl
                        have hcz31_3 : wc.cell? ⟨gb184, 3, none⟩ = some (.int .i64 ((rd_T32 t177 x8_1).f3)) := (blk_cell BK184.out 3).trans rfl
                        have hfz31_0 := blk_frozen BK184.out 0
                        have hfz31_1 := blk_frozen BK184.out 1
                        have hfz31_2 := blk_frozen BK184.out 2
                        have hfz31_3 := blk_frozen BK184.out 3
                        go_wp2
                        repeat (go_quiet (fail); try go_wp2)
                        go_meet
                        case rel => exact ⟨_, (true), (by first | rfl | (simp; done) | (simp [*]; done)), H', ⟨by have := HK1.out; have := HJ10.out; first | omega | exact Nat.le_refl _⟩, ⟨by (with_reducible repeat (first | apply Kd.R_alloc | apply Kd.R_drewN | apply Kd.R_drew)); exact HO_4.out⟩, ⟨by (with_reducible repeat (first | refine blk_drewN ?_ _ | refine blk_drew ?_ | refine blk_alloc ?_ _)); exact BK184.out⟩, ⟨by repeat (first | (with_reducible first | exact HB.out | apply below_alloc | apply pw_below_drewN | apply below_drew1 | refine below_set ?_ GE184.out) | exact HB.out)⟩⟩
                      · rw [if_neg c30] at H
                        have c30b0 : (((rd_T32 t177 x8_1).f0) == 0) = false := beq_eq_false_iff_ne.mpr c30
                        have c30b1 : (((rd_T32 t177 x8_1).f0) != 0) = true := bne_iff_ne.mpr c30
                        (first | rw [c30b0] | (simp only [i64_w, i32_w]; rw [c30b0]) | skip)
                        by_cases c32 : ((rd_T32 t177 x8_1).f0) = 1
                        · rw [if_pos c32] at H
                          have c32b0 : (((rd_T32 t177 x8_1).f0) == 1) = true := beq_iff_eq.mpr c32
                          have c32b1 : (((rd_T32 t177 x8_1).f0) != 1) = false := bne_eq_false_iff_eq.mpr c32
                          clear c32
                          have H' := Aside0.mk H
                          clear H
                          have hcz33_0 : wc.cell? ⟨gb184, 0, none⟩ = some (.int .i64 ((rd_T32 t177 x8_1).f0)) := (blk_cell BK184.out 0).trans rfl
                          have hcz33_1 : wc.cell? ⟨gb184, 1, none⟩ = some (.string ((rd_T32 t177 x8_1).f1)) := (blk_cell BK184.out 1).trans rfl
                          have hcz33_2 : wc.cell? ⟨gb184, 2, none⟩ = some (.int .i64 ((rd_T32 t177 x8_1).f2)) := (blk_cell BK184.out 2).trans rfl
                          have hcz33_3 : wc.cell? ⟨gb184, 3, none⟩ = some (.int .i64 ((rd_T32 t177 x8_1).f3)) := (blk_cell BK184.out 3).trans rfl
                          have hfz33_0 := blk_frozen BK184.out 0
                          have hfz33_1 := blk_frozen BK184.out 1
                          have hfz33_2 := blk_frozen BK184.out 2
                          have hfz33_3 := blk_frozen BK184.out 3
                          go_wp2
                          repeat (go_quiet (fail); try go_wp2)
                          go_meet
                          case rel => exact ⟨_, (true), (by first | rfl | (simp; done) | (simp [*]; done)), H', ⟨by have := HK1.out; have := HJ10.out; first | omega | exact Nat.le_refl _⟩, ⟨by (with_reducible repeat (first | apply Kd.R_alloc | apply Kd.R_drewN | apply Kd.R_drew)); exact HO_4.out⟩, ⟨by (with_reducible repeat (first | refine blk_drewN ?_ _ | refine blk_drew ?_ | refine blk_alloc ?_ _)); exact BK184.out⟩, ⟨by repeat (first | (with_reducible first | exact HB.out | apply below_alloc | apply pw_below_drewN | apply below_drew1 | refine below_set ?_ GE184.out) | exact HB.out)⟩⟩
                        · rw [if_neg c32] at H
                          have c32b0 : (((rd_T32 t177 x8_1).f0) == 1) = false := beq_eq_false_iff_ne.mpr c32
                          have c32b1 : (((rd_T32 t177 x8_1).f0) != 1) = true := bne_iff_ne.mpr c32
                          have H' := Aside0.mk H
                          clear H
                          have hcz34_0 : wc.cell? ⟨gb184, 0, none⟩ = some (.int .i64 ((rd_T32 t177 x8_1).f0)) := (blk_cell BK184.out 0).trans rfl
                          have hcz34_1 : wc.cell? ⟨gb184, 1, none⟩ = some (.string ((rd_T32 t177 x8_1).f1)) := (blk_cell BK184.out 1).trans rfl
                          have hcz34_2 : wc.cell? ⟨gb184, 2, none⟩ = some (.int .i64 ((rd_T32 t177 x8_1).f2)) := (blk_cell BK184.out 2).trans rfl
                          have hcz34_3 : wc.cell? ⟨gb184, 3, none⟩ = some (.int .i64 ((rd_T32 t177 x8_1).f3)) := (blk_cell BK184.out 3).trans rfl
                          have hfz34_0 := blk_frozen BK184.out 0
                          have hfz34_1 := blk_frozen BK184.out 1
                          have hfz34_2 := blk_frozen BK184.out 2
                          have hfz34_3 := blk_frozen BK184.out 3
                          go_wp2
                          repeat (go_quiet (fail); try go_wp2)
                          go_meet
                          case rel => exact ⟨_, ((((rd_T32 t177 x8_1).f0) == 2)), (by first | rfl | (simp; done) | (simp [*]; done)), H', ⟨by have := HK1.out; have := HJ10.out; first | omega | exact Nat.le_refl _⟩, ⟨by (with_reducible repeat (first | apply Kd.R_alloc | apply Kd.R_drewN | apply Kd.R_drew)); exact HO_4.out⟩, ⟨by (with_reducible repeat (first | refine blk_drewN ?_ _ | refine blk_drew ?_ | refine blk_alloc ?_ _)); exact BK184.out⟩, ⟨by repeat (first | (with_reducible first | exact HB.out | apply below_alloc | apply pw_below_drewN | apply below_drew1 | refine below_set ?_ GE184.out) | exact HB.out)⟩⟩
                    case rest =>
                      clear HC28
                      try clear c1
                      try clear p1
                      try clear q1
                      try clear hx1
                      try clear c2
                      try clear p2
                      try clear c3
                      try clear c4
                      try clear c4b0
                      try clear c4b1
                      try clear c5
                      try clear p6
                      try clear c9
                      try clear c9b0
                      try clear c10
                      try clear c10b0
                      try clear c15
                      try clear c15b0
                      try clear c17
                      try clear c17b0
                      try clear p18
                      try clear q18
                      try clear hx18
                      try clear c19
                      try clear c19b0
                      try clear c19b1
                      try clear c20
                      try clear c20b0
                      try clear c20b1
                      try clear c23
                      try clear c23b0
                      try clear c24
                      try clear c24b0
                      try clear c27
                      try clear c30
                      try clear c30b0
                      try clear c30b1
                      try clear c32
                      try clear c32b0
                      try clear c32b1
                      try clear hcz14_0
                      try clear hcz14_1
                      try clear hcz14_2
                      try clear hcz14_3
                      try clear hcz16_0
                      try clear hcz16_1
                      try clear hcz16_2
                      try clear hcz16_3
                      try clear hcz18_0
                      try clear hcz18_1
                      try clear hcz18_2
                      try clear hcz18_3
                      try clear hcz21_0
                      try clear hcz21_1
                      try clear hcz21_2
                      try clear hcz21_3
                      try clear hcz25_0
                      try clear hcz25_1
                      try clear hcz25_2
                      try clear hcz25_3
                      try clear hcz26_0
                      try clear hcz26_1
                      try clear hcz26_2
                      try clear hcz26_3
                      try clear hcz29_0
                      try clear hcz29_1
                      try clear hcz29_2
                      try clear hcz29_3
                      try clear hcz31_0
                      try clear hcz31_1
                      try clear hcz31_2
                      try clear hcz31_3
                      try clear hcz33_0
                      try clear hcz33_1
                      try clear hcz33_2
                      try clear hcz33_3
                      try clear hcz34_0
                      try clear hcz34_1
                      try clear hcz34_2
                      try clear hcz34_3
                      try clear hfz14_0
                      try clear hfz14_1
                      try clear hfz14_2
                      try clear hfz14_3
                      try clear hfz16_0
                      try clear hfz16_1
                      try clear hfz16_2
                      try clear hfz16_3
                      try clear hfz18_0
                      try clear hfz18_1
                      try clear hfz18_2
                      try clear hfz18_3
                      try clear hfz21_0
                      try clear hfz21_1
                      try clear hfz21_2
                      try clear hfz21_3
                      try clear hfz25_0
                      try clear hfz25_1
                      try clear hfz25_2
                      try clear hfz25_3
                      try clear hfz26_0
                      try clear hfz26_1
                      try clear hfz26_2
                      try clear hfz26_3
                      try clear hfz29_0
                      try clear hfz29_1
                      try clear hfz29_2
                      try clear hfz29_3
                      try clear hfz31_0
                      try clear hfz31_1
                      try clear hfz31_2
                      try clear hfz31_3
                      try clear hfz33_0
                      try clear hfz33_1
                      try clear hfz33_2
                      try clear hfz33_3
                      try clear hfz34_0
                      try clear hfz34_1
                      try clear hfz34_2
                      try clear hfz34_3
                      try clear hx183_0
                      try clear hx183_1
                      try clear hx183_2
                      try clear hx183_3
                      try clear hx185_0
                      try clear hx185_1
                      try clear hx185_2
                      try clear hx185_3
                      try clear p1
                      try clear p18
                      try clear p183
                      try clear p185
                      try clear p2
                      try clear p6
                      try clear q1
                      try clear q18
                      try clear q183
                      try clear q185
                      obtain ⟨kq, x76_27, rfl, HA, HJ27, HO_4, BK184, HB⟩ := hcut
                      cases kq with
                      | zero => exact absurd HA.out (by simp [syntagmlaw08_WordsOrder.j2])
                      | succ kj27 =>
                        have H := HA.out
                        clear HA
                        simp only [syntagmlaw08_WordsOrder.j2] at H
                        by_cases c35 : x76_27 = true
                        · subst c35
                          have H1 : (if (wrap64 (((rd_T32 t177 x8_1).f3) + (((rd_T32 t177 x8_1).f1).size : Int))) > (a0.size : Int) then (syntagmlaw08_WordsOrder.j3 kj27 a0 true t177 t178 t179 (wrap64 (((rd_T32 t177 x8_1).f3) + (((rd_T32 t177 x8_1).f1).size : Int))) x8_1 true ((rd_T32 t177 x8_1).f0) ((rd_T32 t177 x8_1).f1) ((rd_T32 t177 x8_1).f2) ((rd_T32 t177 x8_1).f3)) else (if 0 ≤ ((rd_T32 t177 x8_1).f3) then (if ((rd_T32 t177 x8_1).f3) ≤ (wrap64 (((rd_T32 t177 x8_1).f3) + (((rd_T32 t177 x8_1).f1).size : Int))) then (if (wrap64 (((rd_T32 t177 x8_1).f3) + (((rd_T32 t177 x8_1).f1).size : Int))) ≤ (a0.size : Int) then (if (a0.extract (((rd_T32 t177 x8_1).f3) : Int).toNat ((wrap64 (((rd_T32 t177 x8_1).f3) + (((rd_T32 t177 x8_1).f1).size : Int))) : Int).toNat).toList = ((rd_T32 t177 x8_1).f1).toList then (syntagmlaw08_WordsOrder.j3 kj27 a0 true t177 t178 t179 (wrap64 (((rd_T32 t177 x8_1).f3) + (((rd_T32 t177 x8_1).f1).size : Int))) x8_1 ((((rd_T32 t177 x8_1).f1).size : Int) == 0) ((rd_T32 t177 x8_1).f0) ((rd_T32 t177 x8_1).f1) ((rd_T32 t177 x8_1).f2) ((rd_T32 t177 x8_1).f3)) else (syntagmlaw08_WordsOrder.j3 kj27 a0 true t177 t178 t179 (wrap64 (((rd_T32 t177 x8_1).f3) + (((rd_T32 t177 x8_1).f1).size : Int))) x8_1 true ((rd_T32 t177 x8_1).f0) ((rd_T32 t177 x8_1).f1) ((rd_T32 t177 x8_1).f2) ((rd_T32 t177 x8_1).f3))) else (none)) else (none)) else (none))) = some r := by rw [if_pos rfl] at H; exact H
                          clear H
                          have H := H1
                          clear H1
                          have HC36 := Aside0.mk H
                          clear H
                          have hcz37_0 : wc.cell? ⟨gb184, 0, none⟩ = some (.int .i64 ((rd_T32 t177 x8_1).f0)) := (blk_cell BK184.out 0).trans rfl
                          have hcz37_1 : wc.cell? ⟨gb184, 1, none⟩ = some (.string ((rd_T32 t177 x8_1).f1)) := (blk_cell BK184.out 1).trans rfl
                          have hcz37_2 : wc.cell? ⟨gb184, 2, none⟩ = some (.int .i64 ((rd_T32 t177 x8_1).f2)) := (blk_cell BK184.out 2).trans rfl
                          have hcz37_3 : wc.cell? ⟨gb184, 3, none⟩ = some (.int .i64 ((rd_T32 t177 x8_1).f3)) := (blk_cell BK184.out 3).trans rfl
                          have hfz37_0 := blk_frozen BK184.out 0
                          have hfz37_1 := blk_frozen BK184.out 1
                          have hfz37_2 := blk_frozen BK184.out 2
                          have hfz37_3 := blk_frozen BK184.out 3
                          go_upto_region 17 with (fail)
                          repeat (go_quiet (fail); go_upto_region 17 with (fail))
                          go_cut [102] (fun v102 wc => ∃ (kq : Nat) (x102_35 : Bool), v102 = .bool x102_35 ∧ Aside0 (syntagmlaw08_WordsOrder.j3 kq a0 true t177 t178 t179 (wrap64 (((rd_T32 t177 x8_1).f3) + (((rd_T32 t177 x8_1).f1).size : Int))) x8_1 x102_35 ((rd_T32 t177 x8_1).f0) ((rd_T32 t177 x8_1).f1) ((rd_T32 t177 x8_1).f2) ((rd_T32 t177 x8_1).f3) = some r) ∧ Aside0 (kq ≤ kj27) ∧ Aside0 (Kd.R k32 32 wc w.heap.size (fun k_ => k_ ≠ gb184) (.slice (some ad183) t177.length co12) t177) ∧ Aside0 (wc.heap[gb184]? = some (.cells #[.int .i64 ((rd_T32 t177 x8_1).f0), .string ((rd_T32 t177 x8_1).f1), .int .i64 ((rd_T32 t177 x8_1).f2), .int .i64 ((rd_T32 t177 x8_1).f3)] 32 (0, 0))) ∧ Aside0 (Below w.heap.size w wc))
                          case first =>
                            have H := HC36.out
                            clear HC36
                            by_cases c38 : (wrap64 (((rd_T32 t177 x8_1).f3) + (((rd_T32 t177 x8_1).f1).size : Int))) > (a0.size : Int)
                            · rw [if_pos c38] at H
                              have c38b0 : decide ((a0.size : Int) < (wrap64 (((rd_T32 t177 x8_1).f3) + (((rd_T32 t177 x8_1).f1).size : Int)))) = true := decide_eq_true c38
                              clear c38
                              (first | rw [c38b0] | (simp only [i64_w, i32_w]; rw [c38b0]) | skip)
                              have H' := Aside0.mk H
                              clear H
                              go_wp2
                              repeat (go_quiet (fail); try go_wp2)
                              go_meet
                              case rel => exact ⟨_, (true), (by first | rfl | (simp; done) | (simp [*]; done)), H', ⟨by have := HK1.out; have := HJ10.out; have := HJ27.out; first | omega | exact Nat.le_refl _⟩, ⟨by (with_reducible repeat (first | apply Kd.R_alloc | apply Kd.R_drewN | apply Kd.R_drew)); exact HO_4.out⟩, ⟨by (with_reducible repeat (first | refine blk_drewN ?_ _ | refine blk_drew ?_ | refine blk_alloc ?_ _)); exact BK184.out⟩, ⟨by repeat (first | (with_reducible first | exact HB.out | apply below_alloc | apply pw_below_drewN | apply below_drew1 | refine below_set ?_ GE184.out) | exact HB.out)⟩⟩
                            · rw [if_neg c38] at H
                              have c38b0 : decide ((a0.size : Int) < (wrap64 (((rd_T32 t177 x8_1).f3) + (((rd_T32 t177 x8_1).f1).size : Int)))) = false := decide_eq_false c38
                              clear c38
                              (first | rw [c38b0] | (simp only [i64_w, i32_w]; rw [c38b0]) | skip)
                              by_cases c39 : 0 ≤ ((rd_T32 t177 x8_1).f3)
                              · rw [if_pos c39] at H
                                have c39b0 := eq_true c39
                                have c39b1 : decide (0 ≤ ((rd_T32 t177 x8_1).f3)) = true := decide_eq_true c39
                                clear c39
                                by_cases c40 : ((rd_T32 t177 x8_1).f3) ≤ (wrap64 (((rd_T32 t177 x8_1).f3) + (((rd_T32 t177 x8_1).f1).size : Int)))
                                · rw [if_pos c40] at H
                                  have c40b0 := eq_true c40
                                  have c40b1 : decide (((rd_T32 t177 x8_1).f3) ≤ (wrap64 (((rd_T32 t177 x8_1).f3) + (((rd_T32 t177 x8_1).f1).size : Int)))) = true := decide_eq_true c40
                                  by_cases c41 : (wrap64 (((rd_T32 t177 x8_1).f3) + (((rd_T32 t177 x8_1).f1).size : Int))) ≤ (a0.size : Int)
                                  · rw [if_pos c41] at H
                                    have c41b0 := eq_true c41
                                    have c41b1 : decide ((wrap64 (((rd_T32 t177 x8_1).f3) + (((rd_T32 t177 x8_1).f1).size : Int))) ≤ (a0.size : Int)) = true := decide_eq_true c41
                                    by_cases c42 : (a0.extract (((rd_T32 t177 x8_1).f3) : Int).toNat ((wrap64 (((rd_T32 t177 x8_1).f3) + (((rd_T32 t177 x8_1).f1).size : Int))) : Int).toNat).toList = ((rd_T32 t177 x8_1).f1).toList
                                    · rw [if_pos c42] at H
                                      have c42b0 : ((a0.extract (((rd_T32 t177 x8_1).f3) : Int).toNat ((wrap64 (((rd_T32 t177 x8_1).f3) + (((rd_T32 t177 x8_1).f1).size : Int))) : Int).toNat).toList == ((rd_T32 t177 x8_1).f1).toList) = true := beq_iff_eq.mpr c42
                                      have c42b1 : ((a0.extract (((rd_T32 t177 x8_1).f3) : Int).toNat ((wrap64 (((rd_T32 t177 x8_1).f3) + (((rd_T32 t177 x8_1).f1).size : Int))) : Int).toNat).toList != ((rd_T32 t177 x8_1).f1).toList) = false := bne_eq_false_iff_eq.mpr c42
                                      clear c42
                                      have H' := Aside0.mk H
                                      clear H
                                      have hcz43_0 : wc.cell? ⟨gb184, 0, none⟩ = some (.int .i64 ((rd_T32 t177 x8_1).f0)) := (blk_cell BK184.out 0).trans rfl
                                      have hcz43_1 : wc.cell? ⟨gb184, 1, none⟩ = some (.string ((rd_T32 t177 x8_1).f1)) := (blk_cell BK184.out 1).trans rfl
                                      have hcz43_2 : wc.cell? ⟨gb184, 2, none⟩ = some (.int .i64 ((rd_T32 t177 x8_1).f2)) := (blk_cell BK184.out 2).trans rfl
                                      have hcz43_3 : wc.cell? ⟨gb184, 3, none⟩ = some (.int .i64 ((rd_T32 t177 x8_1).f3)) := (blk_cell BK184.out 3).trans rfl
                                      have hfz43_0 := blk_frozen BK184.out 0
                                      have hfz43_1 := blk_frozen BK184.out 1
                                      have hfz43_2 := blk_frozen BK184.out 2
                                      have hfz43_3 := blk_frozen BK184.out 3
                                      go_wp2
                                      repeat (go_quiet (fail); try go_wp2)
                                      go_meet
                                      case rel => exact ⟨_, (((((rd_T32 t177 x8_1).f1).size : Int) == 0)), (by first | rfl | (simp; done) | (simp [*]; done)), H', ⟨by have := HK1.out; have := HJ10.out; have := HJ27.out; first | omega | exact Nat.le_refl _⟩, ⟨by (with_reducible repeat (first | apply Kd.R_alloc | apply Kd.R_drewN | apply Kd.R_drew)); exact HO_4.out⟩, ⟨by (with_reducible repeat (first | refine blk_drewN ?_ _ | refine blk_drew ?_ | refine blk_alloc ?_ _)); exact BK184.out⟩, ⟨by repeat (first | (with_reducible first | exact HB.out | apply below_alloc | apply pw_below_drewN | apply below_drew1 | refine below_set ?_ GE184.out) | exact HB.out)⟩⟩
                                    · rw [if_neg c42] at H
                                      have c42b0 : ((a0.extract (((rd_T32 t177 x8_1).f3) : Int).toNat ((wrap64 (((rd_T32 t177 x8_1).f3) + (((rd_T32 t177 x8_1).f1).size : Int))) : Int).toNat).toList == ((rd_T32 t177 x8_1).f1).toList) = false := beq_eq_false_iff_ne.mpr c42
                                      have c42b1 : ((a0.extract (((rd_T32 t177 x8_1).f3) : Int).toNat ((wrap64 (((rd_T32 t177 x8_1).f3) + (((rd_T32 t177 x8_1).f1).size : Int))) : Int).toNat).toList != ((rd_T32 t177 x8_1).f1).toList) = true := bne_iff_ne.mpr c42
                                      have H' := Aside0.mk H
                                      clear H
                                      have hcz44_0 : wc.cell? ⟨gb184, 0, none⟩ = some (.int .i64 ((rd_T32 t177 x8_1).f0)) := (blk_cell BK184.out 0).trans rfl
                                      have hcz44_1 : wc.cell? ⟨gb184, 1, none⟩ = some (.string ((rd_T32 t177 x8_1).f1)) := (blk_cell BK184.out 1).trans rfl
                                      have hcz44_2 : wc.cell? ⟨gb184, 2, none⟩ = some (.int .i64 ((rd_T32 t177 x8_1).f2)) := (blk_cell BK184.out 2).trans rfl
                                      have hcz44_3 : wc.cell? ⟨gb184, 3, none⟩ = some (.int .i64 ((rd_T32 t177 x8_1).f3)) := (blk_cell BK184.out 3).trans rfl
                                      have hfz44_0 := blk_frozen BK184.out 0
                                      have hfz44_1 := blk_frozen BK184.out 1
                                      have hfz44_2 := blk_frozen BK184.out 2
                                      have hfz44_3 := blk_frozen BK184.out 3
                                      go_wp2
                                      repeat (go_quiet (fail); try go_wp2)
                                      go_meet
                                      case rel => exact ⟨_, (true), (by first | rfl | (simp; done) | (simp [*]; done)), H', ⟨by have := HK1.out; have := HJ10.out; have := HJ27.out; first | omega | exact Nat.le_refl _⟩, ⟨by (with_reducible repeat (first | apply Kd.R_alloc | apply Kd.R_drewN | apply Kd.R_drew)); exact HO_4.out⟩, ⟨by (with_reducible repeat (first | refine blk_drewN ?_ _ | refine blk_drew ?_ | refine blk_alloc ?_ _)); exact BK184.out⟩, ⟨by repeat (first | (with_reducible first | exact HB.out | apply below_alloc | apply pw_below_drewN | apply below_drew1 | refine below_set ?_ GE184.out) | exact HB.out)⟩⟩
                                  · rw [if_neg c41] at H
                                    exact absurd H (by simp)
                                · rw [if_neg c40] at H
                                  exact absurd H (by simp)
                              · rw [if_neg c39] at H
                                exact absurd H (by simp)
                          case rest =>
                            clear HC36
                            try clear c1
                            try clear p1
                            try clear q1
                            try clear hx1
                            try clear c2
                            try clear p2
                            try clear c3
                            try clear c4
                            try clear c4b0
                            try clear c4b1
                            try clear c5
                            try clear p6
                            try clear c9
                            try clear c9b0
                            try clear c10
                            try clear c10b0
                            try clear c15
                            try clear c15b0
                            try clear c17
                            try clear c17b0
                            try clear p18
                            try clear q18
                            try clear hx18
                            try clear c19
                            try clear c19b0
                            try clear c19b1
                            try clear c20
                            try clear c20b0
                            try clear c20b1
                            try clear c23
                            try clear c23b0
                            try clear c24
                            try clear c24b0
                            try clear c27
                            try clear c30
                            try clear c30b0
                            try clear c30b1
                            try clear c32
                            try clear c32b0
                            try clear c32b1
                            try clear c35
                            try clear c38
                            try clear c38b0
                            try clear c39
                            try clear c39b0
                            try clear c39b1
                            try clear c40
                            try clear c40b0
                            try clear c40b1
                            try clear c41
                            try clear c41b0
                            try clear c41b1
                            try clear c42
                            try clear c42b0
                            try clear c42b1
                            try clear hcz14_0
                            try clear hcz14_1
                            try clear hcz14_2
                            try clear hcz14_3
                            try clear hcz16_0
                            try clear hcz16_1
                            try clear hcz16_2
                            try clear hcz16_3
                            try clear hcz18_0
                            try clear hcz18_1
                            try clear hcz18_2
                            try clear hcz18_3
                            try clear hcz21_0
                            try clear hcz21_1
                            try clear hcz21_2
                            try clear hcz21_3
                            try clear hcz25_0
                            try clear hcz25_1
                            try clear hcz25_2
                            try clear hcz25_3
                            try clear hcz26_0
                            try clear hcz26_1
                            try clear hcz26_2
                            try clear hcz26_3
                            try clear hcz29_0
                            try clear hcz29_1
                            try clear hcz29_2
                            try clear hcz29_3
                            try clear hcz31_0
                            try clear hcz31_1
                            try clear hcz31_2
                            try clear hcz31_3
                            try clear hcz33_0
                            try clear hcz33_1
                            try clear hcz33_2
                            try clear hcz33_3
                            try clear hcz34_0
                            try clear hcz34_1
                            try clear hcz34_2
                            try clear hcz34_3
                            try clear hcz37_0
                            try clear hcz37_1
                            try clear hcz37_2
                            try clear hcz37_3
                            try clear hcz43_0
                            try clear hcz43_1
                            try clear hcz43_2
                            try clear hcz43_3
                            try clear hcz44_0
                            try clear hcz44_1
                            try clear hcz44_2
                            try clear hcz44_3
                            try clear hfz14_0
                            try clear hfz14_1
                            try clear hfz14_2
                            try clear hfz14_3
                            try clear hfz16_0
                            try clear hfz16_1
                            try clear hfz16_2
                            try clear hfz16_3
                            try clear hfz18_0
                            try clear hfz18_1
                            try clear hfz18_2
                            try clear hfz18_3
                            try clear hfz21_0
                            try clear hfz21_1
                            try clear hfz21_2
                            try clear hfz21_3
                            try clear hfz25_0
                            try clear hfz25_1
                            try clear hfz25_2
                            try clear hfz25_3
                            try clear hfz26_0
                            try clear hfz26_1
                            try clear hfz26_2
                            try clear hfz26_3
                            try clear hfz29_0
                            try clear hfz29_1
                            try clear hfz29_2
                            try clear hfz29_3
                            try clear hfz31_0
                            try clear hfz31_1
                            try clear hfz31_2
                            try clear hfz31_3
                            try clear hfz33_0
                            try clear hfz33_1
                            try clear hfz33_2
                            try clear hfz33_3
                            try clear hfz34_0
                            try clear hfz34_1
                            try clear hfz34_2
                            try clear hfz34_3
                            try clear hfz37_0
                            try clear hfz37_1
                            try clear hfz37_2
                            try clear hfz37_3
                            try clear hfz43_0
                            try clear hfz43_1
                            try clear hfz43_2
                            try clear hfz43_3
                            try clear hfz44_0
                            try clear hfz44_1
                            try clear hfz44_2
                            try clear hfz44_3
                            try clear hx183_0
                            try clear hx183_1
                            try clear hx183_2
                            try clear hx183_3
                            try clear hx185_0
                            try clear hx185_1
                            try clear hx185_2
                            try clear hx185_3
                            try clear p1
                            try clear p18
                            try clear p183
                            try clear p185
                            try clear p2
                            try clear p6
                            try clear q1
                            try clear q18
                            try clear q183
                            try clear q185
                            obtain ⟨kq, x102_35, rfl, HA, HJ35, HO_4, BK184, HB⟩ := hcut
                            cases kq with
                            | zero => exact absurd HA.out (by simp [syntagmlaw08_WordsOrder.j3])
                            | succ kj35 =>
                              have H := HA.out
                              clear HA
                              simp only [syntagmlaw08_WordsOrder.j3] at H
                              by_cases c45 : x102_35 = true
                              · subst c45
                                have H1 : (some false) = some r := by rw [if_pos rfl] at H; exact H
                                clear H
                                have H := H1
                                clear H1
                                exact absurd ((Option.some.inj H).trans HT.out) (by decide)
                              · replace c45 := Bool.eq_false_iff.mpr c45
                                subst c45
                                have H1 : (if ((rd_T32 t177 x8_1).f0) = 0 then ((word_IsName.f ((rd_T32 t177 x8_1).f1)).bind fun t186 => (if t186 = true then (syntagmlaw08_WordsOrder.l0 kj35 a0 true t177 t178 t179 (wrap64 (((rd_T32 t177 x8_1).f3) + (((rd_T32 t177 x8_1).f1).size : Int))) (wrap64 (x8_1 + 1))) else (some false))) else (syntagmlaw08_WordsOrder.l0 kj35 a0 true t177 t178 t179 (wrap64 (((rd_T32 t177 x8_1).f3) + (((rd_T32 t177 x8_1).f1).size : Int))) (wrap64 (x8_1 + 1)))) = some r := by rw [if_neg (show ¬ (false = true) by decide)] at H; exact H
                                clear H
                                have H := H1
                                clear H1
                                by_cases c46 : ((rd_T32 t177 x8_1).f0) = 0
                                · rw [if_pos c46] at H
                                  have c46b0 : (((rd_T32 t177 x8_1).f0) == 0) = true := beq_iff_eq.mpr c46
                                  have c46b1 : (((rd_T32 t177 x8_1).f0) != 0) = false := bne_eq_false_iff_eq.mpr c46
                                  clear c46
                                  replace H := Option.bind_eq_some_iff.mp H
                                  obtain ⟨t186, A470, H⟩ := H
                                  replace H : (if t186 = true then (syntagmlaw08_WordsOrder.l0 kj35 a0 true t177 t178 t179 (wrap64 (((rd_T32 t177 x8_1).f3) + (((rd_T32 t177 x8_1).f1).size : Int))) (wrap64 (x8_1 + 1))) else (some false)) = some r := H
                                  have A47 := Aside0.mk A470
                                  clear A470
                                  by_cases c48 : t186 = true
                                  · subst c48
                                    have H1 : (syntagmlaw08_WordsOrder.l0 kj35 a0 true t177 t178 t179 (wrap64 (((rd_T32 t177 x8_1).f3) + (((rd_T32 t177 x8_1).f1).size : Int))) (wrap64 (x8_1 + 1))) = some r := by rw [if_pos rfl] at H; exact H
                                    clear H
                                    have H := H1
                                    clear H1
                                    have H' := Aside0.mk H
                                    clear H
                                    have hcz49_0 : wc.cell? ⟨gb184, 0, none⟩ = some (.int .i64 ((rd_T32 t177 x8_1).f0)) := (blk_cell BK184.out 0).trans rfl
                                    have hcz49_1 : wc.cell? ⟨gb184, 1, none⟩ = some (.string ((rd_T32 t177 x8_1).f1)) := (blk_cell BK184.out 1).trans rfl
                                    have hcz49_2 : wc.cell? ⟨gb184, 2, none⟩ = some (.int .i64 ((rd_T32 t177 x8_1).f2)) := (blk_cell BK184.out 2).trans rfl
                                    have hcz49_3 : wc.cell? ⟨gb184, 3, none⟩ = some (.int .i64 ((rd_T32 t177 x8_1).f3)) := (blk_cell BK184.out 3).trans rfl
                                    have hfz49_0 := blk_frozen BK184.out 0
                                    have hfz49_1 := blk_frozen BK184.out 1
                                    have hfz49_2 := blk_frozen BK184.out 2
                                    have hfz49_3 := blk_frozen BK184.out 3
                                    go_wp2_with (first | (go_at_call 13; (with_reducible refine (word_IsName.calls ((rd_T32 t177 x8_1).f1) true _ A47.out).mono ?_); rintro e w50 ⟨rfl, hb⟩; have n0_ := Aside0.mk (Kd.R_below (by (with_reducible repeat (first | apply Kd.R_alloc | apply Kd.R_drewN | apply Kd.R_drew)); exact HO_4.out) hb); have n1_ := Aside0.mk (blk_below (g := gb184) (o := .cells #[.int .i64 ((rd_T32 t177 x8_1).f0), .string ((rd_T32 t177 x8_1).f1), .int .i64 ((rd_T32 t177 x8_1).f2), .int .i64 ((rd_T32 t177 x8_1).f3)] 32 (0, 0)) (by (with_reducible repeat (first | refine blk_drewN ?_ _ | refine blk_drew ?_ | refine blk_alloc ?_ _)); exact BK184.out) hb); have n2_ := Aside0.mk (below_step (by repeat (first | (with_reducible first | exact HB.out | apply below_alloc | apply pw_below_drewN | apply below_drew1 | refine below_set ?_ GE184.out) | exact HB.out)) hb); clear HO_4; clear BK184; clear HB; have HO_4 := n0_; have BK184 := n1_; have HB := n2_; clear n0_ n1_ n2_; (try clear hb); (try clear hb2); (try clear hk); (try clear hi)))
                                    repeat (go_quiet (first | (go_at_call 13; (with_reducible refine (word_IsName.calls ((rd_T32 t177 x8_1).f1) true _ A47.out).mono ?_); rintro e w50 ⟨rfl, hb⟩; have n0_ := Aside0.mk (Kd.R_below (by (with_reducible repeat (first | apply Kd.R_alloc | apply Kd.R_drewN | apply Kd.R_drew)); exact HO_4.out) hb); have n1_ := Aside0.mk (blk_below (g := gb184) (o := .cells #[.int .i64 ((rd_T32 t177 x8_1).f0), .string ((rd_T32 t177 x8_1).f1), .int .i64 ((rd_T32 t177 x8_1).f2), .int .i64 ((rd_T32 t177 x8_1).f3)] 32 (0, 0)) (by (with_reducible repeat (first | refine blk_drewN ?_ _ | refine blk_drew ?_ | refine blk_alloc ?_ _)); exact BK184.out) hb); have n2_ := Aside0.mk (below_step (by repeat (first | (with_reducible first | exact HB.out | apply below_alloc | apply pw_below_drewN | apply below_drew1 | refine below_set ?_ GE184.out) | exact HB.out)) hb); clear HO_4; clear BK184; clear HB; have HO_4 := n0_; have BK184 := n1_; have HB := n2_; clear n0_ n1_ n2_; (try clear hb); (try clear hb2); (try clear hk); (try clear hi))); try go_wp2_with (first | (go_at_call 13; (with_reducible refine (word_IsName.calls ((rd_T32 t177 x8_1).f1) true _ A47.out).mono ?_); rintro e w50 ⟨rfl, hb⟩; have n0_ := Aside0.mk (Kd.R_below (by (with_reducible repeat (first | apply Kd.R_alloc | apply Kd.R_drewN | apply Kd.R_drew)); exact HO_4.out) hb); have n1_ := Aside0.mk (blk_below (g := gb184) (o := .cells #[.int .i64 ((rd_T32 t177 x8_1).f0), .string ((rd_T32 t177 x8_1).f1), .int .i64 ((rd_T32 t177 x8_1).f2), .int .i64 ((rd_T32 t177 x8_1).f3)] 32 (0, 0)) (by (with_reducible repeat (first | refine blk_drewN ?_ _ | refine blk_drew ?_ | refine blk_alloc ?_ _)); exact BK184.out) hb); have n2_ := Aside0.mk (below_step (by repeat (first | (with_reducible first | exact HB.out | apply below_alloc | apply pw_below_drewN | apply below_drew1 | refine below_set ?_ GE184.out) | exact HB.out)) hb); clear HO_4; clear BK184; clear HB; have HO_4 := n0_; have BK184 := n1_; have HB := n2_; clear n0_ n1_ n2_; (try clear hb); (try clear hb2); (try clear hk); (try clear hi))))
                                    go_roundg kj35
                                    case measure => have := HK1.out; have := HJ10.out; have := HJ27.out; have := HJ35.out; omega
                                    case rel => exact ⟨((wrap64 (((rd_T32 t177 x8_1).f3) + (((rd_T32 t177 x8_1).f1).size : Int)))), (wrap64 (x8_1 + 1)), (by first | rfl | (simp; done) | (simp [*]; done)), (by first | rfl | (simp; done) | (simp [*]; done)), H', ⟨by have := HK1.out; have := HJ10.out; have := HJ27.out; have := HJ35.out; omega⟩, ⟨by (with_reducible repeat (first | apply Kd.R_alloc | apply Kd.R_drewN | apply Kd.R_drew)); exact Kd.R_mono HO_4.out (fun _ hk => trivial)⟩, ⟨by repeat (first | (with_reducible first | exact HB.out | apply below_alloc | apply pw_below_drewN | apply below_drew1 | refine below_set ?_ GE184.out) | exact HB.out)⟩⟩
                                  · replace c48 := Bool.eq_false_iff.mpr c48
                                    subst c48
                                    have H1 : (some false) = some r := by rw [if_neg (show ¬ (false = true) by decide)] at H; exact H
                                    clear H
                                    have H := H1
                                    clear H1
                                    exact absurd ((Option.some.inj H).trans HT.out) (by decide)
                                · rw [if_neg c46] at H
                                  have c46b0 : (((rd_T32 t177 x8_1).f0) == 0) = false := beq_eq_false_iff_ne.mpr c46
                                  have c46b1 : (((rd_T32 t177 x8_1).f0) != 0) = true := bne_iff_ne.mpr c46
                                  have H' := Aside0.mk H
                                  clear H
                                  have hcz51_0 : wc.cell? ⟨gb184, 0, none⟩ = some (.int .i64 ((rd_T32 t177 x8_1).f0)) := (blk_cell BK184.out 0).trans rfl
                                  have hcz51_1 : wc.cell? ⟨gb184, 1, none⟩ = some (.string ((rd_T32 t177 x8_1).f1)) := (blk_cell BK184.out 1).trans rfl
                                  have hcz51_2 : wc.cell? ⟨gb184, 2, none⟩ = some (.int .i64 ((rd_T32 t177 x8_1).f2)) := (blk_cell BK184.out 2).trans rfl
                                  have hcz51_3 : wc.cell? ⟨gb184, 3, none⟩ = some (.int .i64 ((rd_T32 t177 x8_1).f3)) := (blk_cell BK184.out 3).trans rfl
                                  have hfz51_0 := blk_frozen BK184.out 0
                                  have hfz51_1 := blk_frozen BK184.out 1
                                  have hfz51_2 := blk_frozen BK184.out 2
                                  have hfz51_3 := blk_frozen BK184.out 3
                                  go_wp2
                                  repeat (go_quiet (fail); try go_wp2)
                                  go_roundg kj35
                                  case measure => have := HK1.out; have := HJ10.out; have := HJ27.out; have := HJ35.out; omega
                                  case rel => exact ⟨((wrap64 (((rd_T32 t177 x8_1).f3) + (((rd_T32 t177 x8_1).f1).size : Int)))), (wrap64 (x8_1 + 1)), (by first | rfl | (simp; done) | (simp [*]; done)), (by first | rfl | (simp; done) | (simp [*]; done)), H', ⟨by have := HK1.out; have := HJ10.out; have := HJ27.out; have := HJ35.out; omega⟩, ⟨by (with_reducible repeat (first | apply Kd.R_alloc | apply Kd.R_drewN | apply Kd.R_drew)); exact Kd.R_mono HO_4.out (fun _ hk => trivial)⟩, ⟨by repeat (first | (with_reducible first | exact HB.out | apply below_alloc | apply pw_below_drewN | apply below_drew1 | refine below_set ?_ GE184.out) | exact HB.out)⟩⟩
                        · replace c35 := Bool.eq_false_iff.mpr c35
                          subst c35
                          have H1 : (if ((rd_T32 t177 x8_1).f0) = 0 then ((word_IsName.f ((rd_T32 t177 x8_1).f1)).bind fun t187 => (if t187 = true then (syntagmlaw08_WordsOrder.l0 kj27 a0 true t177 t178 t179 ((rd_T32 t177 x8_1).f3) (wrap64 (x8_1 + 1))) else (some false))) else (syntagmlaw08_WordsOrder.l0 kj27 a0 true t177 t178 t179 ((rd_T32 t177 x8_1).f3) (wrap64 (x8_1 + 1)))) = some r := by rw [if_neg (show ¬ (false = true) by decide)] at H; exact H
                          clear H
                          have H := H1
                          clear H1
                          by_cases c52 : ((rd_T32 t177 x8_1).f0) = 0
                          · rw [if_pos c52] at H
                            have c52b0 : (((rd_T32 t177 x8_1).f0) == 0) = true := beq_iff_eq.mpr c52
                            have c52b1 : (((rd_T32 t177 x8_1).f0) != 0) = false := bne_eq_false_iff_eq.mpr c52
                            clear c52
                            replace H := Option.bind_eq_some_iff.mp H
                            obtain ⟨t187, A530, H⟩ := H
                            replace H : (if t187 = true then (syntagmlaw08_WordsOrder.l0 kj27 a0 true t177 t178 t179 ((rd_T32 t177 x8_1).f3) (wrap64 (x8_1 + 1))) else (some false)) = some r := H
                            have A53 := Aside0.mk A530
                            clear A530
                            by_cases c54 : t187 = true
                            · subst c54
                              have H1 : (syntagmlaw08_WordsOrder.l0 kj27 a0 true t177 t178 t179 ((rd_T32 t177 x8_1).f3) (wrap64 (x8_1 + 1))) = some r := by rw [if_pos rfl] at H; exact H
                              clear H
                              have H := H1
                              clear H1
                              have H' := Aside0.mk H
                              clear H
                              have hcz55_0 : wc.cell? ⟨gb184, 0, none⟩ = some (.int .i64 ((rd_T32 t177 x8_1).f0)) := (blk_cell BK184.out 0).trans rfl
                              have hcz55_1 : wc.cell? ⟨gb184, 1, none⟩ = some (.string ((rd_T32 t177 x8_1).f1)) := (blk_cell BK184.out 1).trans rfl
                              have hcz55_2 : wc.cell? ⟨gb184, 2, none⟩ = some (.int .i64 ((rd_T32 t177 x8_1).f2)) := (blk_cell BK184.out 2).trans rfl
                              have hcz55_3 : wc.cell? ⟨gb184, 3, none⟩ = some (.int .i64 ((rd_T32 t177 x8_1).f3)) := (blk_cell BK184.out 3).trans rfl
                              have hfz55_0 := blk_frozen BK184.out 0
                              have hfz55_1 := blk_frozen BK184.out 1
                              have hfz55_2 := blk_frozen BK184.out 2
                              have hfz55_3 := blk_frozen BK184.out 3
                              go_wp2_with (first | (go_at_call 13; (with_reducible refine (word_IsName.calls ((rd_T32 t177 x8_1).f1) true _ A53.out).mono ?_); rintro e w56 ⟨rfl, hb⟩; have n0_ := Aside0.mk (Kd.R_below (by (with_reducible repeat (first | apply Kd.R_alloc | apply Kd.R_drewN | apply Kd.R_drew)); exact HO_4.out) hb); have n1_ := Aside0.mk (blk_below (g := gb184) (o := .cells #[.int .i64 ((rd_T32 t177 x8_1).f0), .string ((rd_T32 t177 x8_1).f1), .int .i64 ((rd_T32 t177 x8_1).f2), .int .i64 ((rd_T32 t177 x8_1).f3)] 32 (0, 0)) (by (with_reducible repeat (first | refine blk_drewN ?_ _ | refine blk_drew ?_ | refine blk_alloc ?_ _)); exact BK184.out) hb); have n2_ := Aside0.mk (below_step (by repeat (first | (with_reducible first | exact HB.out | apply below_alloc | apply pw_below_drewN | apply below_drew1 | refine below_set ?_ GE184.out) | exact HB.out)) hb); clear HO_4; clear BK184; clear HB; have HO_4 := n0_; have BK184 := n1_; have HB := n2_; clear n0_ n1_ n2_; (try clear hb); (try clear hb2); (try clear hk); (try clear hi)))
                              repeat (go_quiet (first | (go_at_call 13; (with_reducible refine (word_IsName.calls ((rd_T32 t177 x8_1).f1) true _ A53.out).mono ?_); rintro e w56 ⟨rfl, hb⟩; have n0_ := Aside0.mk (Kd.R_below (by (with_reducible repeat (first | apply Kd.R_alloc | apply Kd.R_drewN | apply Kd.R_drew)); exact HO_4.out) hb); have n1_ := Aside0.mk (blk_below (g := gb184) (o := .cells #[.int .i64 ((rd_T32 t177 x8_1).f0), .string ((rd_T32 t177 x8_1).f1), .int .i64 ((rd_T32 t177 x8_1).f2), .int .i64 ((rd_T32 t177 x8_1).f3)] 32 (0, 0)) (by (with_reducible repeat (first | refine blk_drewN ?_ _ | refine blk_drew ?_ | refine blk_alloc ?_ _)); exact BK184.out) hb); have n2_ := Aside0.mk (below_step (by repeat (first | (with_reducible first | exact HB.out | apply below_alloc | apply pw_below_drewN | apply below_drew1 | refine below_set ?_ GE184.out) | exact HB.out)) hb); clear HO_4; clear BK184; clear HB; have HO_4 := n0_; have BK184 := n1_; have HB := n2_; clear n0_ n1_ n2_; (try clear hb); (try clear hb2); (try clear hk); (try clear hi))); try go_wp2_with (first | (go_at_call 13; (with_reducible refine (word_IsName.calls ((rd_T32 t177 x8_1).f1) true _ A53.out).mono ?_); rintro e w56 ⟨rfl, hb⟩; have n0_ := Aside0.mk (Kd.R_below (by (with_reducible repeat (first | apply Kd.R_alloc | apply Kd.R_drewN | apply Kd.R_drew)); exact HO_4.out) hb); have n1_ := Aside0.mk (blk_below (g := gb184) (o := .cells #[.int .i64 ((rd_T32 t177 x8_1).f0), .string ((rd_T32 t177 x8_1).f1), .int .i64 ((rd_T32 t177 x8_1).f2), .int .i64 ((rd_T32 t177 x8_1).f3)] 32 (0, 0)) (by (with_reducible repeat (first | refine blk_drewN ?_ _ | refine blk_drew ?_ | refine blk_alloc ?_ _)); exact BK184.out) hb); have n2_ := Aside0.mk (below_step (by repeat (first | (with_reducible first | exact HB.out | apply below_alloc | apply pw_below_drewN | apply below_drew1 | refine below_set ?_ GE184.out) | exact HB.out)) hb); clear HO_4; clear BK184; clear HB; have HO_4 := n0_; have BK184 := n1_; have HB := n2_; clear n0_ n1_ n2_; (try clear hb); (try clear hb2); (try clear hk); (try clear hi))))
                              go_roundg kj27
                              case measure => have := HK1.out; have := HJ10.out; have := HJ27.out; omega
                              case rel => exact ⟨(((rd_T32 t177 x8_1).f3)), (wrap64 (x8_1 + 1)), (by first | rfl | (simp; done) | (simp [*]; done)), (by first | rfl | (simp; done) | (simp [*]; done)), H', ⟨by have := HK1.out; have := HJ10.out; have := HJ27.out; omega⟩, ⟨by (with_reducible repeat (first | apply Kd.R_alloc | apply Kd.R_drewN | apply Kd.R_drew)); exact Kd.R_mono HO_4.out (fun _ hk => trivial)⟩, ⟨by repeat (first | (with_reducible first | exact HB.out | apply below_alloc | apply pw_below_drewN | apply below_drew1 | refine below_set ?_ GE184.out) | exact HB.out)⟩⟩
                            · replace c54 := Bool.eq_false_iff.mpr c54
                              subst c54
                              have H1 : (some false) = some r := by rw [if_neg (show ¬ (false = true) by decide)] at H; exact H
                              clear H
                              have H := H1
                              clear H1
                              exact absurd ((Option.some.inj H).trans HT.out) (by decide)
                          · rw [if_neg c52] at H
                            have c52b0 : (((rd_T32 t177 x8_1).f0) == 0) = false := beq_eq_false_iff_ne.mpr c52
                            have c52b1 : (((rd_T32 t177 x8_1).f0) != 0) = true := bne_iff_ne.mpr c52
                            have H' := Aside0.mk H
                            clear H
                            have hcz57_0 : wc.cell? ⟨gb184, 0, none⟩ = some (.int .i64 ((rd_T32 t177 x8_1).f0)) := (blk_cell BK184.out 0).trans rfl
                            have hcz57_1 : wc.cell? ⟨gb184, 1, none⟩ = some (.string ((rd_T32 t177 x8_1).f1)) := (blk_cell BK184.out 1).trans rfl
                            have hcz57_2 : wc.cell? ⟨gb184, 2, none⟩ = some (.int .i64 ((rd_T32 t177 x8_1).f2)) := (blk_cell BK184.out 2).trans rfl
                            have hcz57_3 : wc.cell? ⟨gb184, 3, none⟩ = some (.int .i64 ((rd_T32 t177 x8_1).f3)) := (blk_cell BK184.out 3).trans rfl
                            have hfz57_0 := blk_frozen BK184.out 0
                            have hfz57_1 := blk_frozen BK184.out 1
                            have hfz57_2 := blk_frozen BK184.out 2
                            have hfz57_3 := blk_frozen BK184.out 3
                            go_wp2
                            repeat (go_quiet (fail); try go_wp2)
                            go_roundg kj27
                            case measure => have := HK1.out; have := HJ10.out; have := HJ27.out; omega
                            case rel => exact ⟨(((rd_T32 t177 x8_1).f3)), (wrap64 (x8_1 + 1)), (by first | rfl | (simp; done) | (simp [*]; done)), (by first | rfl | (simp; done) | (simp [*]; done)), H', ⟨by have := HK1.out; have := HJ10.out; have := HJ27.out; omega⟩, ⟨by (with_reducible repeat (first | apply Kd.R_alloc | apply Kd.R_drewN | apply Kd.R_drew)); exact Kd.R_mono HO_4.out (fun _ hk => trivial)⟩, ⟨by repeat (first | (with_reducible first | exact HB.out | apply below_alloc | apply pw_below_drewN | apply below_drew1 | refine below_set ?_ GE184.out) | exact HB.out)⟩⟩
            · rw [if_neg c10] at H
              exact absurd H (by simp)
          · rw [if_neg c9] at H
            have c9b0 : decide (x8_1 < (t177.length : Int)) = false := decide_eq_false c9
            clear c9
            by_cases c58 : t178 = 0
            · rw [if_pos c58] at H
              have c58b0 : (t178 == 0) = true := beq_iff_eq.mpr c58
              have c58b1 : (t178 != 0) = false := bne_eq_false_iff_eq.mpr c58
              clear c58
              replace H : (if (t177.length : Int) = 0 then (some true) else (if 0 ≤ (wrap64 ((t177.length : Int) - 1)) then (if (wrap64 ((t177.length : Int) - 1)) < (t177.length : Int) then (some (((rd_T32 t177 (wrap64 ((t177.length : Int) - 1))).f0) == 4)) else (none)) else (none))) = some r := by first | (rw [if_pos rfl] at H; exact H) | (rw [if_pos trivial] at H; exact H)
              by_cases c59 : (t177.length : Int) = 0
              · rw [if_pos c59] at H
                have c59b0 : ((t177.length : Int) == 0) = true := beq_iff_eq.mpr c59
                have c59b1 : ((t177.length : Int) != 0) = false := bne_eq_false_iff_eq.mpr c59
                clear c59
                obtain rfl := Option.some.inj H
                obtain ⟨Ao60, co60, eo60⟩ := Kd.R_slice HO_4.out
                subst eo60
                go_wp2
                repeat (go_quiet (fail); try go_wp2)
                go_ret
                exact ⟨by first | rfl | (simp [errW_none, errW_some] <;> rfl) | (simp [*, errW_none, errW_some] <;> rfl), by repeat (first | (with_reducible first | exact HB.out | apply below_alloc | apply pw_below_drewN | apply below_drew1) | exact HB.out)⟩
              · rw [if_neg c59] at H
                have c59b0 : ((t177.length : Int) == 0) = false := beq_eq_false_iff_ne.mpr c59
                have c59b1 : ((t177.length : Int) != 0) = true := bne_iff_ne.mpr c59
                have c59b2 : ¬ (t177 = []) := fun h_ => c59 (by rw [h_]; rfl)
                obtain ⟨ji61, hji61⟩ : ∃ j_ : Int, (wrap64 ((t177.length : Int) - 1)) = j_ := ⟨_, rfl⟩
                replace H : (if 0 ≤ (ji61) then (if (ji61) < (t177.length : Int) then (some (((rd_T32 t177 (ji61)).f0) == 4)) else (none)) else (none)) = some r := by first | (rw [hji61] at H; exact H) | (simp only [hji61] at H ⊢; exact H)
                have hji61w : (IntKind.i64.wrap ((t177.length : Int) - 1)) = ji61 := (i64_w _).trans hji61
                by_cases c62 : 0 ≤ (ji61)
                · rw [if_pos c62] at H
                  have c62b0 : decide (0 ≤ (ji61)) = true := decide_eq_true c62
                  clear c62
                  by_cases c63 : (ji61) < (t177.length : Int)
                  · rw [if_pos c63] at H
                    have c63b0 : decide ((ji61) < (t177.length : Int)) = true := decide_eq_true c63
                    clear c63
                    obtain rfl := Option.some.inj H
                    obtain ⟨Ao64, co64, eo64⟩ := Kd.R_slice HO_4.out
                    subst eo64
                    have p182 : 0 ≤ ((ji61) : Int) := of_decide_eq_true (by first | (with_reducible assumption) | assumption)
                    have q182 : (ji61) < (t177.length : Int) := of_decide_eq_true (by first | (with_reducible assumption) | assumption)
                    obtain ⟨ad182, e182, hx182_0, hx182_1, hx182_2, hx182_3⟩ := at_T32 (Kd.R_reads' HO_4.out).2.2 (ji61) p182 q182
                    cases e182
                    replace p182 := eq_true p182
                    replace q182 := eq_true q182
                    go_wp2
                    repeat (go_quiet (fail); try go_wp2)
                    go_ret
                    exact ⟨by first | rfl | (simp [errW_none, errW_some] <;> rfl) | (simp only [← hji61]; first | rfl | (simp [errW_none, errW_some] <;> rfl)) | (simp [*, errW_none, errW_some] <;> rfl), by repeat (first | (with_reducible first | exact HB.out | apply below_alloc | apply pw_below_drewN | apply below_drew1) | exact HB.out)⟩
                  · rw [if_neg c63] at H
                    exact absurd H (by simp)
                · rw [if_neg c62] at H
                  exact absurd H (by simp)
            · rw [if_neg c58] at H
              have c58b0 : (t178 == 0) = false := beq_eq_false_iff_ne.mpr c58
              have c58b1 : (t178 != 0) = true := bne_iff_ne.mpr c58
              replace H : (if t179 ≥ x7_1 then (some (decide (t179 < (a0.size : Int)))) else (some false)) = some r := by first | (rw [if_pos rfl] at H; exact H) | (rw [if_pos trivial] at H; exact H)
              by_cases c65 : t179 ≥ x7_1
              · rw [if_pos c65] at H
                have c65b0 : decide (x7_1 ≤ t179) = true := decide_eq_true c65
                clear c65
                obtain rfl := Option.some.inj H
                obtain ⟨Ao66, co66, eo66⟩ := Kd.R_slice HO_4.out
                subst eo66
                go_wp2
                repeat (go_quiet (fail); try go_wp2)
                go_ret
                exact ⟨by first | rfl | (simp [errW_none, errW_some] <;> rfl) | (simp [*, errW_none, errW_some] <;> rfl), by repeat (first | (with_reducible first | exact HB.out | apply below_alloc | apply pw_below_drewN | apply below_drew1) | exact HB.out)⟩
              · rw [if_neg c65] at H
                have c65b0 : decide (x7_1 ≤ t179) = false := decide_eq_false c65
                clear c65
                exact absurd ((Option.some.inj H).trans HT.out) (by decide)
  · replace c3 := Bool.eq_false_iff.mpr c3
    subst c3
    have H1 : (some false) = some r := by rw [if_neg (show ¬ (false = true) by decide)] at H; exact H
    clear H
    have H := H1
    clear H1
    exact absurd ((Option.some.inj H).trans HT.out) (by decide)

end Go.Proofs.YtageaahlkiaigaaDoor.P
