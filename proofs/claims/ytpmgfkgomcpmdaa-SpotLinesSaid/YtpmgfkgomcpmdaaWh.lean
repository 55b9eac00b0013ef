/- math.Trunc, spot.whole: which floats are whole numbers that a text can have. Conditions: each theorem's own. -/
import Derived.Test.YtpmgfkgomcpmdaaLb
import Derived.Below
set_option linter.unusedVariables false
set_option linter.unusedSimpArgs false
namespace Go.Proofs.Ytpmgfkgomcpmdaa.Fl
open Go Go.RowKit Go.Lib

theorem feq_nan (x y : Nat) (s : Bool) (t : Nat) (h : Ieee.double.read x = .nan s t) : feq x y = false := by
  unfold feq Ieee.Format.order; rw [h]; rfl

/-- What cutting makes of a float, by what that stands for. -/
def cutTo (x : Nat) (d : Ieee.Datum) : Sem Value :=
  match d with
  | .nan s t => if FloatKind.f64.format.quiet t = t then pure (.float .f64 x) else (choose (.extern "math.Floor,Ceil,Trunc,RoundToEven.signallingNaN kept" 2)).bind fun kept => pure (.float .f64 (if kept == 1 then x else FloatKind.f64.encode (.nan s (FloatKind.f64.format.quiet t))))
  | d => pure (.float .f64 (FloatKind.f64.encode (d.integral .zero)))
theorem cutTo_is (x : Nat) : Extern.MathFloor.toIntegral "math.archTrunc" .zero #[.float .f64 x] = cutTo x (FloatKind.f64.decode x) := rfl

theorem trunc_run {P : Program} (x : Nat) (w : World) : ∃ t w', (Extern.MathFloor.toIntegral "math.archTrunc" .zero #[.float .f64 x]).run P w = .ok (.float .f64 t) w' ∧ (w' = w ∨ w' = w.drew) ∧ feq x t = feq x (tw x) := by
  rw [cutTo_is]
  cases h : FloatKind.f64.decode x with
  | nan s t =>
    have hn : ∀ y, feq x y = false := fun y => feq_nan x y s t h
    unfold cutTo
    dsimp only
    by_cases hq : FloatKind.f64.format.quiet t = t
    · rw [if_pos hq]
      exact ⟨x, w, rfl, .inl rfl, by rw [hn, hn]⟩
    · rw [if_neg hq]
      exact ⟨_, _, rfl, .inr rfl, by rw [hn, hn]⟩
  | number s m i => exact ⟨tw x, w, by unfold tw; rw [show Ieee.double.read x = _ from h]; rfl, .inl rfl, rfl⟩
  | infinity s => exact ⟨tw x, w, by unfold tw; rw [show Ieee.double.read x = _ from h]; rfl, .inl rfl, rfl⟩

set_option maxHeartbeats 1000000 in
theorem trunc_calls (x : Nat) (w : World) : Calls Try.prog 29 #[.float .f64 x] w fun e w' => ∃ t, e = .returned (.float .f64 t) ∧ (w' = w ∨ w' = w.drew) ∧ feq x t = feq x (tw x) := by
  obtain ⟨t, w1, hr, hw, ht⟩ := trunc_run (P := Try.prog) x w
  have HW := Lib.hid hw
  have HT := Lib.hid ht
  clear hw ht
  go_enter Try.func29, Try.ntmps29
  go_wp2
  rw [run_callFunc_extern Try.func33 (by kernel_rfl) (by kernel_rfl) (by kernel_rfl) (e := Extern.MathFloor.toIntegral "math.archTrunc" .zero) (by kernel_rfl), hr]
  simp only [Result.andThen]
  rw [Oper.upon_value]
  go_wp2
  go_ret
  exact ⟨t, rfl, HW.out, HT.out⟩


/-- What spot.whole answers. -/
def WholeIs (x : Nat) (w : World) (e : Ending) (w' : World) : Prop :=
  ((wholeB x = true ∧ ∃ n : Nat, n ≤ 2147483647 ∧ IsN x n ∧ e = .returned (.tuple #[.int .i64 n, .bool true])) ∨ (wholeB x = false ∧ e = .returned (.tuple #[.int .i64 0, .bool false]))) ∧ (w' = w ∨ w' = w.drew)

set_option maxHeartbeats 1000000 in
theorem whole_calls (x : Nat) (w : World) : Calls Try.prog 21 #[.float .f64 x] w (WholeIs x w) := by
  cases hb : wholeB x
  · have HB := Lib.hid hb
    clear hb
    go_enter Try.func21, Try.ntmps21
    go_wp2_with (go_at_call 29; refine (trunc_calls _ _).mono ?_; rintro e w' ⟨t, rfl, hw, ht⟩; replace ht := Lib.hid ht; replace hw := Lib.hid hw)
    all_goals first
      | (go_ret2; exact ⟨.inr ⟨HB.out, rfl⟩, hw.out⟩)
      | (exfalso
         have e1 : FloatKind.f64.format.order x t = some Ordering.eq := by assumption
         have e2 : (FloatKind.f64.format.order x 0 == some Ordering.lt) = false ∧ (FloatKind.f64.format.order x 4746794007244308480 == some Ordering.gt) = false := by assumption
         have e3 := HB.out
         unfold wholeB at e3
         have h4 : feq x (tw x) = true := by rw [← ht.out]; unfold feq; rw [show Ieee.double.order x t = some Ordering.eq from e1]; rfl
         rw [h4, show (Ieee.double.order x 0 == some Ordering.lt) = false from e2.1, show (Ieee.double.order x big == some Ordering.gt) = false from e2.2] at e3
         cases e3)
  · obtain ⟨n, hn, hi, hN⟩ := whole_yes x hb
    have HN := Lib.hid hN
    have HB := Lib.hid hb
    have hcv : ∀ w, (convert 24 3 (.float .f64 x)).run Try.prog w = .ok (.int .i64 n) w := fun w => run_convert_float_int w 24 3 .f64 .i64 x n (by kernel_rfl) Try.underlying3 (by
      unfold floatToIntVal
      rw [show (FloatKind.f64.decode x).toInt .zero = _ from hi]
      have : IntKind.i64.min ≤ (n : Int) ∧ (n : Int) ≤ IntKind.i64.max := by
        have e1 : IntKind.i64.min = -9223372036854775808 := by decide
        have e2 : IntKind.i64.max = 9223372036854775807 := by decide
        rw [e1, e2]; omega
      simp only [this, and_self, if_true])
    unfold wholeB at hb
    rw [Bool.and_eq_true, Bool.and_eq_true] at hb
    obtain ⟨⟨h1, h2⟩, h3⟩ := hb
    have a2 : (FloatKind.f64.format.order x 0 == some Ordering.lt) = false := by
      have : (Ieee.double.order x 0 == some Ordering.lt) = false := by simpa using h2
      exact this
    have a3 : (FloatKind.f64.format.order x 4746794007244308480 == some Ordering.gt) = false := by
      have : (Ieee.double.order x big == some Ordering.gt) = false := by simpa using h3
      exact this
    have H1 := Lib.hid h1
    clear h1 h2 h3 hi hN
    go_enter Try.func21, Try.ntmps21
    go_wp2_with (go_at_call 29; refine (trunc_calls _ _).mono ?_; rintro e w' ⟨t, rfl, hw, ht⟩; have h5 : FloatKind.f64.format.order x t = some Ordering.eq := beq_iff_eq.1 (show (Ieee.double.order x t == some Ordering.eq) = true from ht.trans H1.out); replace ht := Lib.hid ht; replace hw := Lib.hid hw)
    all_goals (go_ret2; exact ⟨.inl ⟨HB.out, n, hn, HN.out, rfl⟩, hw.out⟩)
end Go.Proofs.Ytpmgfkgomcpmdaa.Fl
