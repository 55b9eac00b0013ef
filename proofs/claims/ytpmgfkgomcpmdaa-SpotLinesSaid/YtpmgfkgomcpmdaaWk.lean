/- The laws' example: it is as the document says. No conditions. -/
import Derived.Test.YtpmgfkgomcpmdaaRf
set_option linter.unusedVariables false
set_option linter.unusedSimpArgs false
namespace Go.Proofs.Ytpmgfkgomcpmdaa.Fl
open Go Go.RowKit Go.Lib Go.Proofs.YtpmgfkgomcpmdaaW.PrintWords Go.Proofs.YtpmgfkgomcpmdaaW.PrintLast Go.Proofs.YtpmgfkgomcpmdaaW.PrintMore

def T0 : ByteArray := ⟨#[97, 98, 10, 99, 100]⟩
theorem k1 : F (st (T0.data.toList.take (upto T0 4))).1 = 4607182418800017408 := by decide +kernel
theorem k2 : F (st (T0.data.toList.take (upto T0 4))).2 = 4607182418800017408 := by decide +kernel
theorem k3 : atR T0.data.toList 4607182418800017408 4607182418800017408 = 4 := by decide +kernel
theorem k4 : cntB T0 = 1 := by decide +kernel
theorem k5 : lineS T0 1 = ⟨#[99, 100]⟩ := by decide +kernel
theorem k6 : atR T0.data.toList 4602678819172646912 0 = -1 := by decide +kernel
theorem k7 : F 3 = 4613937818241073152 ∧ F 2 = 4611686018427387904 ∧ F 1 = 4607182418800017408 ∧ F 0 = 0 ∧ F 4 = 4616189618054758400 := by decide +kernel
theorem o1 : FloatKind.f64.format.order 4607182418800017408 4607182418800017408 = some Ordering.eq := by decide +kernel
theorem o2 : FloatKind.f64.format.order 4616189618054758400 4616189618054758400 = some Ordering.eq := by decide +kernel
theorem o3 : FloatKind.f64.format.order 4611686018427387904 4611686018427387904 = some Ordering.eq := by decide +kernel
theorem o4 : FloatKind.f64.format.order 4613937818241073152 4613937818241073152 = some Ordering.eq := by decide +kernel

theorem w1 (w : World) : Calls Try.prog 11 #[.string ⟨#[97, 98, 10, 99, 100]⟩, .int .i64 4] w fun e w' => e = .returned (.complex .f64 4607182418800017408 4607182418800017408) ∧ w' = w := by
  have := of_calls T0 4 w (by decide +kernel) (by omega) (by omega)
  rwa [k1, k2] at this
theorem w2 (w : World) : Calls Try.prog 13 #[.string ⟨#[97, 98, 10, 99, 100]⟩, .complex .f64 4607182418800017408 4607182418800017408] w fun e w' => e = .returned (.int .i64 4) ∧ ∃ k, w' = w.drewN k := by
  refine (at_calls T0 _ _ w (by decide +kernel)).mono ?_
  rintro e w' ⟨rfl, k, rfl⟩
  rw [k3]; exact ⟨rfl, k, rfl⟩
theorem w3 (w : World) : Calls Try.prog 13 #[.string ⟨#[97, 98, 10, 99, 100]⟩, .complex .f64 4602678819172646912 0] w fun e w' => e = .returned (.int .i64 (-1)) ∧ ∃ k, w' = w.drewN k := by
  refine (at_calls T0 _ _ w (by decide +kernel)).mono ?_
  rintro e w' ⟨rfl, k, rfl⟩
  rw [k6]; exact ⟨rfl, k, rfl⟩
theorem w4 (w : World) : Calls Try.prog 15 #[.string ⟨#[97, 98, 10, 99, 100]⟩] w fun e w' => e = .returned (.int .i64 2) ∧ w' = w := by
  have := lines_calls T0 w (by decide +kernel)
  rwa [k4] at this
theorem w5 (w : World) : Calls Try.prog 16 #[.string ⟨#[97, 98, 10, 99, 100]⟩, .int .i64 1] w fun e w' => e = .returned (.string ⟨#[99, 100]⟩) ∧ ∃ k, w' = w.drewN k := by
  refine (line_calls T0 1 w (by decide +kernel)).mono ?_
  rintro e w' ⟨rfl, k, rfl⟩
  rw [k5]; exact ⟨rfl, k, rfl⟩
theorem w6 (w : World) : Calls Try.prog 17 #[.complex .f64 4613937818241073152 4611686018427387904, .complex .f64 4607182418800017408 0] w fun e w' => e = .returned (.complex .f64 4616189618054758400 4611686018427387904) ∧ w' = w := by
  have := move_calls (3, 2) (1, 0) w (by omega)
  have e1 : moveP (3, 2) (1, 0) = (4, 2) := rfl
  rw [e1] at this
  simp only [k7] at this
  exact this
theorem w7 (w : World) : Calls Try.prog 17 #[.complex .f64 4613937818241073152 4611686018427387904, .complex .f64 4607182418800017408 4607182418800017408] w fun e w' => e = .returned (.complex .f64 4607182418800017408 4613937818241073152) ∧ w' = w := by
  have := move_calls (3, 2) (1, 1) w (by omega)
  have e1 : moveP (3, 2) (1, 1) = (1, 3) := rfl
  rw [e1] at this
  simp only [k7] at this
  exact this

set_option maxHeartbeats 4000000 in
theorem works_calls (w : World) : Calls Try.prog 9 #[] w fun e w' => e = .returned (.bool true) ∧ ∃ k, w' = w.drewN k := by
  have a1 := o1
  have a2 := o2
  have a3 := o3
  have a4 := o4
  go_enter Try.func9, Try.ntmps9
  go_wp2_with (first | (go_at_call 11; ((with_reducible refine (w1 _).mono ?_); rintro e w' ⟨rfl, rfl⟩)) | (go_at_call 13; ((with_reducible refine (w2 _).mono ?_); rintro e w' ⟨rfl, k, rfl⟩)) | (go_at_call 13; ((with_reducible refine (w3 _).mono ?_); rintro e w' ⟨rfl, k, rfl⟩)) | (go_at_call 15; ((with_reducible refine (w4 _).mono ?_); rintro e w' ⟨rfl, rfl⟩)) | (go_at_call 16; ((with_reducible refine (w5 _).mono ?_); rintro e w' ⟨rfl, k, rfl⟩)) | (go_at_call 17; ((with_reducible refine (w6 _).mono ?_); rintro e w' ⟨rfl, rfl⟩)) | (go_at_call 17; ((with_reducible refine (w7 _).mono ?_); rintro e w' ⟨rfl, rfl⟩)))
  go_ret
  exact ⟨rfl, _, rfl⟩
end Go.Proofs.Ytpmgfkgomcpmdaa.Fl
