/- inst.rising at the three types at which inst.Valid calls it: whether things rise, by their names. Conditions: the slice reads as a list. -/
import Derived.Test.YtggfiopajogiiaaPx0
import Derived.IntWalk
import Derived.Test.YtggfiopajogiiaaSRise
import Derived.Test.YtggfiopajogiiaaSBelow
import Derived.Test.YtggfiopajogiiaaSBase
set_option linter.unusedVariables false
set_option linter.unusedSimpArgs false
namespace Go.Proofs.Ytggfiopajogiiaa.P
open Go.Proofs.Ytggfiopajogiiaa.Base Go.RowKit Go.Proofs.YtggfiopajogiiaaW.PrintWords Go.Proofs.YtggfiopajogiiaaW.PrintLast Go.Proofs.YtggfiopajogiiaaW.PrintMore

theorem prod_label (x : S45) (A : Option Addr) (c : Nat) (w : World) : Calls Try.prog 43 #[.agg #[.string x.f0, .int .i64 x.f1, .slice A x.f2.length c, .int .i64 x.f3]] w fun e w' => e = .returned (.string x.f0) ∧ Below w.heap.size w w' := by
  go_enter Try.func43, Try.ntmps43
  go_wp2
  go_ret
  exact ⟨rfl, below_alloc (Below.refl _ _) _⟩

set_option maxHeartbeats 2000000 in
theorem rising_prods (A : Option Addr) (c : Nat) (l : List S45) (w : World) (hr : Kd.C k45 w A l.length l) :
    Calls Try.prog 42 #[.slice A l.length c, .func (.func 43) #[] #[]] w fun e w' => e = .returned (.bool (rises (fun i => (rd_T45 l i).f0) l.length)) ∧ Below w.heap.size w w' := by
  have HR := Aside0.mk hr
  have hmx : l.length ≤ 9223372036854775807 := hr.2.1
  clear hr
  go_enter Try.func42, Try.ntmps42
  go_wp2
  go_loopw [8] (fun v wr => ∃ k : Nat, v = .int .i64 k ∧ k ≤ l.length ∧ Aside0 (RisesTo (fun i => (rd_T45 l i).f0) k) ∧ Aside0 (Below w.heap.size w wr)) (fun v _ => l.length - (intOf v).toNat)
  case atStart => exact ⟨0, rfl, Nat.zero_le _, ⟨fun i h0 hi => absurd hi (Nat.not_lt_zero i)⟩, ⟨Below.refl _ w⟩⟩
  case round =>
    obtain ⟨k, rfl, hk, HT, HD⟩ := hrel
    by_cases hlt : k < l.length
    · have hltb : decide (k < l.length) = true := decide_eq_true (by omega)
      by_cases h0 : k = 0
      · subst h0
        go_wp2
        go_quiet (fail)
        go_wp2
        go_roundw
        case rel => exact ⟨1, rfl, by omega, ⟨HT.out.step (.inl rfl)⟩, ⟨pw_below_drewN HD.out _⟩⟩
        case measure => simp [intOf]; omega
      · have HR' := Kd.C_below HR.out HD.out
        obtain ⟨j, hj⟩ : ∃ j : Int, (k : Int) - 1 = j := ⟨_, rfl⟩
        obtain ⟨ad, A1, c1, e1, hx1, hx1a, hx1b, hx1c, -, -⟩ := at_T45 HR' j (by omega) (by omega)
        obtain ⟨ad', A2, c2, e2, hx2, hx2a, hx2b, hx2c, -, -⟩ := at_T45 HR' (k : Int) (by omega) (by omega)
        obtain rfl : ad = ad' := Option.some.inj (e1.symm.trans e2)
        subst e1
        clear e2
        rw [Int.toNat_natCast] at hx2 hx2a hx2b hx2c
        replace hx1 := cell_below hx1; replace hx1a := cell_below hx1a; replace hx1b := cell_below hx1b; replace hx1c := cell_below hx1c
        replace hx2 := cell_below hx2; replace hx2a := cell_below hx2a; replace hx2b := cell_below hx2b; replace hx2c := cell_below hx2c
        clear HR'
        have hg1 : decide (0 < k) = true := decide_eq_true (by omega)
        have q2 : (0 ≤ j) = True := eq_true (by omega)
        have q3 : (j < (l.length : Int)) = True := eq_true (by omega)
        have hw : IntKind.i64.wrap ((k : Int) - 1) = j := by rw [IntWalk.i64_in _ (by omega)]; exact hj
        have HJ := Aside0.mk hj
        clear hj
        cases hb : Op.bytesLess (rd_T45 l j).f0.toList (rd_T45 l (k : Int)).f0.toList
        · go_wp2
          refine wp_region_below (by kernel_rfl) (by kernel_rfl) ?_
          repeat (refine wpQuiet_step (fun K hK => ?_); go_simp; (first | (refine hK _ ?_; clear hK K) | (apply Exists.intro; refine ⟨fun wc hwc => ?_, hK _ ?_⟩; (first | exact rfl | ((go_at_call 43; exact calls_below hwc hwc.size (prod_label _ _ _ _))) | (go_simp; exact rfl)); clear hK K)))
          refine wpQuiet_nil ?_
          intro wq hwq
          go_wp2
          go_ret
          exact ⟨by rw [rises_not k (by omega) hlt (by rw [HJ.out]; exact hb)]; rfl, below_step HD.out hwq⟩
        · go_wp2
          refine wp_region_below (by kernel_rfl) (by kernel_rfl) ?_
          repeat (refine wpQuiet_step (fun K hK => ?_); go_simp; (first | (refine hK _ ?_; clear hK K) | (apply Exists.intro; refine ⟨fun wc hwc => ?_, hK _ ?_⟩; (first | exact rfl | ((go_at_call 43; exact calls_below hwc hwc.size (prod_label _ _ _ _))) | (go_simp; exact rfl)); clear hK K)))
          refine wpQuiet_nil ?_
          intro wq hwq
          go_wp2
          go_roundw
          case rel => exact ⟨k + 1, rfl, by omega, ⟨HT.out.step (.inr (by rw [HJ.out]; exact hb))⟩, ⟨below_step HD.out hwq⟩⟩
          case measure => simp [intOf]; omega
    · have hltb : decide (k < l.length) = false := decide_eq_false (by omega)
      have hkl : Aside0 (k = l.length) := ⟨by omega⟩
      go_wp2
      go_ret
      exact ⟨by rw [rises_all (by rw [← hkl.out]; exact HT.out)]; rfl, HD.out⟩

end Go.Proofs.Ytggfiopajogiiaa.P
