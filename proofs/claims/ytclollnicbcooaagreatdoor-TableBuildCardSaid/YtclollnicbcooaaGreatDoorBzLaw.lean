/- The given statement on syntagm/syntagmlaw16.TableBuild: for every input that the statement lets in the law returns true, and its arguments read as before. Conditions: the statement's own alone. -/
import Derived.Test.YtclollnicbcooaaGreatDoorRows
import Derived.Test.YtclollnicbcooaaGreatDoorBz5
import Derived.Test.YtclollnicbcooaaGreatDoorBz4
import Derived.Test.YtclollnicbcooaaGreatDoorTie
import Derived.Test.YtclollnicbcooaaGreatDoorCards
import Derived.SevenTiedAt
import Derived.LaidLaws
import Derived.Handed
import Derived.WalkKit
import Derived.ProofKit
import Derived.OpenShut
import Derived.ShutString
import Derived.ChangeOld
import Derived.Below
import Derived.SizedLaws
import Derived.Laws.Cover2
set_option linter.unusedVariables false
set_option linter.unusedSimpArgs false
namespace Go.Proofs.YtclollnicbcooaaGreatDoor.tableBuild
open Go.ChangeShapes Go.WideShapes Go.ChangeAt Go.RowKit Go.Proofs.YtclollnicbcooaaGreatDoor.P Go.Proofs.YtclollnicbcooaaGreatDoor.Open Go.Proofs.YtclollnicbcooaaGreatDoorW.PrintWords Go.Proofs.YtclollnicbcooaaGreatDoorW.PrintLast Go.Proofs.YtclollnicbcooaaGreatDoorW.PrintMore
open Go.ChangeMaps (open_string shut_string)
theorem own : ownKnob Tryz.prog.godebug = none := by kernel_rfl
theorem laidOut : laidOutB Tryz.prog = true := by kernel_rfl
set_option maxRecDepth 100000 in
theorem lifted (os : Os) (started : os.Started) (H : Type) (enc : TypeId × Value → H) :
    ReturnsInHanded {} Tryz.checked os 3 .any (fun w args => (Rows.tableBuildSpec.pre enc Tryz.prog Tryz.f3 Rows.tableBuildRow.domain false w args ∧ laidMet Tryz.prog Rows.tableBuildRow.laid w) ∧ sizedMet enc Tryz.prog Tryz.f3 (OpenSpec.ofChange Rows.tableBuildSpec) false w args)
      (Rows.tableBuildSpec.post enc Tryz.prog Tryz.f3 false true false false) := by
  refine returnsInHanded_of_change_and (C := Tryz.checked) (X := fun w _ => laidMet Tryz.prog Rows.tableBuildRow.laid w) (fun _ _ _ hh h => h.of_heap hh) own started (by kernel_rfl) Tryz.func3
    (ChangeSpec.witness_at (enc := enc) (C := Tryz.checked) (os := os) (X := fun w _ => laidMet Tryz.prog Rows.tableBuildRow.laid w) false (Glob.laidWorld os) #[.agg #[.slice none 0 0, .slice none 0 0, .slice none 0 0, .slice none 0 0, .int .i64 0]] 8 rfl (by kernel_rfl) (by kernel_rfl) (by kernel_rfl) (by kernel_rfl) (by kernel_rfl) (Glob.laid_met os _)) ?_
  intro W base args ds gs before hval0 hW hcnd hsz0 hL _
  have hval : ∀ (j : Nat) t v, Tryz.f3.params[j]? = some t → args[j]? = some v → Value.okWide Tryz.prog W .any base t v := hval0
  have hW' := hW
  obtain ⟨p, q, hA0, hV, rfl, hfz, hnd⟩ := hW
  have hA : DataW.TrodAll enc Tryz.prog W 0 (fun _ => true) true Tryz.f3.params.toList args.toList ds p := hA0
  rw [Tryz.params3] at hA hval
  obtain ⟨v0, vs0, d0, ds0, p0, q0, hargs, rfl, rfl, h0, r0⟩ := trodAll_cons hA
  obtain ⟨rfl, rfl, rfl⟩ := trodAll_nil r0
  obtain rfl : args = #[v0] := by cases args; simp_all
  obtain ⟨rfl, rfl⟩ := trodVars_none hV
  have y0 := h0
  have lt0 : ∀ x ∈ p0, x.block < W.heap.size := by obtain ⟨m, hm⟩ := y0; exact DataW.trod_lt m _ _ _ hm
  obtain ⟨fuel0, hf0⟩ := h0
  obtain ⟨x0, hk0, w0⟩ := opens27.down hf0
  obtain ⟨A0_0, c0_0, A0_1, c0_1, A0_2, c0_2, A0_3, c0_3, hcs0, hc0_0, hr0_0, hc0_1, hr0_1, hc0_2, hr0_2, hc0_3, hr0_3⟩ := k27_open hk0
  obtain rfl := agg_of hcs0 (by simp)
  clear hA0 hval0 hsz0
  obtain ⟨k, h⟩ := Pure.TableBuild x0 w0
  refine (P.sl16_TableBuild.calls k _ _ x0.f0 _ _ x0.f1 _ _ x0.f2 _ _ x0.f3 x0.f4 true W (Glob.of_laid hL) rfl hr0_0 hc0_0 hr0_1 hc0_1 hr0_2 hc0_2 hr0_3 hc0_3 h).mono fun e W' ⟨he, bel0⟩ => ?_
  have bel : Below W.heap.size W W' := bel0
  subst he
  exact ⟨_, rfl, _, _, _, [], _, [], hW', trodAll_mk1 (shut_bool Tryz.underlying4 _), (trodAll_cons_mk (Below.trod laidOut (by kernel_rfl) (of_decide_eq_true (by kernel_rfl)) y0 bel lt0) trodAll_mk0), rfl, bel.frame _, fun h => by cases h⟩
theorem over : Rows.tableBuildRow.holds Tryz.pinned (OpenSpec.ofChange Rows.tableBuildSpec) :=
  OpenClaim.holds_of_wide 3 Tryz.f3 rfl rfl rfl rfl rfl rfl rfl ⟨rfl, rfl, rfl, rfl, rfl⟩ rfl rfl rfl rfl rfl (by kernel_rfl) Tryz.func3 (by kernel_rfl)
    (of_decide_eq_true (by kernel_rfl)) (by unfold Func.isWrapper; first | (rw [if_pos (by decide +kernel)]; kernel_rfl) | (rw [if_neg (by decide +kernel)]; exact ⟨rfl, rfl⟩))
    (fun os started H enc _ => lifted os started H enc)
theorem proved : Rows.TableBuildCardSaid :=
  Claim7.holds_tied_plain_at .later [] [.data, .data, .data] true (true, "b6066eab590a89812e57c1deda4fa3ff036164ebc05eafeae8ec2318bd0ddc2a") false
    over (fun _ h => by cases h) (by kernel_rfl) (fun _ h => by cases h) tableBuild_row_tie rfl ⟨rfl, rfl⟩ (by kernel_rfl) rfl
    (fun f fn hf hfn => by
      obtain rfl : f = 3 := Option.some.inj ((show Tryz.prog.funcNamed "syntagm/syntagmlaw16.TableBuild" = some 3 by kernel_rfl).symm.trans hf) |>.symm
      obtain rfl : fn = Tryz.f3 := (Option.some.inj (Tryz.func3.symm.trans hfn)).symm
      exact ⟨by kernel_rfl, fun j t ht => by
        rw [Tryz.params3] at ht
        match j, ht with
        | 0, ht =>
          obtain rfl : t = 27 := by simpa using ht.symm
          exact (show Tryz.prog.wantsStandIn 27 = false by kernel_rfl)
        | j + 1, ht => simp at ht⟩)
    (by kernel_rfl)
#print axioms proved
end Go.Proofs.YtclollnicbcooaaGreatDoor.tableBuild
namespace Go.Proofs.YtclollnicbcooaaGreatDoor
/-- The statement, under a short name, for the claim. -/
theorem tableBuild_holds : Rows.TableBuildCardSaid := tableBuild.proved
end Go.Proofs.YtclollnicbcooaaGreatDoor
