/- bits.each's iterator: it hands over the set's numbers, rising, each once. Conditions: the set lies in the iterator's own cell; the loop's body keeps that cell; the library's table lies in its variable. -/
import Derived.Test.YtknkgponjjghcaaDoorRange
import Derived.Test.YtknkgponjjghcaaDoorBPlain
import Derived.Test.YtknkgponjjghcaaDoorBTz
import Derived.Shelf.Abstract
import Derived.WalkKit
import Derived.OwnWalkIn
import Derived.TacticsInMore
import Derived.LoopNIn
import Derived.LoopIn
set_option linter.unusedVariables false
set_option linter.unusedSimpArgs false
namespace Go.Proofs.YtknkgponjjghcaaDoor.P
open Go.RowKit Go.Shelf Go.Proofs.YtknkgponjjghcaaDoorW.PrintWords Go.Proofs.YtknkgponjjghcaaDoorW.PrintLast Go.Proofs.YtknkgponjjghcaaDoorW.PrintMore
attribute [local go_sem] Oper.semAt_some

/-- How many numbers are still to come, read off the iterator's cell. -/
def left (b : Nat) (W : World) : Nat := match W.cell? ⟨b, 0, none⟩ with
  | some (.int _ s) => (bitsOf s.toNat).length
  | _ => 0
theorem left_eq {b : Nat} {W : World} {s : Nat} (h : Boxed W b 23 (.int .u64 s)) : left b W = (bitsOf s).length := by
  unfold left
  rw [h.cell]
  rfl

set_option maxRecDepth 100000 in
set_option maxHeartbeats 2000000 in
theorem each1 (n : Nat) (hn : 1 ≤ n) (b s0 : Nat) (hs0 : s0 < 18446744073709551616) (w : World) (hw : Boxed w b 23 (.int .u64 s0)) :
    GivesCell Fence.wide n Tryd.prog 32 #[.pointer (some ⟨b, 0, none⟩)] (fun x : Nat => #[Value.int .i64 x]) b 23 (bitsOf s0) GTab w := by
  intro l J hJb hJG hY W hJ0 hB
  have hbW : Boxed W b 23 (.int .u64 s0) := (hB.block b hw.lt).trans hw
  clear hw hB
  refine callsIn_of_wp Tryd.func32 rfl trivial ?_ rfl
  simp only [Tryd.ntmps32, List.size_toArray, List.length_cons, List.length_nil, Nat.reduceAdd, Nat.reduceSub, Array.replicate_succ, Array.replicate_zero, List.push_toArray, List.append_toArray, List.nil_append, List.cons_append]
  gi_wp2
  gi_loopw [3] (fun _ wr => ∃ (pre : List Nat) (s : Nat), s < 18446744073709551616 ∧ bitsOf s0 = pre ++ bitsOf s ∧ Boxed wr b 23 (.int .u64 s) ∧ J pre wr) (fun _ wr => left b wr)
  case atStart => exact ⟨[], s0, hs0, rfl, hbW, hJ0⟩
  case round =>
    obtain ⟨pre, s, hs, hpre, hbs, hJs⟩ := hrel
    have hc := hbs.cell
    have hf := hbs.frozen
    by_cases h0 : s = 0
    · subst h0
      gi_wp2
      go_end0
      refine ⟨⟨_, rfl⟩, ?_⟩
      rw [hpre, bitsOf_zero, List.append_nil]
      exact hJs
    · have HF : Aside0 (bits_First.f (s : Int) = some (Lib.ctz 64 s : Nat)) := ⟨by
        unfold bits_First.f bits_TrailingZeros64.f
        rw [if_neg (by omega), if_pos (by omega), if_pos (by omega)]
        rfl⟩
      have HG := Aside0.mk (hJG _ _ hJs)
      have hne : ((s : Int) != 0) = true := by simpa using h0
      obtain ⟨fn, tmps, assign, body, hy, hR⟩ := hY pre (Lib.ctz 64 s) wr _ hJs (by rw [hpre, bitsOf_step s h0 hs]; simp) hbs
      have key : Aside0 (Go.bits .and .u64 (s : Int) ((s : Int) - 1) = ((s &&& (s - 1) : Nat) : Int)) := ⟨by
        have e1 : (s : Int) - 1 = ((s - 1 : Nat) : Int) := by omega
        rw [e1, bits_and_u64_nat s (s - 1) hs (by omega)]⟩
      gi_wp2_with (first | (refine ⟨trivial, ?_⟩; gi_at_call 17; refine (callsIn_wide.2 (bits_First.same (s : Int) _ _ HG.out HF.out)).mono ?_; rintro e w' ⟨rfl, rfl⟩))
      refine hR.mono ?_
      rintro e W3 ⟨rfl, hJ3, hb3⟩
      have hc3 := hb3.cell
      have hf3 := hb3.frozen
      gi_wp2
      go_roundw
      case rel =>
        refine ⟨pre ++ [Lib.ctz 64 s], s &&& (s - 1), and_pred_lt s hs, ?_, ?_, ?_⟩
        · rw [hpre, bitsOf_step s h0 hs]; simp
        · rw [key.out]; exact hb3.set _
        · exact hJb _ _ _ hJ3 (grownBy_setCell' _ _ _)
      case measure =>
        rw [key.out, left_eq (hb3.set _), left_eq hbs, bitsOf_step s h0 hs]
        simp

end Go.Proofs.YtknkgponjjghcaaDoor.P
