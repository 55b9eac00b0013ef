/- inst.rising at the three types at which inst.Valid calls it: whether things rise, by their names. Conditions: the slice reads as a list. -/
import Derived.Test.YtggfiopajogiiaaPx0
import Derived.IntWalk
import Derived.Test.YtggfiopajogiiaaSBase
set_option linter.unusedVariables false
set_option linter.unusedSimpArgs false
namespace Go.Proofs.Ytggfiopajogiiaa.P
open Go.RowKit Go.Proofs.YtggfiopajogiiaaW.PrintWords Go.Proofs.YtggfiopajogiiaaW.PrintLast Go.Proofs.YtggfiopajogiiaaW.PrintMore

theorem same_calls (s : ByteArray) (w : World) : Calls Try.prog 38 #[.string s] w fun e w' => e = .returned (.string s) ∧ w' = w := by
  go_enter Try.func38, Try.ntmps38
  go_wp2
  go_ret
  exact ⟨rfl, rfl⟩

theorem quiet_sum {P : Program} {f : FuncId} {args : Array Value} {w : World} {m n : Nat} {v : Value}
    (h : Calls P f args (w.drewN (m + n)) fun e w' => e = .returned v ∧ w' = w.drewN (m + n)) : Calls P f args (w.drewN (m + n)) fun e w'' => e = .returned v ∧ ∃ k, w'' = w.drewN (m + k) :=
  h.mono fun _ _ ⟨he, hm⟩ => ⟨he, n, hm⟩

/-- The first k names rise. -/
def RisesTo (f : Int → ByteArray) (k : Nat) : Prop := ∀ i : Nat, 0 < i → i < k → Op.bytesLess (f ((i : Int) - 1)).toList (f i).toList = true
def rises (f : Int → ByteArray) (n : Nat) : Bool := (List.range n).all fun i => i == 0 || Op.bytesLess (f ((i : Int) - 1)).toList (f i).toList
theorem rises_all {f : Int → ByteArray} {n : Nat} (h : RisesTo f n) : rises f n = true := by
  unfold rises
  rw [List.all_eq_true]
  intro i hi
  by_cases h0 : i = 0
  · subst h0; rfl
  · rw [h i (by omega) (List.mem_range.1 hi)]; simp
theorem rises_not {f : Int → ByteArray} {n : Nat} (i : Nat) (h0 : 0 < i) (hi : i < n) (h : Op.bytesLess (f ((i : Int) - 1)).toList (f i).toList = false) : rises f n = false := by
  unfold rises
  rw [Bool.eq_false_iff]
  intro ht
  rw [List.all_eq_true] at ht
  have := ht i (List.mem_range.2 hi)
  rw [h] at this
  simp at this
  omega
theorem RisesTo.step {f : Int → ByteArray} {k : Nat} (h : RisesTo f k) (hs : k = 0 ∨ Op.bytesLess (f ((k : Int) - 1)).toList (f k).toList = true) : RisesTo f (k + 1) := fun i h0 hi => by
  by_cases e : i = k
  · subst e
    rcases hs with h1 | h1
    · omega
    · exact h1
  · exact h i h0 (by omega)

set_option maxHeartbeats 2000000 in
theorem rising_strings (A : Option Addr) (c : Nat) (l : List ByteArray) (w : World) (hr : Kd.C Kd.string w A l.length l) :
    Calls Try.prog 39 #[.slice A l.length c, .func (.func 38) #[] #[]] w fun e w' => e = .returned (.bool (rises (rdOf ByteArray.empty l) l.length)) ∧ Drawn0 w w' := by
  have HR := Aside0.mk hr
  have hmx : l.length ≤ 9223372036854775807 := hr.2.1
  clear hr
  go_enter Try.func39, Try.ntmps39
  go_wp2
  go_loopw [8] (fun v wr => ∃ k : Nat, v = .int .i64 k ∧ k ≤ l.length ∧ Aside0 (RisesTo (rdOf ByteArray.empty l) k) ∧ Aside0 (Drawn0 w wr)) (fun v _ => l.length - (intOf v).toNat)
  case atStart => exact ⟨0, rfl, Nat.zero_le _, ⟨fun i h0 hi => absurd hi (Nat.not_lt_zero i)⟩, ⟨Drawn0.refl w⟩⟩
  case round =>
    obtain ⟨k, rfl, hk, HT, HD⟩ := hrel
    by_cases hlt : k < l.length
    · have hltb : decide (k < l.length) = true := decide_eq_true (by omega)
      by_cases h0 : k = 0
      · subst h0
        go_wp2
        go_quiet (fail)
        go_wp2
        go_roundw
        case rel => exact ⟨1, rfl, by omega, ⟨HT.out.step (.inl rfl)⟩, ⟨HD.out.step _⟩⟩
        case measure => simp [intOf]; omega
      · obtain ⟨m, rfl⟩ := HD.out
        obtain ⟨j, hj⟩ : ∃ j : Int, (k : Int) - 1 = j := ⟨_, rfl⟩
        obtain ⟨ad, e1, hx1⟩ := Kd.at_string HR.out j (by omega) (by omega)
        obtain ⟨ad', e2, hx2⟩ := Kd.at_string HR.out (k : Int) (by omega) (by omega)
        obtain rfl : ad = ad' := Option.some.inj (e1.symm.trans e2)
        subst e1
        clear e2
        rw [Int.toNat_natCast] at hx2
        have hg1 : decide (0 < k) = true := decide_eq_true (by omega)
        have q2 : (0 ≤ j) = True := eq_true (by omega)
        have q3 : (j < (l.length : Int)) = True := eq_true (by omega)
        have hw : IntKind.i64.wrap ((k : Int) - 1) = j := by rw [IntWalk.i64_in _ (by omega)]; exact hj
        have HJ := Aside0.mk hj
        clear hj
        cases hb : Op.bytesLess (rdOf ByteArray.empty l j).toList (rdOf ByteArray.empty l (k : Int)).toList
        · go_wp2
          go_quiet ((go_at_call 38; exact quiet_sum (same_calls _ _)))
          go_wp2
          go_ret
          exact ⟨by rw [rises_not k (by omega) hlt (by rw [HJ.out]; exact hb)]; rfl, ⟨_, World.drewN_drewN ..⟩⟩
        · go_wp2
          go_quiet ((go_at_call 38; exact quiet_sum (same_calls _ _)))
          go_wp2
          go_roundw
          case rel => exact ⟨k + 1, rfl, by omega, ⟨HT.out.step (.inr (by rw [HJ.out]; exact hb))⟩, ⟨_, rfl⟩⟩
          case measure => simp [intOf]; omega
    · have hltb : decide (k < l.length) = false := decide_eq_false (by omega)
      have hkl : Aside0 (k = l.length) := ⟨by omega⟩
      go_wp2
      go_ret
      exact ⟨by rw [rises_all (by rw [← hkl.out]; exact HT.out)]; rfl, HD.out⟩

end Go.Proofs.Ytggfiopajogiiaa.P
