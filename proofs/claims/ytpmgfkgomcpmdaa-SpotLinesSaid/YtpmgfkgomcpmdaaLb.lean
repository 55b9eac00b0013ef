/- strings.Count, LastIndex, Index, Cut at the byte that ends a line; math.Trunc. Conditions: each theorem's own. -/
import Derived.Test.YtpmgfkgomcpmdaaProg
import Derived.Test.YtpmgfkgomcpmdaaTx
import Derived.WalkKit
import Derived.Lib.Walk
import Derived.Lib.Bytealg
import Derived.Lib.Hide
import Derived.BigCall
import Derived.BigGuard
import Derived.Outline
import Derived.Laws.Strings3
import Derived.Laws.Externs
import Derived.LoopTactic
set_option linter.unusedVariables false
set_option linter.unusedSimpArgs false
namespace Go.Proofs.Ytpmgfkgomcpmdaa.Fl
open Go Go.RowKit Go.Lib

/-- How many line ends a text has; where the first one is; the first line. -/
def cntB (s : ByteArray) : Nat := s.data.toList.count 10
def idxB (s : ByteArray) : Int := Lib.indexByte s.data.toList 10
def lnB (l : Bytes) : ByteArray := ⟨(l.takeWhile (· ≠ 10)).toArray⟩
theorem cntB_le (s : ByteArray) : cntB s ≤ s.size := by unfold cntB; rw [Lib.size_eq]; exact List.count_le_length

set_option maxHeartbeats 1000000 in
theorem count_calls (s : ByteArray) (w : World) :
    Calls Try.prog 20 #[.string s, .string ⟨#[10]⟩] w fun e w' => e = .returned (.int .i64 (cntB s)) ∧ w' = w := by
  go_enter Try.func20, Try.ntmps20
  go_wp2
  rw [run_callFunc_extern Try.func27 (by kernel_rfl) (by kernel_rfl) (by kernel_rfl) (e := Extern.BytealgCount.count) (by kernel_rfl), Lib.run_countString]
  simp only [Result.andThen]
  rw [Oper.upon_value]
  go_wp2
  go_ret
  exact ⟨rfl, rfl⟩

set_option maxHeartbeats 1000000 in
theorem byte_calls (s : ByteArray) (c : Int) (w : World) :
    Calls Try.prog 35 #[.string s, .int .u8 c] w fun e w' => e = .returned (.int .i64 (Lib.indexByte s.data.toList c.toNat.toUInt8)) ∧ w' = w := by
  go_enter Try.func35, Try.ntmps35
  go_wp2
  rw [run_callFunc_extern Try.func43 (by kernel_rfl) (by kernel_rfl) (by kernel_rfl) (e := Extern.BytealgIndexByte.indexByte) (by kernel_rfl), Lib.run_indexByteString]
  simp only [Result.andThen]
  rw [Oper.upon_value]
  go_wp2
  go_ret
  exact ⟨rfl, rfl⟩

set_option maxHeartbeats 1000000 in
set_option maxRecDepth 100000 in
theorem lite_calls (s : ByteArray) (w : World) :
    Calls Try.prog 32 #[.string s, .string ⟨#[10]⟩] w fun e w' => e = .returned (.int .i64 (idxB s)) ∧ w' = w := by
  cases hb : ([10] == s.toList)
  · go_enter Try.func32, Try.ntmps32
    go_wp2_with (go_at_call 35; refine (byte_calls _ _ _).mono ?_; rintro e w' ⟨rfl, rfl⟩)
    go_ret
    exact ⟨rfl, rfl⟩
  · have hz : Hid (idxB s = 0) := by
      unfold idxB
      rw [Lib.toList_data] at hb
      rw [← (beq_iff_eq.1 hb)]; rfl
    go_enter Try.func32, Try.ntmps32
    go_wp2_with (go_at_call 35; refine (byte_calls _ _ _).mono ?_; rintro e w' ⟨rfl, rfl⟩)
    go_ret
    rw [hz.out]
    exact ⟨rfl, rfl⟩

theorem index_calls (s : ByteArray) (w : World) :
    Calls Try.prog 28 #[.string s, .string ⟨#[10]⟩] w fun e w' => e = .returned (.int .i64 (idxB s)) ∧ w' = w := by
  go_enter Try.func28, Try.ntmps28
  go_wp2_with (go_at_call 32; refine (lite_calls _ _).mono ?_; rintro e w' ⟨rfl, rfl⟩)
  go_ret
  exact ⟨rfl, rfl⟩

set_option maxHeartbeats 4000000 in
theorem lastByte_calls (s : ByteArray) (c : Int) (hs : s.size < 4611686018427387904) (w : World) :
    Calls Try.prog 24 #[.string s, .int .u8 c] w fun e w' => e = .returned (.int .i64 (Lib.lastIndexByte s c)) ∧ w' = w := by
  go_enter Try.func24, Try.ntmps24
  go_wp2
  go_loop [5] (fun vi => ∃ k : Nat, k ≤ s.size ∧ vi = .int .i64 ((k : Int) - 1) ∧ Hid (Lib.lastIndexByte s c = Lib.lastIdx s c k)) (fun vi => ((RowKit.intOf vi) + 1).toNat)
  case atStart => exact ⟨s.size, Nat.le_refl _, by first | rfl | go_num | (congr 1; omega), rfl⟩
  case round =>
    obtain ⟨k, hk, rfl, hh⟩ := hrel
    have bang : ∀ (j : Nat) (hj : j < s.size), s.data[j]! = s[j] := fun j hj => by rw [getElem!_pos s.data j (by simpa using hj)]; rfl
    have HB := Lib.hid bang
    clear bang
    go_wp2
    · have hc : (((s[k - 1]).toNat : Int) == c) = true := by assumption
      have k1 : 1 ≤ k := by omega
      have e1 : Lib.lastIdx s c k = ((k - 1 : Nat) : Int) := by
        have := Lib.lastIdx_hit s c (k - 1) (by rw [HB.out (k - 1) (by omega)]; simpa using hc)
        rwa [show k - 1 + 1 = k by omega] at this
      have e2 : ((k - 1 : Nat) : Int) = (k : Int) - 1 := by omega
      go_ret
      rw [hh.out, e1, e2]
      exact ⟨rfl, rfl⟩
    · have hc : (((s[k - 1]).toNat : Int) == c) = false := by assumption
      have k1 : 1 ≤ k := by omega
      have e1 : Lib.lastIdx s c k = Lib.lastIdx s c (k - 1) := by
        have := Lib.lastIdx_miss s c (k - 1) (by rw [HB.out (k - 1) (by omega)]; simpa using hc)
        rwa [show k - 1 + 1 = k by omega] at this
      refine ⟨⟨k - 1, by omega, by congr 1; omega, hh.out.trans e1⟩, ?_⟩
      simp [RowKit.intOf]; omega
    · have k0 : k = 0 := by omega
      subst k0
      go_ret
      rw [hh.out]
      exact ⟨rfl, rfl⟩

set_option maxHeartbeats 1000000 in
theorem last_calls (s : ByteArray) (hs : s.size < 4611686018427387904) (w : World) :
    Calls Try.prog 19 #[.string s, .string ⟨#[10]⟩] w fun e w' => e = .returned (.int .i64 (Lib.lastIndexByte s 10)) ∧ w' = w := by
  go_enter Try.func19, Try.ntmps19
  go_wp2_with (go_at_call 24; refine (lastByte_calls _ _ hs _).mono ?_; rintro e w' ⟨rfl, rfl⟩)
  go_ret
  exact ⟨rfl, rfl⟩

end Go.Proofs.Ytpmgfkgomcpmdaa.Fl
