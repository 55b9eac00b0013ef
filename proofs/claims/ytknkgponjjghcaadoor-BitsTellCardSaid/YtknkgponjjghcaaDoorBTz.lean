/- math/bits.TrailingZeros64 and bits.First of the given program's dump: for every x how many zero bits stand below x's lowest one (64 for 0); First: -1 for 0. Condition: the library's table lies in its variable. -/
import Derived.Test.YtknkgponjjghcaaDoorPx0
import Derived.Shelf.Spec.TrailingZeros
set_option linter.unusedVariables false
set_option linter.unusedSimpArgs false
namespace Go.Proofs.YtknkgponjjghcaaDoor.P
open Go.RowKit Go.Proofs.YtknkgponjjghcaaDoorW.PrintWords Go.Proofs.YtknkgponjjghcaaDoorW.PrintLast Go.Proofs.YtknkgponjjghcaaDoorW.PrintMore

/-- The library's table lies in its variable, block 0. -/
def GTab (w : World) : Prop := 0 < w.heap.size ∧ ∀ j, j < 64 → w.cell? ⟨0, j, none⟩ = some (.int .u8 (Lib.deBruijn64tab.getD j 0))
theorem GTab.below {w w1 : World} (h : GTab w) (hb : Below w.heap.size w w1) : GTab w1 :=
  ⟨Nat.lt_of_lt_of_le h.1 hb.size, fun j hj => (hb.cell (p := ⟨0, j, none⟩) h.1).trans (h.2 j hj)⟩
/-- It bears the turn of a block that is not 0. -/
theorem GTab.grown {w w1 : World} {row : Option Nat} (h : GTab w) (hg : w.grownBy w1 row) (hne : row ≠ some 0) : GTab w1 :=
  ⟨Nat.lt_of_lt_of_le h.1 hg.size, fun j hj => by
    have e : w1.heap[0]? = w.heap[0]? := hg.block 0 h.1 (fun e => hne e.symm)
    have := h.2 j hj
    simp only [World.cell?, e] at this ⊢
    exact this⟩

def bits_TrailingZeros64.f (a0 : Int) : Option (Int) := if 0 ≤ a0 then if a0 < 18446744073709551616 then some (Lib.ctz 64 a0.toNat : Nat) else none else none

set_option maxHeartbeats 1000000 in
theorem tz_core (x k idx : Nat) (w : World) (hx0 : ((x : Int) == 0) = false)
    (key : IntKind.u64.wrap (Go.bits BinOp.and IntKind.u64 (x : Int) (IntKind.u64.wrap (-(x : Int))) * 285870213051353865) / 288230376151711744 = (idx : Int))
    (hi : idx < 64) (hk : k < 64) (hcell : w.cell? ⟨0, idx, none⟩ = some (.int .u8 k)) :
    Calls Tryd.prog 31 #[.int .u64 x] w fun e w' => e = .returned (.int .i64 k) ∧ w' = w := by
  go_enter Tryd.func31, Tryd.ntmps31
  go_wp2_with (simp only [key])
  go_ret
  exact ⟨rfl, rfl⟩

theorem tz_zero (w : World) : Calls Tryd.prog 31 #[.int .u64 0] w fun e w' => e = .returned (.int .i64 64) ∧ w' = w := by
  go_enter Tryd.func31, Tryd.ntmps31
  go_wp2
  go_ret
  exact ⟨rfl, rfl⟩

theorem bits_TrailingZeros64.same (a0 : Int) (r : Int) (w : World) (hG : GTab w) (h : bits_TrailingZeros64.f a0 = some r) :
    Calls Tryd.prog 31 #[.int .u64 a0] w fun e w' => e = .returned (.int .i64 r) ∧ w' = w := by
  unfold bits_TrailingZeros64.f at h
  by_cases h0 : 0 ≤ a0
  · rw [if_pos h0] at h
    by_cases h1 : a0 < 18446744073709551616
    · rw [if_pos h1] at h
      obtain rfl := Option.some.inj h
      obtain ⟨x, rfl⟩ : ∃ x : Nat, a0 = x := ⟨a0.toNat, by omega⟩
      simp only [Int.toNat_natCast]
      have hx : x < 18446744073709551616 := by omega
      by_cases hx0 : x = 0
      · subst hx0
        exact tz_zero w
      · obtain ⟨hlow, hk⟩ := Lib.lowest_bit 64 x hx0 hx
        obtain ⟨hi, htab⟩ := Lib.deBruijn64_at _ hk
        have hcell := hG.2 _ hi
        rw [htab] at hcell
        exact tz_core x _ _ w (by simp; omega) (tz64_key x _ hx hx0 hlow) hi hk hcell
    · rw [if_neg h1] at h; cases h
  · rw [if_neg h0] at h; cases h

theorem bits_TrailingZeros64.calls (a0 : Int) (r : Int) (w : World) (hG : GTab w) (h : bits_TrailingZeros64.f a0 = some r) :
    Calls Tryd.prog 31 #[.int .u64 a0] w fun e w' => e = .returned (.int .i64 r) ∧ Drawn0 w w' :=
  (bits_TrailingZeros64.same a0 r w hG h).mono (fun e w' ⟨he, hw⟩ => ⟨he, hw ▸ Drawn0.refl w⟩)

def bits_First.f (a0 : Int) : Option (Int) := if a0 = 0 then some (-1) else bits_TrailingZeros64.f a0
theorem bits_First.same (a0 : Int) (r : Int) (w : World) (hG : GTab w) (h : bits_First.f a0 = some r) :
    Calls Tryd.prog 17 #[.int .u64 a0] w fun e w' => e = .returned (.int .i64 r) ∧ w' = w := by
  unfold bits_First.f at h
  by_cases h0 : a0 = 0
  · subst h0
    rw [if_pos rfl] at h
    obtain rfl := Option.some.inj h
    clear h hG
    go_enter Tryd.func17, Tryd.ntmps17
    go_wp2
    go_ret
    exact ⟨rfl, rfl⟩
  · rw [if_neg h0] at h
    have hb : (a0 == 0) = false := by simpa using h0
    have H := Aside0.mk h
    have HG := Aside0.mk hG
    clear h hG h0
    go_enter Tryd.func17, Tryd.ntmps17
    go_wp2_with (go_at_call 31; refine (bits_TrailingZeros64.same a0 r _ HG.out H.out).mono ?_; rintro e w' ⟨rfl, rfl⟩)
    go_ret
    exact ⟨rfl, rfl⟩
theorem bits_First.calls (a0 : Int) (r : Int) (w : World) (hG : GTab w) (h : bits_First.f a0 = some r) :
    Calls Tryd.prog 17 #[.int .u64 a0] w fun e w' => e = .returned (.int .i64 r) ∧ Drawn0 w w' :=
  (bits_First.same a0 r w hG h).mono (fun e w' ⟨he, hw⟩ => ⟨he, hw ▸ Drawn0.refl w⟩)

end Go.Proofs.YtknkgponjjghcaaDoor.P
