/- Four laws of spots, walked: SpotOrder, SpotTells, SpotMoves, SpotMany. Conditions: each theorem's own. -/
import Derived.Test.YtpmgfkgomcpmdaaWk
set_option linter.unusedVariables false
set_option linter.unusedSimpArgs false
namespace Go.Proofs.Ytpmgfkgomcpmdaa.Fl
open Go Go.RowKit Go.Lib Go.Proofs.YtpmgfkgomcpmdaaW.PrintWords Go.Proofs.YtpmgfkgomcpmdaaW.PrintLast Go.Proofs.YtpmgfkgomcpmdaaW.PrintMore

theorem feq_self (n : Nat) (h : n < 9007199254740992) : FloatKind.f64.format.order (F n) (F n) = some Ordering.eq := by
  have := feq_F n n (by omega) (by omega)
  rw [decide_eq_true rfl] at this
  exact beq_iff_eq.1 this
theorem int_bd {n : Int} (h : (Lit.int .i64 n).wf = true) : -9223372036854775808 ≤ n ∧ n ≤ 9223372036854775807 := by
  have e1 : IntKind.i64.min = -9223372036854775808 := by decide
  have e2 : IntKind.i64.max = 9223372036854775807 := by decide
  simpa [Lit.wf, e1, e2] using h
theorem add_one (y : Nat) (h : y < 1099511627776) (w : World) : (binOp .add 24 (.float .f64 (F y)) (.float .f64 4607182418800017408)).run Try.prog w = .ok (.float .f64 (F (y + 1))) w :=
  run_float_arith w .add 24 .f64 _ _ _ (by
    have := sum_F y 1 (by omega)
    rw [k7.2.2.1] at this; exact this)
theorem cadd_one (x y : Nat) (hx : x < 1099511627776) (h : y < 1099511627776) (w : World) : (binOp .add 23 (.complex .f64 (F x) (F y)) (.complex .f64 4607182418800017408 0)).run Try.prog w = .ok (.complex .f64 (F (x + 1)) (F y)) w :=
  run_complex_sum w .add (.inl rfl) 23 .f64 _ _ _ _ _ _ (by
    unfold cSumBits
    have e1 : floatBits .add .f64 (F x) 4607182418800017408 = some (F (x + 1)) := by
      have := sum_F x 1 (by omega)
      rw [k7.2.2.1] at this; exact this
    have e2 : floatBits .add .f64 (F y) 0 = some (F y) := by
      have := sum_F y 0 (by omega)
      rw [k7.2.2.2.1, Nat.add_zero] at this; exact this
    rw [e1, e2]; rfl)

/-- It says so, and what was there before is as it was. -/
def Yes (w : World) (e : Ending) (w' : World) : Prop := e = .returned (.bool true) ∧ Below w.heap.size w w'
theorem below_N (w : World) (k : Nat) : Below w.heap.size w (w.drewN k) := pw_below_drewN (Below.refl _ _) k

theorem ofAt (s : ByteArray) (k : Nat) (hs : s.size < 1099511627776) (hk : k ≤ s.size) (w : World) :
    Calls Try.prog 11 #[.string s, .int .i64 (k : Int)] w fun e w' => e = .returned (.complex .f64 (F (st (s.data.toList.take k)).1) (F (st (s.data.toList.take k)).2)) ∧ w' = w := by
  have := of_calls s k w hs (by omega) (by omega)
  rwa [upto_nat s k hk] at this

set_option maxRecDepth 100000 in
set_option maxHeartbeats 4000000 in
theorem spotOrder_calls (s : ByteArray) (at_ : Int) (hs : s.size ≤ maxLen) (ha : (Lit.int .i64 at_).wf = true) (w : World) : Calls Try.prog 7 #[.string s, .int .i64 at_] w (Yes w) := by
  obtain ⟨b1, b2⟩ := int_bd ha
  clear ha
  unfold maxLen at hs
  by_cases h1 : (300 : Int) < s.size
  · go_enter Try.func7, Try.ntmps7
    go_wp2_with (go_at_call 9; refine (works_calls _).mono ?_; rintro e w' ⟨rfl, k, rfl⟩)
    go_ret
    exact ⟨rfl, below_N _ _⟩
  by_cases h2 : at_ < 0
  · go_enter Try.func7, Try.ntmps7
    go_wp2_with (go_at_call 9; refine (works_calls _).mono ?_; rintro e w' ⟨rfl, k, rfl⟩)
    go_ret
    exact ⟨rfl, below_N _ _⟩
  by_cases h3 : (s.size : Int) ≤ at_
  · go_enter Try.func7, Try.ntmps7
    go_wp2_with (go_at_call 9; refine (works_calls _).mono ?_; rintro e w' ⟨rfl, k, rfl⟩)
    go_ret
    exact ⟨rfl, below_N _ _⟩
  obtain ⟨k, rfl⟩ : ∃ k : Nat, at_ = k := ⟨at_.toNat, by omega⟩
  have hlt : k < s.size := by omega
  have hll : k < s.data.toList.length := by rw [← Lib.size_eq]; exact hlt
  have hst : st (s.data.toList.take (k + 1)) = stp (st (s.data.toList.take k)) s[k] := by
    rw [List.take_succ_eq_append_getElem hll, st_snoc]
    congr 1
  have hle := st_le_take s.data.toList k
  rw [← Lib.size_eq] at hle
  have c1 := fun w => ofAt s k (by omega) (by omega) w
  have c2 := fun w => ofAt s (k + 1) (by omega) (by omega) w
  rw [hst] at c2
  have ek : ((k + 1 : Nat) : Int) = (k : Int) + 1 := by omega
  rw [ek] at c2
  obtain ⟨⟨x, y⟩, hp⟩ : ∃ p, st (s.data.toList.take k) = p := ⟨_, rfl⟩
  rw [hp] at c1 c2 hle
  simp only at c1 hle
  have hk64 : (k : Int) + 1 ≤ 301 := by omega
  have hle1 := hle.1
  have hle2 := hle.2
  have C1 := Lib.hid c1
  clear hst hp c1 hle ek
  have z0 : FloatKind.f64.format.order 0 0 = some Ordering.eq := by decide +kernel
  by_cases hb : s[k] = 10
  · have hb1 : (((s[k]).toNat : Int) == 10) = true := by rw [hb]; rfl
    unfold stp at c2
    rw [hb] at c2
    simp only [if_true] at c2
    rw [k7.2.2.2.1] at c2
    have C2 := Lib.hid c2
    have s1 := feq_self (y + 1) (by omega)
    have p1 := add_one y (by omega)
    clear c2 hb
    generalize F y = fy at *
    generalize F (y + 1) = fy1 at *
    generalize F x = fx at *
    go_enter Try.func7, Try.ntmps7
    go_wp2_with (first | (go_at_call 9; refine (works_calls _).mono ?_; rintro e w' ⟨rfl, k, rfl⟩) | (go_at_call 11; ((with_reducible refine (C1.out _).mono ?_); rintro e w' ⟨rfl, rfl⟩)) | (go_at_call 11; ((with_reducible refine (C2.out _).mono ?_); rintro e w' ⟨rfl, rfl⟩)))
    go_ret
    exact ⟨rfl, below_N _ _⟩
  · have hb1 : (((s[k]).toNat : Int) == 10) = false := beq_eq_false_iff_ne.2 fun e => hb (UInt8.toNat_inj.1 (by have : (10 : UInt8).toNat = 10 := rfl; omega))
    unfold stp at c2
    simp only [hb, if_false] at c2
    have C2 := Lib.hid c2
    have s1 := feq_self (x + 1) (by omega)
    have s2 := feq_self y (by omega)
    have p1 := cadd_one x y (by omega) (by omega)
    clear c2 hb
    generalize F y = fy at *
    generalize F (x + 1) = fx1 at *
    generalize F x = fx at *
    go_enter Try.func7, Try.ntmps7
    go_wp2_with (first | (go_at_call 9; refine (works_calls _).mono ?_; rintro e w' ⟨rfl, k, rfl⟩) | (go_at_call 11; ((with_reducible refine (C1.out _).mono ?_); rintro e w' ⟨rfl, rfl⟩)) | (go_at_call 11; ((with_reducible refine (C2.out _).mono ?_); rintro e w' ⟨rfl, rfl⟩)))
    go_ret
    exact ⟨rfl, below_N _ _⟩

end Go.Proofs.Ytpmgfkgomcpmdaa.Fl
