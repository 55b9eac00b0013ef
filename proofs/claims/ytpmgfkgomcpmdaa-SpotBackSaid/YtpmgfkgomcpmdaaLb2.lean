/- The law SpotBack, walked. Conditions: the theorem's own. -/
import Derived.Test.YtpmgfkgomcpmdaaLw
set_option linter.unusedVariables false
set_option linter.unusedSimpArgs false
namespace Go.Proofs.Ytpmgfkgomcpmdaa.Fl
open Go Go.RowKit Go.Lib Go.Proofs.YtpmgfkgomcpmdaaW.PrintWords Go.Proofs.YtpmgfkgomcpmdaaW.PrintLast Go.Proofs.YtpmgfkgomcpmdaaW.PrintMore

theorem conv_back (n : Nat) (h : n ≤ 2147483647) (w : World) : (convert 24 3 (.float .f64 (F n))).run Try.prog w = .ok (.int .i64 n) w :=
  run_convert_float_int w 24 3 .f64 .i64 _ n (by kernel_rfl) Try.underlying3 (by
    obtain ⟨m, _, hi, hm⟩ := whole_yes (F n) (F_whole n h)
    have e := IsN_one hm (IsN_F n (by omega))
    subst e
    unfold floatToIntVal
    rw [show (FloatKind.f64.decode (F m)).toInt .zero = _ from hi]
    have : IntKind.i64.min ≤ (m : Int) ∧ (m : Int) ≤ IntKind.i64.max := by
      have e1 : IntKind.i64.min = -9223372036854775808 := by decide
      have e2 : IntKind.i64.max = 9223372036854775807 := by decide
      rw [e1, e2]; omega
    simp only [this, and_self, if_true])

set_option maxRecDepth 100000 in
set_option maxHeartbeats 8000000 in
theorem spotBack_calls (s : ByteArray) (at_ : Int) (half : Nat) (hs : s.size ≤ maxLen) (ha : (Lit.int .i64 at_).wf = true) (hh : (Lit.float .f64 half).wf = true) (w : World) :
    Calls Try.prog 4 #[.string s, .int .i64 at_, .float .f64 half] w (Yes w) := by
  obtain ⟨b1, b2⟩ := int_bd ha
  clear ha hh
  unfold maxLen at hs
  by_cases h1 : (300 : Int) < s.size
  · go_enter Try.func4, Try.ntmps4
    go_wp2_with (go_at_call 9; refine (works_calls _).mono ?_; rintro e w' ⟨rfl, k, rfl⟩)
    go_ret
    exact ⟨rfl, below_N _ _⟩
  by_cases h2 : at_ < 0
  · go_enter Try.func4, Try.ntmps4
    go_wp2_with (go_at_call 9; refine (works_calls _).mono ?_; rintro e w' ⟨rfl, k, rfl⟩)
    go_ret
    exact ⟨rfl, below_N _ _⟩
  by_cases h3 : (s.size : Int) < at_
  · go_enter Try.func4, Try.ntmps4
    go_wp2_with (go_at_call 9; refine (works_calls _).mono ?_; rintro e w' ⟨rfl, k, rfl⟩)
    go_ret
    exact ⟨rfl, below_N _ _⟩
  obtain ⟨k, rfl⟩ : ∃ k : Nat, at_ = k := ⟨at_.toNat, by omega⟩
  have hk : k ≤ s.size := by omega
  have hkl : k ≤ s.data.toList.length := by rw [← Lib.size_eq]; exact hk
  have hle := st_le_take s.data.toList k
  rw [← Lib.size_eq] at hle
  have hcnt : (st (s.data.toList.take k)).2 ≤ cntB s := by
    rw [st_count]; unfold cntB
    exact (List.take_sublist k _).count_le _
  obtain ⟨b, hb, hst⟩ := st_begin s.data.toList (st (s.data.toList.take k)).2 hcnt
  have hline := (st_line s.data.toList k b hkl hb hst).1
  rw [← lineS_len s _ b (by rw [Lib.size_eq]; exact hb) hst] at hline
  have hself : isAt s.data.toList (F (st (s.data.toList.take k)).1) (F (st (s.data.toList.take k)).2) k = true := by
    unfold isAt
    rw [feq_F _ _ (by omega) (by omega), feq_F _ _ (by omega) (by omega)]; simp
  have hat := atR_some _ _ _ k (by rw [← Lib.size_eq]; omega) hkl hself
  have c1 := fun w => ofAt s k (by omega) hk w
  have c2 := fun w => at_calls s (F (st (s.data.toList.take k)).1) (F (st (s.data.toList.take k)).2) w (by omega)
  have c3 := fun w => at_calls s half (F (st (s.data.toList.take k)).2) w (by omega)
  have l1 := fun w => lines_calls s w (by omega)
  unfold AtIs at c2 c3
  rw [hat] at c2
  have hc := cntB_le s
  have hodd := atR_cases s.data.toList half (F (st (s.data.toList.take k)).2)
  obtain ⟨⟨x, y⟩, e1⟩ : ∃ p, st (s.data.toList.take k) = p := ⟨_, rfl⟩
  rw [e1] at c1 c2 c3 hle hline hodd hcnt
  simp only at c1 c2 c3 hle hline hodd hcnt
  have c5 := fun w => line_calls s y w (by omega)
  unfold LineIs at c5
  have v1 := conv_back x (by omega)
  have v2 := conv_back y (by omega)
  have hxl : (x : Int) ≤ (lineS s y).size := by omega
  have hyl : (y : Int) < (cntB s : Int) + 1 := by omega
  have hx300 : (x : Int) ≤ 300 := by omega
  have hc300 : (cntB s : Int) ≤ 300 := by omega
  generalize lineS s y = ln at *
  have C1 := Lib.hid c1
  have C2 := Lib.hid c2
  have C3 := Lib.hid c3
  have C5 := Lib.hid c5
  have L1 := Lib.hid l1
  clear c1 c2 c3 c5 l1 hself hat hst hb hline hle e1 hcnt
  rcases hodd with ⟨ho, _⟩ | ⟨i, hi, hia, ho⟩
  · generalize F x = fx at *
    generalize F y = fy at *
    rw [ho] at C3
    clear ho
    go_enter Try.func4, Try.ntmps4
    go_wp2_with (first
      | (go_at_call 9; refine (works_calls _).mono ?_; rintro e w' ⟨rfl, k, rfl⟩)
      | (go_at_call 11; ((with_reducible refine (C1.out _).mono ?_); rintro e w' ⟨rfl, rfl⟩))
      | (go_at_call 13; ((with_reducible refine (C2.out _).mono ?_); rintro e w' ⟨rfl, k2, rfl⟩))
      | (go_at_call 13; ((with_reducible refine (C3.out _).mono ?_); rintro e w' ⟨rfl, k2, rfl⟩))
      | (go_at_call 15; ((with_reducible refine (L1.out _).mono ?_); rintro e w' ⟨rfl, rfl⟩))
      | (go_at_call 16; ((with_reducible refine (C5.out _).mono ?_); rintro e w' ⟨rfl, k3, rfl⟩)))
    all_goals first
      | (go_ret; exact ⟨rfl, below_N _ _⟩)
      | go_ways
  · have c6 := fun w => ofAt s i (by omega) (by rw [Lib.size_eq]; exact hi) w
    have hia2 := hia
    unfold isAt at hia2
    rw [Bool.and_eq_true] at hia2
    have t1 : FloatKind.f64.format.order (F (st (s.data.toList.take i)).1) half = some Ordering.eq := beq_iff_eq.1 hia2.1
    have t2 : FloatKind.f64.format.order (F (st (s.data.toList.take i)).2) (F y) = some Ordering.eq := beq_iff_eq.1 hia2.2
    clear hia hia2
    generalize F (st (s.data.toList.take i)).1 = gx at *
    generalize F (st (s.data.toList.take i)).2 = gy at *
    generalize F x = fx at *
    generalize F y = fy at *
    rw [ho] at C3
    have C6 := Lib.hid c6
    have hin : ((i : Int) == -1) = false := beq_eq_false_iff_ne.2 (by omega)
    clear ho c6 hi
    go_enter Try.func4, Try.ntmps4
    go_wp2_with (first
      | (go_at_call 9; refine (works_calls _).mono ?_; rintro e w' ⟨rfl, k, rfl⟩)
      | (go_at_call 11; ((with_reducible refine (C1.out _).mono ?_); rintro e w' ⟨rfl, rfl⟩))
      | (go_at_call 11; ((with_reducible refine (C6.out _).mono ?_); rintro e w' ⟨rfl, rfl⟩))
      | (go_at_call 13; ((with_reducible refine (C2.out _).mono ?_); rintro e w' ⟨rfl, k2, rfl⟩))
      | (go_at_call 13; ((with_reducible refine (C3.out _).mono ?_); rintro e w' ⟨rfl, k2, rfl⟩))
      | (go_at_call 15; ((with_reducible refine (L1.out _).mono ?_); rintro e w' ⟨rfl, rfl⟩))
      | (go_at_call 16; ((with_reducible refine (C5.out _).mono ?_); rintro e w' ⟨rfl, k3, rfl⟩)))
    all_goals first
      | (go_ret; exact ⟨rfl, below_N _ _⟩)
      | go_ways

end Go.Proofs.Ytpmgfkgomcpmdaa.Fl
