/- The laws SpotMoves and SpotMany, walked. Conditions: each theorem's own. -/
import Derived.Test.YtpmgfkgomcpmdaaLw
set_option linter.unusedVariables false
set_option linter.unusedSimpArgs false
namespace Go.Proofs.Ytpmgfkgomcpmdaa.Fl
open Go Go.RowKit Go.Lib Go.Proofs.YtpmgfkgomcpmdaaW.PrintWords Go.Proofs.YtpmgfkgomcpmdaaW.PrintLast Go.Proofs.YtpmgfkgomcpmdaaW.PrintMore

theorem Lib.data_app (a b : ByteArray) : (a ++ b).data.toList = a.data.toList ++ b.data.toList := by
  rw [ByteArray.data_append, Array.toList_append]
theorem take_all (a : ByteArray) : a.data.toList.take a.size = a.data.toList := by
  rw [Lib.size_eq, List.take_length]
theorem take_both (a b : ByteArray) (k : Nat) : (a ++ b).data.toList.take (a.size + k) = a.data.toList ++ b.data.toList.take k := by
  rw [Lib.data_app, Lib.size_eq, List.take_append, List.take_of_length_le (by omega)]
  congr 2; omega
theorem moveP_st (a b : Bytes) : moveP (st a) (st b) = st (a ++ b) := by
  rw [st_append]
  unfold moveP
  by_cases h : (st b).2 = 0
  · rw [if_pos h, if_pos h, h, Nat.add_zero]
  · rw [if_neg h, if_neg h]
theorem cntB_app (a b : ByteArray) : cntB (a ++ b) = cntB a + cntB b := by
  unfold cntB; rw [Lib.data_app, List.count_append]
theorem moveP_le (p q : Nat × Nat) : (moveP p q).1 ≤ p.1 + q.1 ∧ (moveP p q).2 = p.2 + q.2 := by
  unfold moveP
  split <;> simp
theorem moveP_assoc (p q r : Nat × Nat) : moveP (moveP p q) r = moveP p (moveP q r) := by
  obtain ⟨a, b⟩ := p
  obtain ⟨c, d⟩ := q
  obtain ⟨e, f⟩ := r
  unfold moveP
  by_cases h1 : d = 0 <;> by_cases h2 : f = 0 <;> simp [h1, h2] <;> omega
theorem moveP_zero (p : Nat × Nat) : moveP (0, 0) p = p := by
  obtain ⟨a, b⟩ := p
  unfold moveP
  split <;> simp
theorem moveP_none (p : Nat × Nat) : moveP p (0, 0) = p := by
  obtain ⟨a, b⟩ := p
  unfold moveP
  simp

set_option maxRecDepth 100000 in
set_option maxHeartbeats 8000000 in
theorem spotMoves_calls (a b : ByteArray) (at_ : Int) (hs : a.size ≤ maxLen) (ht : b.size ≤ maxLen) (ha : (Lit.int .i64 at_).wf = true) (w : World) :
    Calls Try.prog 5 #[.string a, .string b, .int .i64 at_] w (Yes w) := by
  obtain ⟨b1, b2⟩ := int_bd ha
  clear ha
  unfold maxLen at hs ht
  by_cases h1 : (300 : Int) < a.size
  · go_enter Try.func5, Try.ntmps5
    go_wp2_with (go_at_call 9; refine (works_calls _).mono ?_; rintro e w' ⟨rfl, k, rfl⟩)
    go_ret
    exact ⟨rfl, below_N _ _⟩
  by_cases h2 : (300 : Int) < b.size
  · go_enter Try.func5, Try.ntmps5
    go_wp2_with (go_at_call 9; refine (works_calls _).mono ?_; rintro e w' ⟨rfl, k, rfl⟩)
    go_ret
    exact ⟨rfl, below_N _ _⟩
  by_cases h3 : at_ < 0
  · go_enter Try.func5, Try.ntmps5
    go_wp2_with (go_at_call 9; refine (works_calls _).mono ?_; rintro e w' ⟨rfl, k, rfl⟩)
    go_ret
    exact ⟨rfl, below_N _ _⟩
  by_cases h4 : (b.size : Int) < at_
  · go_enter Try.func5, Try.ntmps5
    go_wp2_with (go_at_call 9; refine (works_calls _).mono ?_; rintro e w' ⟨rfl, k, rfl⟩)
    go_ret
    exact ⟨rfl, below_N _ _⟩
  obtain ⟨k, rfl⟩ : ∃ k : Nat, at_ = k := ⟨at_.toNat, by omega⟩
  have hab : (a ++ b).size = a.size + b.size := ByteArray.size_append
  have c1 := fun w => ofAt a a.size (by omega) (Nat.le_refl _) w
  have c2 := fun w => ofAt b k (by omega) (by omega) w
  have c3 := fun w => ofAt (a ++ b) (a.size + k) (by omega) (by omega) w
  have l1 := fun w => lines_calls (a ++ b) w (by omega)
  have l2 := fun w => lines_calls a w (by omega)
  have l3 := fun w => lines_calls b w (by omega)
  have e0 : ((a.size + k : Nat) : Int) = (a.size : Int) + (k : Int) := by omega
  rw [take_all a] at c1
  rw [take_both, ← moveP_st, e0] at c3
  rw [cntB_app] at l1
  have n1 := cntB_le a
  have n2 := cntB_le b
  have s1 := st_le a.data.toList
  have s2 := st_le_take b.data.toList k
  rw [← Lib.size_eq] at s1 s2
  obtain ⟨⟨x1, y1⟩, e1⟩ : ∃ p, st a.data.toList = p := ⟨_, rfl⟩
  obtain ⟨⟨x2, y2⟩, e2⟩ : ∃ p, st (b.data.toList.take k) = p := ⟨_, rfl⟩
  rw [e1] at c1 c3 s1
  rw [e2] at c2 c3 s2
  simp only at s1 s2 c1 c2
  have m1 := fun w => move_calls (x1, y1) (x2, y2) w (by simp only; omega)
  have r1 := fun w => refMove_calls (x1, y1) (x2, y2) w (by simp only; omega)
  have s3 := moveP_le (x1, y1) (x2, y2)
  simp only at s3
  obtain ⟨⟨x3, y3⟩, e3⟩ : ∃ p, moveP (x1, y1) (x2, y2) = p := ⟨_, rfl⟩
  rw [e3] at c3 m1 r1 s3
  simp only at c3 m1 r1 s3
  have q1 := feq_self x3 (by omega)
  have q2 := feq_self y3 (by omega)
  generalize F x1 = f1 at *
  generalize F y1 = g1 at *
  generalize F x2 = f2 at *
  generalize F y2 = g2 at *
  generalize F x3 = f3 at *
  generalize F y3 = g3 at *
  have C1 := Lib.hid c1
  have C2 := Lib.hid c2
  have C3 := Lib.hid c3
  have L1 := Lib.hid l1
  have L2 := Lib.hid l2
  have L3 := Lib.hid l3
  have M1 := Lib.hid m1
  have R1 := Lib.hid r1
  clear c1 c2 c3 l1 l2 l3 m1 r1 s1 s2 s3 e0 e1 e2 e3 hab
  go_enter Try.func5, Try.ntmps5
  go_wp2_with (first
    | (go_at_call 9; refine (works_calls _).mono ?_; rintro e w' ⟨rfl, k, rfl⟩)
    | (go_at_call 11; ((with_reducible refine (C1.out _).mono ?_); rintro e w' ⟨rfl, rfl⟩))
    | (go_at_call 11; ((with_reducible refine (C2.out _).mono ?_); rintro e w' ⟨rfl, rfl⟩))
    | (go_at_call 11; ((with_reducible refine (C3.out _).mono ?_); rintro e w' ⟨rfl, rfl⟩))
    | (go_at_call 15; ((with_reducible refine (L1.out _).mono ?_); rintro e w' ⟨rfl, rfl⟩))
    | (go_at_call 15; ((with_reducible refine (L2.out _).mono ?_); rintro e w' ⟨rfl, rfl⟩))
    | (go_at_call 15; ((with_reducible refine (L3.out _).mono ?_); rintro e w' ⟨rfl, rfl⟩))
    | (go_at_call 17; ((with_reducible refine (M1.out _).mono ?_); rintro e w' ⟨rfl, rfl⟩))
    | (go_at_call 18; ((with_reducible refine (R1.out _).mono ?_); rintro e w' ⟨rfl, rfl⟩)))
  all_goals first
    | (go_ret; exact ⟨rfl, below_N _ _⟩)
    | (exfalso; have hz : ¬ _ = _ := by assumption
       exact hz (by omega))
    | go_ways

set_option maxRecDepth 100000 in
set_option maxHeartbeats 8000000 in
theorem spotMany_calls (a b c : ByteArray) (hs : a.size ≤ maxLen) (ht : b.size ≤ maxLen) (hu : c.size ≤ maxLen) (w : World) :
    Calls Try.prog 8 #[.string a, .string b, .string c] w (Yes w) := by
  unfold maxLen at hs ht hu
  by_cases h1 : (300 : Int) < a.size
  · go_enter Try.func8, Try.ntmps8
    go_wp2_with (go_at_call 9; refine (works_calls _).mono ?_; rintro e w' ⟨rfl, k, rfl⟩)
    go_ret
    exact ⟨rfl, below_N _ _⟩
  by_cases h2 : (300 : Int) < b.size
  · go_enter Try.func8, Try.ntmps8
    go_wp2_with (go_at_call 9; refine (works_calls _).mono ?_; rintro e w' ⟨rfl, k, rfl⟩)
    go_ret
    exact ⟨rfl, below_N _ _⟩
  by_cases h3 : (300 : Int) < c.size
  · go_enter Try.func8, Try.ntmps8
    go_wp2_with (go_at_call 9; refine (works_calls _).mono ?_; rintro e w' ⟨rfl, k, rfl⟩)
    go_ret
    exact ⟨rfl, below_N _ _⟩
  have hab : (a ++ b).size = a.size + b.size := ByteArray.size_append
  have habc : (a ++ b ++ c).size = a.size + b.size + c.size := by rw [ByteArray.size_append, hab]
  have c1 := fun w => ofAt a a.size (by omega) (Nat.le_refl _) w
  have c2 := fun w => ofAt b b.size (by omega) (Nat.le_refl _) w
  have c3 := fun w => ofAt c c.size (by omega) (Nat.le_refl _) w
  have c4 := fun w => ofAt (a ++ b ++ c) (a ++ b ++ c).size (by omega) (Nat.le_refl _) w
  rw [take_all] at c1 c2 c3 c4
  have e0 : (((a ++ b ++ c).size : Nat) : Int) = (a.size : Int) + (b.size : Int) + (c.size : Int) := by omega
  rw [e0] at c4
  rw [Lib.data_app, Lib.data_app, ← moveP_st, ← moveP_st, moveP_assoc] at c4
  have s1 := st_le a.data.toList
  have s2 := st_le b.data.toList
  have s3 := st_le c.data.toList
  rw [← Lib.size_eq] at s1 s2 s3
  obtain ⟨⟨x1, y1⟩, e1⟩ : ∃ p, st a.data.toList = p := ⟨_, rfl⟩
  obtain ⟨⟨x2, y2⟩, e2⟩ : ∃ p, st b.data.toList = p := ⟨_, rfl⟩
  obtain ⟨⟨x3, y3⟩, e3⟩ : ∃ p, st c.data.toList = p := ⟨_, rfl⟩
  rw [e1] at c1 c4 s1
  rw [e2] at c2 c4 s2
  rw [e3] at c3 c4 s3
  simp only at s1 s2 s3 c1 c2 c3
  have m1 := fun w => move_calls (x1, y1) (x2, y2) w (by simp only; omega)
  have m2 := fun w => move_calls (x2, y2) (x3, y3) w (by simp only; omega)
  have s4 := moveP_le (x1, y1) (x2, y2)
  have s5 := moveP_le (x2, y2) (x3, y3)
  have m3 := fun w => move_calls (moveP (x1, y1) (x2, y2)) (x3, y3) w (by simp only at s4 ⊢; omega)
  have m4 := fun w => move_calls (x1, y1) (moveP (x2, y2) (x3, y3)) w (by simp only at s5 ⊢; omega)
  have m5 := fun w => move_calls (0, 0) (x1, y1) w (by simp only; omega)
  have m6 := fun w => move_calls (x1, y1) (0, 0) w (by simp only; omega)
  rw [moveP_assoc] at m3
  rw [moveP_zero] at m5
  rw [moveP_none] at m6
  simp only [k7] at m5 m6
  have s6 := moveP_le (x1, y1) (moveP (x2, y2) (x3, y3))
  simp only at s4 s5 s6
  obtain ⟨⟨x4, y4⟩, e4⟩ : ∃ p, moveP (x1, y1) (x2, y2) = p := ⟨_, rfl⟩
  obtain ⟨⟨x5, y5⟩, e5⟩ : ∃ p, moveP (x2, y2) (x3, y3) = p := ⟨_, rfl⟩
  rw [e4] at m1 m3 s4
  rw [e5] at m2 m3 m4 s5 s6 c4
  obtain ⟨⟨x6, y6⟩, e6⟩ : ∃ p, moveP (x1, y1) (x5, y5) = p := ⟨_, rfl⟩
  rw [e6] at m3 m4 s6 c4
  simp only at m1 m2 m3 m4 m5 m6 c4 s4 s5 s6
  have q1 := feq_self x6 (by omega)
  have q2 := feq_self y6 (by omega)
  have q3 := feq_self x1 (by omega)
  have q4 := feq_self y1 (by omega)
  generalize F x1 = f1 at *
  generalize F y1 = g1 at *
  generalize F x2 = f2 at *
  generalize F y2 = g2 at *
  generalize F x3 = f3 at *
  generalize F y3 = g3 at *
  generalize F x4 = f4 at *
  generalize F y4 = g4 at *
  generalize F x5 = f5 at *
  generalize F y5 = g5 at *
  generalize F x6 = f6 at *
  generalize F y6 = g6 at *
  have C1 := Lib.hid c1
  have C2 := Lib.hid c2
  have C3 := Lib.hid c3
  have C4 := Lib.hid c4
  have M1 := Lib.hid m1
  have M2 := Lib.hid m2
  have M3 := Lib.hid m3
  have M4 := Lib.hid m4
  have M5 := Lib.hid m5
  have M6 := Lib.hid m6
  clear c1 c2 c3 c4 m1 m2 m3 m4 m5 m6 s1 s2 s3 s4 s5 s6 e1 e2 e3 e4 e5 e6 hab habc e0
  go_enter Try.func8, Try.ntmps8
  go_wp2_with (first
    | (go_at_call 9; refine (works_calls _).mono ?_; rintro e w' ⟨rfl, k, rfl⟩)
    | (go_at_call 11; ((with_reducible refine (C1.out _).mono ?_); rintro e w' ⟨rfl, rfl⟩))
    | (go_at_call 11; ((with_reducible refine (C2.out _).mono ?_); rintro e w' ⟨rfl, rfl⟩))
    | (go_at_call 11; ((with_reducible refine (C3.out _).mono ?_); rintro e w' ⟨rfl, rfl⟩))
    | (go_at_call 11; ((with_reducible refine (C4.out _).mono ?_); rintro e w' ⟨rfl, rfl⟩))
    | (go_at_call 17; ((with_reducible refine (M1.out _).mono ?_); rintro e w' ⟨rfl, rfl⟩))
    | (go_at_call 17; ((with_reducible refine (M2.out _).mono ?_); rintro e w' ⟨rfl, rfl⟩))
    | (go_at_call 17; ((with_reducible refine (M3.out _).mono ?_); rintro e w' ⟨rfl, rfl⟩))
    | (go_at_call 17; ((with_reducible refine (M4.out _).mono ?_); rintro e w' ⟨rfl, rfl⟩))
    | (go_at_call 17; ((with_reducible refine (M5.out _).mono ?_); rintro e w' ⟨rfl, rfl⟩))
    | (go_at_call 17; ((with_reducible refine (M6.out _).mono ?_); rintro e w' ⟨rfl, rfl⟩)))
  all_goals first
    | (go_ret; exact ⟨rfl, below_N _ _⟩)
    | go_ways

end Go.Proofs.Ytpmgfkgomcpmdaa.Fl
