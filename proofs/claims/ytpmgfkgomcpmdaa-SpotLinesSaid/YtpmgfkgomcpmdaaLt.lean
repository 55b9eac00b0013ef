/- The law SpotTells, walked. Conditions: the theorem's own. -/
import Derived.Test.YtpmgfkgomcpmdaaLw
set_option linter.unusedVariables false
set_option linter.unusedSimpArgs false
namespace Go.Proofs.Ytpmgfkgomcpmdaa.Fl
open Go Go.RowKit Go.Lib Go.Proofs.YtpmgfkgomcpmdaaW.PrintWords Go.Proofs.YtpmgfkgomcpmdaaW.PrintLast Go.Proofs.YtpmgfkgomcpmdaaW.PrintMore

theorem cutB_len (s : ByteArray) : ((cutL s.data.toList).map mkB).length = cntB s + 1 := by
  rw [List.length_map, cutL_len]; rfl
theorem cutB_at (s : ByteArray) (n : Int) (h0 : 0 ≤ n) (h1 : n < (cntB s : Int) + 1) : rdOf ByteArray.empty ((cutL s.data.toList).map mkB) n = lineS s n := by
  have hlt : n.toNat < (cutL s.data.toList).length := by rw [cutL_len]; unfold cntB at h1; omega
  unfold rdOf lineS
  rw [if_pos h0]
  simp [List.getD_eq_getElem?_getD, hlt, mkB]

set_option maxRecDepth 100000 in
set_option maxHeartbeats 8000000 in
theorem spotTells_calls (s : ByteArray) (at_ x y n : Int) (hs : s.size ≤ maxLen) (ha : (Lit.int .i64 at_).wf = true) (hx : (Lit.int .i64 x).wf = true) (hy : (Lit.int .i64 y).wf = true) (hn : (Lit.int .i64 n).wf = true) (w : World) :
    Calls Try.prog 3 #[.string s, .int .i64 at_, .int .i64 x, .int .i64 y, .int .i64 n] w (Yes w) := by
  obtain ⟨b1, b2⟩ := int_bd ha
  obtain ⟨b3, b4⟩ := int_bd hn
  clear ha hx hy hn
  unfold maxLen at hs
  by_cases h1 : (300 : Int) < s.size
  · go_enter Try.func3, Try.ntmps3
    go_wp2_with (go_at_call 9; refine (works_calls _).mono ?_; rintro e w' ⟨rfl, k, rfl⟩)
    go_ret
    exact ⟨rfl, below_N _ _⟩
  by_cases h2 : x < -1099511627776
  · go_enter Try.func3, Try.ntmps3
    go_wp2_with (go_at_call 9; refine (works_calls _).mono ?_; rintro e w' ⟨rfl, k, rfl⟩)
    go_ret
    exact ⟨rfl, below_N _ _⟩
  by_cases h3 : 1099511627776 < x
  · go_enter Try.func3, Try.ntmps3
    go_wp2_with (go_at_call 9; refine (works_calls _).mono ?_; rintro e w' ⟨rfl, k, rfl⟩)
    go_ret
    exact ⟨rfl, below_N _ _⟩
  by_cases h4 : y < -1099511627776
  · go_enter Try.func3, Try.ntmps3
    go_wp2_with (go_at_call 9; refine (works_calls _).mono ?_; rintro e w' ⟨rfl, k, rfl⟩)
    go_ret
    exact ⟨rfl, below_N _ _⟩
  by_cases h5 : 1099511627776 < y
  · go_enter Try.func3, Try.ntmps3
    go_wp2_with (go_at_call 9; refine (works_calls _).mono ?_; rintro e w' ⟨rfl, k, rfl⟩)
    go_ret
    exact ⟨rfl, below_N _ _⟩
  have cvx := fun w => run_convert_int_float (P := Try.prog) w 3 24 .i64 .f64 x (by kernel_rfl) Try.underlying24
  have cvy := fun w => run_convert_int_float (P := Try.prog) w 3 24 .i64 .f64 y (by kernel_rfl) Try.underlying24
  generalize floatOfInt .f64 x = fx at *
  generalize floatOfInt .f64 y = fy at *
  have hle := st_le_take s.data.toList (upto s at_)
  rw [← Lib.size_eq] at hle
  have c1 := fun w => of_calls s at_ w (by omega) (by omega) (by omega)
  have r1 := fun w => refOf_calls s at_ w (by omega)
  have q1 := feq_self (st (s.data.toList.take (upto s at_))).1 (by omega)
  have q2 := feq_self (st (s.data.toList.take (upto s at_))).2 (by omega)
  generalize F (st (s.data.toList.take (upto s at_))).1 = ux at *
  generalize F (st (s.data.toList.take (upto s at_))).2 = uy at *
  have c2 := fun w => at_calls s fx fy w (by omega)
  have r2 := fun w => refAt_calls s fx fy w (by omega)
  unfold AtIs at c2
  generalize atR s.data.toList fx fy = z at *
  have c3 := fun w => lines_calls s w (by omega)
  have c4 := fun w => refCut_calls s w (by omega)
  have c5 := fun w => line_calls s n w (by omega)
  have hcut := cutB_at s n
  have hout := line_out s n
  unfold LineIs at c5
  unfold RefCut at c4
  rw [cutB_len] at c4
  generalize (cutL s.data.toList).map mkB = L at *
  obtain ⟨nl, hnl⟩ : ∃ nl, cntB s + 1 = nl := ⟨_, rfl⟩
  have hnl2 : (cntB s : Int) + 1 = (nl : Int) := by omega
  have hc := cntB_le s
  rw [hnl2] at hcut hout c3
  rw [hnl] at c4
  have hnl3 : (nl : Int) ≤ 301 := by omega
  have C1 := Lib.hid c1
  have R1 := Lib.hid r1
  have C2 := Lib.hid c2
  have R2 := Lib.hid r2
  have C3 := Lib.hid c3
  have C4 := Lib.hid c4
  have C5 := Lib.hid c5
  have H1 := Lib.hid hcut
  have H2 := Lib.hid hout
  generalize lineS s n = ln at *
  clear hle c1 r1 c2 r2 c3 c4 c5 hcut hout hnl hnl2 hc
  by_cases h6 : 0 ≤ n
  · by_cases h7 : n < (nl : Int)
    · go_enter Try.func3, Try.ntmps3
      go_wp2_with (first
        | (go_at_call 9; refine (works_calls _).mono ?_; rintro e w' ⟨rfl, k, rfl⟩)
        | (go_at_call 10; ((with_reducible refine (C4.out _).mono ?_); rintro e w1 ⟨A, c, rfl, hC, hb⟩; obtain ⟨ad, rfl, hcell⟩ := Kd.at_string hC n h6 h7; rw [H1.out h6 h7] at hcell; replace hb := Lib.hid hb; clear hC))
        | (go_at_call 11; ((with_reducible refine (C1.out _).mono ?_); rintro e w' ⟨rfl, rfl⟩))
        | (go_at_call 12; ((with_reducible refine (R1.out _).mono ?_); rintro e w' ⟨rfl, rfl⟩))
        | (go_at_call 13; ((with_reducible refine (C2.out _).mono ?_); rintro e w' ⟨rfl, k2, rfl⟩))
        | (go_at_call 14; ((with_reducible refine (R2.out _).mono ?_); rintro e w' ⟨rfl, rfl⟩))
        | (go_at_call 15; ((with_reducible refine (C3.out _).mono ?_); rintro e w' ⟨rfl, rfl⟩))
        | (go_at_call 16; ((with_reducible refine (C5.out _).mono ?_); rintro e w' ⟨rfl, k3, rfl⟩)))
      go_ret
      exact ⟨rfl, pw_below_drewN (below_step (below_N _ _) hb.out) _⟩
    · have h8 : (nl : Int) ≤ n := by omega
      obtain rfl := H2.out (.inr h8)
      go_enter Try.func3, Try.ntmps3
      go_wp2_with (first
        | (go_at_call 9; refine (works_calls _).mono ?_; rintro e w' ⟨rfl, k, rfl⟩)
        | (go_at_call 10; ((with_reducible refine (C4.out _).mono ?_); rintro e w1 ⟨A, c, rfl, hC, hb⟩; replace hb := Lib.hid hb; clear hC))
        | (go_at_call 11; ((with_reducible refine (C1.out _).mono ?_); rintro e w' ⟨rfl, rfl⟩))
        | (go_at_call 12; ((with_reducible refine (R1.out _).mono ?_); rintro e w' ⟨rfl, rfl⟩))
        | (go_at_call 13; ((with_reducible refine (C2.out _).mono ?_); rintro e w' ⟨rfl, k2, rfl⟩))
        | (go_at_call 14; ((with_reducible refine (R2.out _).mono ?_); rintro e w' ⟨rfl, rfl⟩))
        | (go_at_call 15; ((with_reducible refine (C3.out _).mono ?_); rintro e w' ⟨rfl, rfl⟩))
        | (go_at_call 16; ((with_reducible refine (C5.out _).mono ?_); rintro e w' ⟨rfl, k3, rfl⟩)))
      go_ret
      exact ⟨rfl, pw_below_drewN (below_step (below_N _ _) hb.out) _⟩
  · have h8 : n < 0 := by omega
    obtain rfl := H2.out (.inl h8)
    go_enter Try.func3, Try.ntmps3
    go_wp2_with (first
      | (go_at_call 9; refine (works_calls _).mono ?_; rintro e w' ⟨rfl, k, rfl⟩)
      | (go_at_call 10; ((with_reducible refine (C4.out _).mono ?_); rintro e w1 ⟨A, c, rfl, hC, hb⟩; replace hb := Lib.hid hb; clear hC))
      | (go_at_call 11; ((with_reducible refine (C1.out _).mono ?_); rintro e w' ⟨rfl, rfl⟩))
      | (go_at_call 12; ((with_reducible refine (R1.out _).mono ?_); rintro e w' ⟨rfl, rfl⟩))
      | (go_at_call 13; ((with_reducible refine (C2.out _).mono ?_); rintro e w' ⟨rfl, k2, rfl⟩))
      | (go_at_call 14; ((with_reducible refine (R2.out _).mono ?_); rintro e w' ⟨rfl, rfl⟩))
      | (go_at_call 15; ((with_reducible refine (C3.out _).mono ?_); rintro e w' ⟨rfl, rfl⟩))
      | (go_at_call 16; ((with_reducible refine (C5.out _).mono ?_); rintro e w' ⟨rfl, k3, rfl⟩)))
    go_ret
    exact ⟨rfl, pw_below_drewN (below_step (below_N _ _) hb.out) _⟩

end Go.Proofs.Ytpmgfkgomcpmdaa.Fl
