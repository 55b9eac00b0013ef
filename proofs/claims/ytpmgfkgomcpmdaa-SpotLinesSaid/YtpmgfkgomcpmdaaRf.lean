/- The reference's functions on spots, walked: Of, At, Move, Cut. Conditions: each theorem's own. -/
import Derived.Test.YtpmgfkgomcpmdaaSp
import Derived.Test.YtpmgfkgomcpmdaaCt
set_option linter.unusedVariables false
set_option linter.unusedSimpArgs false
namespace Go.Proofs.Ytpmgfkgomcpmdaa.Fl
open Go Go.RowKit Go.Lib Go.Proofs.YtpmgfkgomcpmdaaW.PrintWords Go.Proofs.YtpmgfkgomcpmdaaW.PrintLast Go.Proofs.YtpmgfkgomcpmdaaW.PrintMore

theorem conv_run (n : Nat) (w : World) : (convert 3 24 (.int .i64 (n : Int))).run Try.prog w = .ok (.float .f64 (F n)) w := by
  rw [← conv_F]
  exact run_convert_int_float w 3 24 .i64 .f64 _ (by kernel_rfl) Try.underlying24

set_option maxHeartbeats 4000000 in
theorem refOf_calls (s : ByteArray) (at_ : Int) (w : World) (hs : s.size < 1099511627776) :
    Calls Try.prog 12 #[.string s, .int .i64 at_] w fun e w' => e = .returned (.complex .f64 (F (st (s.data.toList.take (upto s at_))).1) (F (st (s.data.toList.take (upto s at_))).2)) ∧ w' = w := by
  go_enter Try.func12, Try.ntmps12
  go_wp2
  go_loop [5, 6, 7] (fun vl vc vi => ∃ k x y : Nat, vi = .int .i64 k ∧ vl = .int .i64 y ∧ vc = .int .i64 x ∧ k ≤ s.size ∧ x ≤ s.size ∧ y ≤ s.size ∧ Hid (k ≤ upto s at_ ∧ st (s.data.toList.take k) = (x, y))) (fun _ _ vi => s.size - (RowKit.intOf vi).toNat)
  case atStart => exact ⟨0, 0, 0, rfl, rfl, rfl, Nat.zero_le _, Nat.zero_le _, Nat.zero_le _, ⟨Nat.zero_le _, rfl⟩⟩
  case round =>
    obtain ⟨k, x, y, rfl, rfl, rfl, hk, hx, hy, HS⟩ := hrel
    by_cases h1 : (k : Int) < s.size
    · by_cases h2 : (k : Int) < at_
      · have hlt : k < s.size := by omega
        have hll : k < s.data.toList.length := by rw [← Lib.size_eq]; exact hlt
        have hbyte : s.data.toList[k] = s[k] := by simp; rfl
        have hst : st (s.data.toList.take (k + 1)) = stp (x, y) s[k] := by
          rw [List.take_succ_eq_append_getElem hll, st_snoc, HS.out.2, hbyte]
        have hup : k + 1 ≤ upto s at_ := by unfold upto; omega
        have hle := st_le_take s.data.toList (k + 1)
        rw [hst, ← Lib.size_eq] at hle
        have HT := Lib.hid hst
        have HU := Lib.hid hup
        have HL := Lib.hid hle
        clear hst hup hbyte hle
        by_cases hb : s[k] = 10
        · have hb1 : (((s[k]).toNat : Int) == 10) = true := by rw [hb]; rfl
          have HB := Lib.hid hb
          clear hb
          go_wp2
          go_round
          case rel => exact ⟨k + 1, 0, y + 1, by go_num, by go_num, by go_num, by omega, by omega, by have := HL.out.2; unfold stp at this; rw [if_pos HB.out] at this; exact this, ⟨HU.out, by rw [HT.out]; unfold stp; rw [if_pos HB.out]⟩⟩
          case measure => simp [RowKit.intOf]; omega
        · have hb1 : (((s[k]).toNat : Int) == 10) = false := beq_eq_false_iff_ne.2 fun e => hb (UInt8.toNat_inj.1 (by have : (10 : UInt8).toNat = 10 := rfl; omega))
          have HB := Lib.hid hb
          clear hb
          go_wp2
          go_round
          case rel => exact ⟨k + 1, x + 1, y, by go_num, by go_num, by go_num, by omega, by have := HL.out.1; unfold stp at this; rw [if_neg HB.out] at this; exact this, by omega, ⟨HU.out, by rw [HT.out]; unfold stp; rw [if_neg HB.out]⟩⟩
          case measure => simp [RowKit.intOf]; omega
      · have hu : k = upto s at_ := by have := HS.out.1; unfold upto at this ⊢; omega
        have c1 := conv_run x
        have c2 := conv_run y
        have HE := Lib.hid (show st (s.data.toList.take (upto s at_)) = (x, y) by rw [← hu]; exact HS.out.2)
        clear HS hu
        go_wp2
        go_ret
        rw [HE.out]
        exact ⟨rfl, rfl⟩
    · have hu : k = upto s at_ := by have := HS.out.1; unfold upto at this ⊢; omega
      have c1 := conv_run x
      have c2 := conv_run y
      have HE := Lib.hid (show st (s.data.toList.take (upto s at_)) = (x, y) by rw [← hu]; exact HS.out.2)
      clear HS hu
      go_wp2
      go_ret
      rw [HE.out]
      exact ⟨rfl, rfl⟩

theorem upto_nat (s : ByteArray) (k : Nat) (h : k ≤ s.size) : upto s k = k := by unfold upto; omega

set_option maxHeartbeats 4000000 in
theorem refAt_calls (s : ByteArray) (x y : Nat) (w : World) (hs : s.size < 2147483647) : Calls Try.prog 14 #[.string s, .complex .f64 x y] w fun e w' => e = .returned (.int .i64 (atR s.data.toList x y)) ∧ w' = w := by
  have hs2 : s.size < 1099511627776 := by omega
  go_enter Try.func14, Try.ntmps14
  go_wp2
  go_loop [5] (fun vi => ∃ k : Nat, vi = .int .i64 k ∧ k ≤ s.size + 1 ∧ Hid (∀ j, j < k → isAt s.data.toList x y j = false)) (fun vi => s.size + 1 - (RowKit.intOf vi).toNat)
  case atStart => exact ⟨0, rfl, Nat.zero_le _, Lib.hid (fun j h => absurd h (Nat.not_lt_zero _))⟩
  case round =>
    obtain ⟨k, rfl, hk, HN⟩ := hrel
    by_cases h1 : (k : Int) ≤ s.size
    · have hks : k ≤ s.size := by omega
      have hc : Hid (∀ w, Calls Try.prog 12 #[.string s, .int .i64 k] w fun e w' => e = .returned (.complex .f64 (F (st (s.data.toList.take k)).1) (F (st (s.data.toList.take k)).2)) ∧ w' = w) := Lib.hid (fun w => by
        have := refOf_calls s k w hs2
        rwa [upto_nat s k hks] at this)
      have hk64 : (k : Int) ≤ 2147483647 := by omega
      have HI := Lib.hid (show isAt s.data.toList x y k = ((FloatKind.f64.format.order (F (st (s.data.toList.take k)).1) x == some Ordering.eq) && (FloatKind.f64.format.order (F (st (s.data.toList.take k)).2) y == some Ordering.eq)) from rfl)
      generalize F (st (s.data.toList.take k)).1 = fx at *
      generalize F (st (s.data.toList.take k)).2 = fy at *
      cases p1 : (FloatKind.f64.format.order fx x == some Ordering.eq)
      · have HF := Lib.hid (show isAt s.data.toList x y k = false by rw [HI.out, p1]; rfl)
        go_wp2_with (go_at_call 12; refine (hc.out _).mono ?_; rintro e w' ⟨rfl, rfl⟩)
        go_round
        case rel => exact ⟨k + 1, by go_num, by omega, Lib.hid (fun j hj => by rcases Nat.lt_succ_iff_lt_or_eq.1 hj with h | rfl; exact HN.out j h; exact HF.out)⟩
        case measure => simp [RowKit.intOf]; omega
      · cases p2 : (FloatKind.f64.format.order fy y == some Ordering.eq)
        · have HF := Lib.hid (show isAt s.data.toList x y k = false by rw [HI.out, p1, p2]; rfl)
          go_wp2_with (go_at_call 12; refine (hc.out _).mono ?_; rintro e w' ⟨rfl, rfl⟩)
          go_round
          case rel => exact ⟨k + 1, by go_num, by omega, Lib.hid (fun j hj => by rcases Nat.lt_succ_iff_lt_or_eq.1 hj with h | rfl; exact HN.out j h; exact HF.out)⟩
          case measure => simp [RowKit.intOf]; omega
        · have HF := Lib.hid (show atR s.data.toList x y = (k : Int) from atR_some _ x y k (by rw [← Lib.size_eq]; omega) (by rw [← Lib.size_eq]; exact hks) (by rw [HI.out, p1, p2]; rfl))
          go_wp2_with (go_at_call 12; refine (hc.out _).mono ?_; rintro e w' ⟨rfl, rfl⟩)
          go_ret
          rw [HF.out]
          exact ⟨rfl, rfl⟩
    · have HF := Lib.hid (show atR s.data.toList x y = -1 from atR_none _ x y fun i hi => HN.out i (by rw [← Lib.size_eq] at hi; omega))
      go_wp2
      go_ret
      rw [HF.out]
      exact ⟨rfl, rfl⟩

set_option maxHeartbeats 1000000 in
theorem refMove_calls (p q : Nat × Nat) (w : World) (h : p.1 < 1099511627776 ∧ p.2 < 1099511627776 ∧ q.1 < 1099511627776 ∧ q.2 < 1099511627776) :
    Calls Try.prog 18 #[.complex .f64 (F p.1) (F p.2), .complex .f64 (F q.1) (F q.2)] w fun e w' => e = .returned (.complex .f64 (F (moveP p q).1) (F (moveP p q).2)) ∧ w' = w := by
  obtain ⟨a, b⟩ := p
  obtain ⟨c, d⟩ := q
  simp only at h ⊢
  have hsum : ∀ (x u : Nat), x < 1099511627776 → u < 1099511627776 → ∀ w, (binOp .add 24 (.float .f64 (F x)) (.float .f64 (F u))).run Try.prog w = .ok (.float .f64 (F (x + u))) w := fun x u h1 h2 w => run_float_arith w .add 24 .f64 _ _ _ (sum_F x u (by omega))
  by_cases hd : d = 0
  · subst hd
    have hs1 := hsum a c h.1 h.2.2.1
    have h0 : (FloatKind.f64.format.order (F 0) 0 == some Ordering.eq) = true := by decide +kernel
    have h1 : FloatKind.f64.format.order (F 0) 0 = some Ordering.eq := beq_iff_eq.1 h0
    clear hsum
    go_enter Try.func18, Try.ntmps18
    go_wp2
    go_ret
    exact ⟨rfl, rfl⟩
  · have hs1 := hsum b d h.2.1 h.2.2.2
    have hz : (FloatKind.f64.format.order (F d) 0 == some Ordering.eq) = false := by
      have : feq (F d) (F 0) = false := by rw [feq_F d 0 (by omega) (by omega)]; exact decide_eq_false hd
      rw [← zero_eq] at this; exact this
    clear hsum
    go_enter Try.func18, Try.ntmps18
    go_wp2
    go_ret
    exact ⟨by simp only [moveP, hd, if_false]; rfl, rfl⟩

/-- A text of some bytes. -/
def mkB (l : Bytes) : ByteArray := ⟨l.toArray⟩

theorem cutL_seg (a : Bytes) (h : (10 : UInt8) ∉ a) : cutL a = [a] := by
  induction a with
  | nil => rfl
  | cons c a ih =>
    unfold cutL
    rw [if_neg (fun e => h (by rw [e]; simp)), ih (fun e => h (by simp [e]))]

theorem bt_eq (s : ByteArray) (k : Nat) (hk : k < s.data.toList.length) : bt s k = ((s.data.toList[k]).toNat : Int) := by
  unfold bt
  rw [dif_pos (by rw [Int.toNat_natCast, Lib.size_eq]; exact hk)]
  rfl

theorem cut_f (s : ByteArray) (hs : s.size ≤ 300) (d : Nat) : ∀ (k i from_ : Nat) (acc : List ByteArray), i + d = s.size → from_ ≤ i → d < k → acc.length ≤ i → (10 : UInt8) ∉ (s.data.toList.drop from_).take (i - from_) →
    Ct.syntagmref02_Cut.l0 k s acc from_ i = some (acc ++ (cutL (s.data.toList.drop from_)).map mkB) := by
  induction d with
  | zero =>
    intro k i from_ acc hi hf hk ha hn
    obtain ⟨k, rfl⟩ : ∃ m, k = m + 1 := ⟨k - 1, by omega⟩
    simp only [Ct.syntagmref02_Cut.l0]
    have hlen : s.data.toList.length = s.size := (Lib.size_eq s).symm
    rw [if_neg (by omega), if_pos (by omega), if_pos (by omega), if_pos (by omega)]
    rw [List.take_of_length_le (by rw [List.length_drop]; omega)] at hn
    rw [cutL_seg _ hn, List.map_singleton, Int.toNat_natCast, Lib.extract_eq, List.take_of_length_le (by rw [List.length_drop]; omega)]
    rfl
  | succ d ih =>
    intro k i from_ acc hi hf hk ha hn
    obtain ⟨k, rfl⟩ : ∃ m, k = m + 1 := ⟨k - 1, by omega⟩
    have hlen : s.data.toList.length = s.size := (Lib.size_eq s).symm
    have hlt : i < s.data.toList.length := by omega
    simp only [Ct.syntagmref02_Cut.l0]
    rw [if_pos (by omega), if_pos (by omega), bt_eq s i hlt]
    have hw : wrap64 ((i : Int) + 1) = ((i + 1 : Nat) : Int) := by unfold wrap64; omega
    have hsplit : (s.data.toList.drop from_).take (i + 1 - from_) = (s.data.toList.drop from_).take (i - from_) ++ [s.data.toList[i]] := by
      rw [show i + 1 - from_ = (i - from_) + 1 by omega, List.take_succ_eq_append_getElem (by rw [List.length_drop]; omega)]
      congr 2
      rw [List.getElem_drop]
      congr 1; omega
    by_cases hb : s.data.toList[i] = 10
    · rw [if_pos (by rw [hb]; rfl), if_pos (by omega), if_pos (by omega), if_pos (by omega), if_pos (by omega), hw]
      rw [ih k (i + 1) (i + 1) _ (by omega) (Nat.le_refl _) (by omega) (by rw [List.length_append]; simp; omega) (by simp)]
      have hd : s.data.toList.drop from_ = (s.data.toList.drop from_).take (i - from_) ++ 10 :: s.data.toList.drop (i + 1) := by
        conv => lhs; rw [← List.take_append_drop (i - from_) (s.data.toList.drop from_)]
        rw [List.drop_drop, show from_ + (i - from_) = i by omega, List.drop_eq_getElem_cons hlt, hb]
      conv => rhs; rw [hd, cutL_sep, cutL_seg _ hn]
      rw [Int.toNat_natCast, Int.toNat_natCast, Lib.extract_eq, List.append_assoc]
      rfl
    · have hn10 : ¬ ((s.data.toList[i]).toNat : Int) = 10 := fun e => hb (UInt8.toNat_inj.1 (by have : (10 : UInt8).toNat = 10 := rfl; omega))
      rw [if_neg hn10, hw]
      refine ih k (i + 1) from_ acc (by omega) (by omega) (by omega) (by omega) ?_
      rw [hsplit]
      simp only [List.mem_append, List.mem_singleton, not_or]
      exact ⟨hn, Ne.symm hb⟩

/-- What the reference's Cut answers. -/
def RefCut (s : ByteArray) (w : World) (e : Ending) (w' : World) : Prop :=
  ∃ (A : Option Addr) (c : Nat), e = .returned (.slice A ((cutL s.data.toList).map mkB).length c) ∧ Kd.C Kd.string w' A ((cutL s.data.toList).map mkB).length ((cutL s.data.toList).map mkB) ∧ Below w.heap.size w w'
theorem refCut_calls (s : ByteArray) (w : World) (hs : s.size ≤ 300) : Calls Try.prog 10 #[.string s] w (RefCut s w) := by
  have hf : Ct.syntagmref02_Cut.f (s.size + 1) s = some ((cutL s.data.toList).map mkB) := by
    unfold Ct.syntagmref02_Cut.f
    have := cut_f s hs s.size (s.size + 1) 0 0 [] (by omega) (Nat.le_refl _) (by omega) (Nat.zero_le _) (by simp)
    rw [List.drop_zero, List.nil_append] at this
    exact this
  refine (Ct.syntagmref02_Cut.calls _ s _ w hf).mono ?_
  rintro e w' ⟨v, rfl, hR, hb⟩
  obtain ⟨A, c, rfl, _, hC⟩ := Kd.R_reads hR
  exact ⟨A, c, rfl, hC, hb⟩
end Go.Proofs.Ytpmgfkgomcpmdaa.Fl
