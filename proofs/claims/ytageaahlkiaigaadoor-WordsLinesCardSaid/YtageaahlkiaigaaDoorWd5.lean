/- Whether a byte is a mark; a number's value: walked. Conditions: each theorem's own. -/
import Derived.Test.YtageaahlkiaigaaDoorWd4
import Derived.Deep.QuietTactic
import Derived.BigQuiet
import Derived.Laws.Runes
import Derived.LoopN
import Derived.Deep.DeepCutAuto
import Derived.Deep.CutBlock
set_option linter.unusedVariables false
set_option linter.unusedSimpArgs false
namespace Go.Proofs.YtageaahlkiaigaaDoor.Wd
open Go Go.RowKit

def marks : ByteArray := ⟨#[61, 40, 41, 59, 44]⟩
theorem enc_two (r : Int) (h0 : 128 ≤ r) (h1 : r ≤ 255) : (Utf8.encode r).size = 2 := by
  have hv : Utf8.valid r = true := by rw [validRune_eq]; unfold validRune; exact decide_eq_true (.inl (by omega))
  unfold Utf8.encode
  rw [if_pos hv]
  simp only [show ¬ r.toNat < 128 by omega, if_false, show r.toNat < 2048 by omega, if_true]
  rfl

theorem quiet_sum {P : Program} {f : FuncId} {args : Array Value} {w : World} {m n : Nat} {v : Value}
    (h : Calls P f args (w.drewN (m + n)) fun e w' => e = .returned v ∧ w' = w.drewN (m + n)) : Calls P f args (w.drewN (m + n)) fun e w'' => e = .returned v ∧ ∃ k, w'' = w.drewN (m + k) :=
  h.mono fun _ _ ⟨he, hm⟩ => ⟨he, n, hm⟩
theorem indexByte_no (l : Bytes) (c : UInt8) (h : ∀ b ∈ l, b ≠ c) : Lib.indexByte l c = -1 := by
  induction l with
  | nil => rfl
  | cons b l ih =>
    unfold Lib.indexByte
    rw [ih fun x hx => h x (by simp [hx]), if_neg (by simpa using h b (by simp))]
    rfl
theorem index_hi (t : ByteArray) (c : UInt8) (hc : 128 ≤ c.toNat) (ht : ∀ b ∈ t.data.toList, b.toNat < 128) (w : World) : Calls Tryd.prog 40 #[.string t, .int .u8 (c.toNat : Int)] w fun e w' => e = .returned (.int .i64 (-1)) ∧ w' = w := by
  refine (Tryd.strings_IndexByte t (c.toNat : Int) w).mono ?_
  rintro e w' ⟨rfl, rfl⟩
  rw [indexByte_no _ _ fun b hb e => by
    have := ht b hb
    rw [e] at this
    simp at this
    omega]
  exact ⟨rfl, rfl⟩

set_option maxRecDepth 100000 in
set_option maxHeartbeats 8000000 in
theorem indexRune_hi (r : Int) (w : World) (h0 : 128 ≤ r) (h1 : r ≤ 255) : Calls Tryd.prog 34 #[.string ⟨#[61, 40, 41, 59, 44]⟩, .int .i32 r] w fun e w' => e = .returned (.int .i64 (-1)) ∧ ∃ n, w' = w.drewN n := by
  have hv : Utf8.valid r = true := by rw [validRune_eq]; unfold validRune; exact decide_eq_true (.inl (by omega))
  have hf := (encode_facts r hv h0).2.2
  have hn := enc_two r h0 h1
  obtain ⟨rs, hrs⟩ : ∃ rs, Utf8.encode r = rs := ⟨_, rfl⟩
  rw [hrs] at hf hn
  have hx : 128 ≤ (rs[1]'(by omega)).toNat := by
    have := hf (by omega)
    simpa [hn] using this
  have hne : ((r : Int) == 65533) = false := beq_eq_false_iff_ne.2 (by omega)
  clear hf hv
  have H0 := Lib.hid h0
  go_enter Tryd.func34, Tryd.ntmps34
  go_wp2
  go_step3
  go_wp2
  refine wp_loop_rounds 1 ?_
  rw [rounds_succ]
  have hib := Lib.hid (fun (t : ByteArray) (w : World) (ht : ∀ b ∈ t.data.toList, b.toNat < 128) => index_hi t (rs[1]'(by omega)) hx ht w)
  have hnb : (((((⟨#[61, 40, 41, 59, 44]⟩ : ByteArray)[1]'(by decide)).toNat : Nat) : Int) != ((rs[1]'(by omega)).toNat : Int)) = true := bne_iff_ne.2 (by
    have e : (((⟨#[61, 40, 41, 59, 44]⟩ : ByteArray)[1]'(by decide)).toNat : Nat) = 40 := rfl
    omega)
  go_wp2
  go_step3
  go_upto_region 6 with fail
  repeat (refine wp_seq ?_)
  go_quiet (fail)
  go_upto_region 7 with fail
  repeat (refine wp_seq ?_)
  go_quiet ((go_at_call 40; exact quiet_sum (hib.out _ _ (by decide))))
  go_wp2
  simp only [Exit.noGoto_ret, Exit.inBlock, Exit.then]
  go_ret
  exact ⟨rfl, _, rfl⟩

def markI (r : Int) : Bool := r == 61 || r == 40 || r == 41 || r == 59 || r == 44
theorem mark_byte (b : UInt8) : markI (b.toNat : Int) = markB b := by
  unfold markI markB
  rw [u8_eq, u8_eq, u8_eq, u8_eq, u8_eq]; rfl
theorem mark_ascii : ∀ n : Nat, n < 128 → decide (0 ≤ Lib.indexByte [61, 40, 41, 59, 44] (n.toUInt8)) = markI (n : Int) := by decide +kernel

set_option maxHeartbeats 1000000 in
theorem mark_calls (r : Int) (w : World) (h0 : 0 ≤ r) (h1 : r ≤ 255) : Calls Tryd.prog 29 #[.string ⟨#[61, 40, 41, 59, 44]⟩, .int .i32 r] w fun e w' => e = .returned (.bool (markI r)) ∧ ∃ n, w' = w.drewN n := by
  by_cases h : r < 128
  · refine (Tryd.strings_ContainsRune_ascii _ r w h0 h).mono ?_
    rintro e w' ⟨rfl, rfl⟩
    refine ⟨?_, 0, rfl⟩
    obtain ⟨n, rfl⟩ : ∃ n : Nat, r = n := ⟨r.toNat, by omega⟩
    have := mark_ascii n (by omega)
    rw [Int.toNat_natCast]
    exact ret_b this
  · have hm : markI r = false := by
      unfold markI
      rw [beq_eq_false_iff_ne.2 (show r ≠ 61 by omega), beq_eq_false_iff_ne.2 (show r ≠ 40 by omega), beq_eq_false_iff_ne.2 (show r ≠ 41 by omega), beq_eq_false_iff_ne.2 (show r ≠ 59 by omega), beq_eq_false_iff_ne.2 (show r ≠ 44 by omega)]; rfl
    have HM := Lib.hid hm
    clear hm
    have hx := Lib.hid (fun w => indexRune_hi r w (by omega) h1)
    go_enter Tryd.func29, Tryd.ntmps29
    go_wp2_with (go_at_call 34; ((with_reducible refine (hx.out _).mono ?_); rintro e w' ⟨rfl, n, rfl⟩))
    go_ret
    rw [HM.out]
    exact ⟨rfl, _, rfl⟩

/-- A digit row's value. -/
theorem atoi_val (l : Bytes) (h0 : l ≠ []) (h : ∀ x ∈ l, digitB x = true) : Lib.atoi l = some (valL l : Int) := by
  have hdec : ∀ (l : Bytes) (a : Nat), (∀ x ∈ l, digitB x = true) → Lib.decFrom a l = some (l.foldl (fun n c => n * 10 + (c.toNat - 48)) a) := by
    intro l
    induction l with
    | nil => intro a _; rfl
    | cons b l ih =>
      intro a hd
      have hb := hd b (by simp)
      unfold digitB at hb
      simp only [Bool.and_eq_true, decide_eq_true_eq, UInt8.le_iff_toNat_le] at hb
      have e1 : (48 : UInt8).toNat = 48 := rfl
      have e2 : (57 : UInt8).toNat = 57 := rfl
      rw [e1, e2] at hb
      unfold Lib.decFrom Lib.digitVal
      rw [if_pos hb]
      exact ih _ fun x hx => hd x (by simp [hx])
  cases l with
  | nil => exact absurd rfl h0
  | cons b l =>
    have hb := h b (by simp)
    have h45 : (b == 45) = false := beq_eq_false_iff_ne.2 fun e => by rw [e] at hb; exact absurd hb (by decide)
    have h43 : (b == 43) = false := beq_eq_false_iff_ne.2 fun e => by rw [e] at hb; exact absurd hb (by decide)
    simp only [Lib.atoi, h45, h43, Bool.false_eq_true, if_false]
    unfold Lib.decNat
    rw [if_neg (by simp), hdec _ 0 h]
    rfl
end Go.Proofs.YtageaahlkiaigaaDoor.Wd
