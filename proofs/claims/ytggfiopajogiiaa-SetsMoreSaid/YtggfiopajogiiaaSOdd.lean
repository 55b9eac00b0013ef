/- inst.in, Valid's closure, slices.IndexFunc and ContainsFunc at it. Conditions: the captured boxes hold two numbers. -/
import Derived.Test.YtggfiopajogiiaaPx0
import Derived.Test.YtggfiopajogiiaaSBase
import Derived.IntWalk
set_option linter.unusedVariables false
set_option linter.unusedSimpArgs false
namespace Go.Proofs.Ytggfiopajogiiaa.P
open Go.RowKit Go.Proofs.YtggfiopajogiiaaW.PrintWords Go.Proofs.YtggfiopajogiiaaW.PrintLast Go.Proofs.YtggfiopajogiiaaW.PrintMore

def inB (n m : Int) : Bool := decide (0 ≤ n) && decide (n < m)
def oddB (T S x : Int) : Bool := (decide (0 ≤ x) && !inB x T) || (decide (x < 0) && !inB (IntKind.i64.wrap (-1 - x)) S)

theorem in_calls (n m : Int) (w : World) : Calls Try.prog 35 #[.int .i64 n, .int .i64 m] w fun e w' => e = .returned (.bool (inB n m)) ∧ w' = w := by
  go_enter Try.func35, Try.ntmps35
  unfold inB
  by_cases h0 : 0 ≤ n
  · have hb : decide (0 ≤ n) = true := decide_eq_true h0
    go_wp2
    go_ret
    exact ⟨by simp [h0], rfl⟩
  · have hb : decide (0 ≤ n) = false := decide_eq_false h0
    have h0' : n < 0 := by omega
    go_wp2
    go_ret
    exact ⟨by simp [h0'], rfl⟩

theorem odd_calls (T S x : Int) (b1 b2 : Addr) (w : World) (h1 : w.cell? b1 = some (.int .i64 T)) (h2 : w.cell? b2 = some (.int .i64 S)) :
    Calls Try.prog 36 #[.int .i64 x, .pointer (some b1), .pointer (some b2)] w fun e w' => e = .returned (.bool (oddB T S x)) ∧ w' = w := by
  go_enter Try.func36, Try.ntmps36
  unfold oddB
  obtain ⟨y, hy⟩ : ∃ y, IntKind.i64.wrap (-1 - x) = y := ⟨_, rfl⟩
  obtain ⟨p, hp⟩ : ∃ p, inB x T = p := ⟨_, rfl⟩
  obtain ⟨q, hq⟩ : ∃ q, inB y S = q := ⟨_, rfl⟩
  have HP := Aside0.mk hp
  have HQ := Aside0.mk hq
  have HY := Aside0.mk hy
  clear hp hq
  by_cases h0 : 0 ≤ x
  · have hb : decide (0 ≤ x) = true := decide_eq_true h0
    have hn : decide (x < 0) = false := decide_eq_false (by omega)
    cases p
    · go_wp2_with (go_at_call 35; refine (in_calls _ _ _).mono ?_; rintro e w' ⟨rfl, rfl⟩; rw [HP.out])
      go_ret
      exact ⟨by rw [hb, HP.out]; simp, rfl⟩
    · go_wp2_with (go_at_call 35; refine (in_calls _ _ _).mono ?_; rintro e w' ⟨rfl, rfl⟩; rw [HP.out])
      go_ret
      exact ⟨by rw [hb, hn, HP.out]; simp, rfl⟩
  · have hb : decide (0 ≤ x) = false := decide_eq_false h0
    have hn : decide (x < 0) = true := decide_eq_true (by omega)
    cases q
    · go_wp2_with (go_at_call 35; refine (in_calls _ _ _).mono ?_; rintro e w' ⟨rfl, rfl⟩; rw [HQ.out])
      go_ret
      exact ⟨by rw [hb, hn, HY.out, HQ.out]; simp, rfl⟩
    · go_wp2_with (go_at_call 35; refine (in_calls _ _ _).mono ?_; rintro e w' ⟨rfl, rfl⟩; rw [HQ.out])
      go_ret
      exact ⟨by rw [hb, hn, HY.out, HQ.out]; simp, rfl⟩

/-- The first place of a row at which f is so; -1: none. -/
def firstOf (f : Int → Bool) : List Int → Int → Int
  | [], _ => -1
  | x :: l, i => if f x then i else firstOf f l (i + 1)
theorem firstOf_any (f : Int → Bool) : ∀ (l : List Int) (i : Int), 0 ≤ i → decide (0 ≤ firstOf f l i) = l.any f
  | [], _, _ => rfl
  | x :: l, i, hi => by
    unfold firstOf
    cases h : f x
    · rw [if_neg (by simp)]; simp [h, firstOf_any f l (i + 1) (by omega)]
    · rw [if_pos rfl]; simp [h, hi]
theorem firstOf_skip (f : Int → Bool) (l : List Int) (k : Nat) (hk : k < l.length) (h : f (l.getD k 0) = false) : firstOf f (l.drop k) k = firstOf f (l.drop (k + 1)) (k + 1 : Nat) := by
  rw [List.drop_eq_getElem_cons hk]
  conv => lhs; unfold firstOf
  rw [if_neg]
  · simp
  · simp [List.getD, hk] at h; simp [h]
theorem firstOf_here (f : Int → Bool) (l : List Int) (k : Nat) (hk : k < l.length) (h : f (l.getD k 0) = true) : firstOf f (l.drop k) k = k := by
  rw [List.drop_eq_getElem_cons hk]
  unfold firstOf
  rw [if_pos]
  simp [List.getD, hk] at h; exact h

set_option maxHeartbeats 1000000 in
theorem index_odd (T S : Int) (b1 b2 : Addr) (A : Option Addr) (c : Nat) (l : List Int) (w : World) (hr : Kd.C (Kd.int .i64) w A l.length l) (h1 : w.cell? b1 = some (.int .i64 T)) (h2 : w.cell? b2 = some (.int .i64 S)) :
    Calls Try.prog 53 #[.slice A l.length c, .func (.func 36) #[] #[.pointer (some b1), .pointer (some b2)]] w fun e w' => e = .returned (.int .i64 (firstOf (oddB T S) l 0)) ∧ w' = w := by
  have HR := Aside0.mk hr
  have H1 := Aside0.mk h1
  have H2 := Aside0.mk h2
  have hmx : l.length ≤ 9223372036854775807 := hr.2.1
  clear hr h1 h2
  go_enter Try.func53, Try.ntmps53
  go_wp2
  go_loopw [8] (fun v wr => ∃ k : Nat, v = .int .i64 k ∧ k ≤ l.length ∧ Aside0 (firstOf (oddB T S) l 0 = firstOf (oddB T S) (l.drop k) k) ∧ Aside0 (wr = w)) (fun v _ => l.length - (intOf v).toNat)
  case atStart => exact ⟨0, rfl, Nat.zero_le _, ⟨rfl⟩, ⟨rfl⟩⟩
  case round =>
    obtain ⟨k, rfl, hk, HT, ⟨rfl⟩⟩ := hrel
    by_cases hlt : k < l.length
    · have hltb : decide (k < l.length) = true := decide_eq_true (by omega)
      obtain ⟨ad, e1, hx1⟩ := Kd.at_int HR.out (k : Int) (by omega) (by omega)
      subst e1
      rw [Int.toNat_natCast] at hx1
      obtain ⟨o, ho⟩ : ∃ o, oddB T S (rd l (k : Int)) = o := ⟨_, rfl⟩
      have HO := Aside0.mk ho
      clear ho
      cases o
      · go_wp2_with (go_at_call 36; refine (odd_calls T S _ _ _ _ H1.out H2.out).mono ?_; rintro e w' ⟨rfl, rfl⟩; rw [HO.out])
        exact ⟨⟨k + 1, rfl, by omega, ⟨HT.out.trans (firstOf_skip _ _ k hlt (by have := HO.out; unfold rd at this; rwa [Int.toNat_natCast] at this))⟩, ⟨trivial⟩⟩, by simp [intOf]; omega⟩
      · go_wp2_with (go_at_call 36; refine (odd_calls T S _ _ _ _ H1.out H2.out).mono ?_; rintro e w' ⟨rfl, rfl⟩; rw [HO.out])
        go_ret
        exact ⟨by rw [HT.out, firstOf_here _ _ k hlt (by have := HO.out; unfold rd at this; rwa [Int.toNat_natCast] at this)]; rfl, rfl⟩
    · have hltb : decide (k < l.length) = false := decide_eq_false (by omega)
      have hkl : Aside0 (k = l.length) := ⟨by omega⟩
      go_wp2
      go_ret
      exact ⟨by rw [HT.out, hkl.out, List.drop_length]; rfl, rfl⟩

theorem contains_odd (T S : Int) (b1 b2 : Addr) (A : Option Addr) (c : Nat) (l : List Int) (w : World) (hr : Kd.C (Kd.int .i64) w A l.length l) (h1 : w.cell? b1 = some (.int .i64 T)) (h2 : w.cell? b2 = some (.int .i64 S)) :
    Calls Try.prog 37 #[.slice A l.length c, .func (.func 36) #[] #[.pointer (some b1), .pointer (some b2)]] w fun e w' => e = .returned (.bool (l.any (oddB T S))) ∧ w' = w := by
  have HR := Aside0.mk hr
  have H1 := Aside0.mk h1
  have H2 := Aside0.mk h2
  clear hr h1 h2
  go_enter Try.func37, Try.ntmps37
  obtain ⟨r, hf⟩ : ∃ r, firstOf (oddB T S) l 0 = r := ⟨_, rfl⟩
  have HF := Aside0.mk hf
  clear hf
  go_wp2_with (go_at_call 53; refine (index_odd T S _ _ _ _ _ _ HR.out H1.out H2.out).mono ?_; rintro e w' ⟨rfl, rfl⟩; rw [HF.out])
  go_ret
  exact ⟨by rw [← firstOf_any _ _ 0 (Int.le_refl 0), HF.out]; simp, rfl⟩

end Go.Proofs.Ytggfiopajogiiaa.P
