/- Letters, digits, how long runes go on, names: walked. Conditions: each theorem's own. -/
import Derived.Test.YtageaahlkiaigaaDoorBd
import Derived.Test.YtageaahlkiaigaaDoorWdP
import Derived.WalkKit
import Derived.Lib.Walk
import Derived.Lib.Hide
import Derived.Lib.Strings
import Derived.BigCall
import Derived.BigGuard
import Derived.BigGuardPart
import Derived.Outline
import Derived.LoopTactic
import Derived.Laws.RangeAny
import Derived.Below
set_option linter.unusedVariables false
set_option linter.unusedSimpArgs false
namespace Go.Proofs.YtageaahlkiaigaaDoor.Wd
open Go Go.RowKit

theorem get!_at (s : ByteArray) (j : Nat) (h : j < s.size) : s.get! j = s[j]'h := by
  have := Go.get_at s j h
  rwa [Nat.add_zero] at this
theorem dec_hi (s : ByteArray) (pos : Nat) (h : pos < s.size) (hb : 128 ≤ (s[pos]'h).toNat) : pos + (Utf8.decode s pos).2 ≤ s.size ∧ ∀ j, pos ≤ j → j < pos + (Utf8.decode s pos).2 → 128 ≤ (s.get! j).toNat := by
  have h0 : 128 ≤ (s.get! pos).toNat := by rw [get!_at s pos h]; exact hb
  have one : ∀ j, pos ≤ j → j < pos + 1 → 128 ≤ (s.get! j).toNat := fun j h1 h2 => by
    have : j = pos := by omega
    rw [this]; exact h0
  simp only [Utf8.decode, Go.get_at s pos h, show ¬ (s[pos]'h).toNat < 128 by omega, if_false]
  repeat' split
  all_goals first
    | exact ⟨by omega, one⟩
    | skip
  · rename_i h1 _
    simp at h1
    refine ⟨by simp only; omega, fun j h2 h3 => ?_⟩
    simp only at h3
    rcases (by omega : j = pos ∨ j = pos + 1) with rfl | rfl
    · exact h0
    · have := h1.2.2; omega
  · rename_i h1 _
    simp at h1
    refine ⟨by simp only; omega, fun j h2 h3 => ?_⟩
    simp only at h3
    rcases (by omega : j = pos ∨ j = pos + 1 ∨ j = pos + 2) with rfl | rfl | rfl
    · exact h0
    · have := h1.1.2.2; omega
    · have := h1.2.2; omega
  · rename_i h1 _
    simp at h1
    refine ⟨by simp only; omega, fun j h2 h3 => ?_⟩
    simp only at h3
    rcases (by omega : j = pos ∨ j = pos + 1 ∨ j = pos + 2 ∨ j = pos + 3) with rfl | rfl | rfl | rfl
    · exact h0
    · have := h1.1.1.2.2; omega
    · have := h1.1.2.2; omega
    · have := h1.2.2; omega

/-- On runes. -/
def letI_ (r : Int) : Bool := (decide (97 ≤ r) && decide (r ≤ 122)) || (decide (65 ≤ r) && decide (r ≤ 90)) || r == 95
def digI (r : Int) : Bool := decide (48 ≤ r) && decide (r ≤ 57)
def innI (r : Int) : Bool := letI_ r || digI r
def rstI (r : Int) : Bool := r != 10

theorem u8_le (a b : UInt8) : decide (a ≤ b) = decide ((a.toNat : Int) ≤ (b.toNat : Int)) := by
  rw [Bool.eq_iff_iff]; simp [UInt8.le_iff_toNat_le]
theorem u8_eq (a b : UInt8) : (a == b) = ((a.toNat : Int) == (b.toNat : Int)) := by
  rw [Bool.eq_iff_iff]; simp only [beq_iff_eq, ← UInt8.toNat_inj]; omega
theorem let_byte (b : UInt8) : letI_ (b.toNat : Int) = letterB b := by
  unfold letI_ letterB
  rw [u8_le, u8_le, u8_le, u8_le, u8_eq]; rfl
theorem dig_byte (b : UInt8) : digI (b.toNat : Int) = digitB b := by
  unfold digI digitB
  rw [u8_le, u8_le]; rfl
theorem inn_byte (b : UInt8) : innI (b.toNat : Int) = innerB b := by
  unfold innI innerB; rw [let_byte, dig_byte]
theorem rst_byte (b : UInt8) : rstI (b.toNat : Int) = restB b := by
  unfold rstI restB bne; rw [u8_eq]; rfl
theorem hi_no (r : Int) (h : 128 ≤ r) : letI_ r = false ∧ digI r = false ∧ innI r = false ∧ rstI r = true := by
  have h1 : letI_ r = false := by
    unfold letI_
    rw [decide_eq_false (show ¬ r ≤ 122 by omega), decide_eq_false (show ¬ r ≤ 90 by omega), beq_eq_false_iff_ne.2 (show r ≠ 95 by omega)]; simp
  have h2 : digI r = false := by unfold digI; rw [decide_eq_false (show ¬ r ≤ 57 by omega)]; simp
  exact ⟨h1, h2, by unfold innI; rw [h1, h2]; rfl, by unfold rstI; exact bne_iff_ne.2 (by omega)⟩

theorem ret_b {a b : Bool} (h : a = b) : Ending.returned (.bool a) = .returned (.bool b) := by rw [h]

set_option maxHeartbeats 1000000 in
theorem letter_calls (r : Int) (w : World) : Calls Tryd.prog 24 #[.int .i32 r] w fun e w' => e = .returned (.bool (letI_ r)) ∧ w' = w := by
  by_cases h1 : 97 ≤ r <;> by_cases h2 : r ≤ 122 <;> by_cases h3 : 65 ≤ r <;> by_cases h4 : r ≤ 90 <;> first
    | (exfalso; omega)
    | (go_enter Tryd.func24, Tryd.ntmps24
       go_wp2
       go_ret
       exact ⟨ret_b (by first | (simp [letI_, *]; done) | (simp [letI_, *]; omega)), rfl⟩)

set_option maxHeartbeats 1000000 in
theorem digit_calls (r : Int) (w : World) : Calls Tryd.prog 20 #[.int .i32 r] w fun e w' => e = .returned (.bool (digI r)) ∧ w' = w := by
  by_cases h1 : 48 ≤ r <;> by_cases h2 : r ≤ 57 <;> first
    | (exfalso; omega)
    | (go_enter Tryd.func20, Tryd.ntmps20
       go_wp2
       go_ret
       exact ⟨ret_b (by first | (simp [digI, *]; done) | (simp [digI, *]; omega)), rfl⟩)

set_option maxHeartbeats 1000000 in
theorem inner_calls (r : Int) (w : World) : Calls Tryd.prog 19 #[.int .i32 r] w fun e w' => e = .returned (.bool (innI r)) ∧ w' = w := by
  cases h1 : letI_ r <;> cases h2 : digI r
  all_goals
    have E := Lib.hid (show innI r = _ by unfold innI; rw [h1, h2])
    go_enter Tryd.func19, Tryd.ntmps19
    go_wp2_with (first | (go_at_call 24; refine (letter_calls _ _).mono ?_; rintro e w' ⟨rfl, rfl⟩) | (go_at_call 20; refine (digit_calls _ _).mono ?_; rintro e w' ⟨rfl, rfl⟩))
    go_ret
    rw [E.out]
    exact ⟨rfl, rfl⟩

set_option maxHeartbeats 1000000 in
theorem rest_calls (r : Int) (w : World) : Calls Tryd.prog 26 #[.int .i32 r] w fun e w' => e = .returned (.bool (rstI r)) ∧ w' = w := by
  go_enter Tryd.func26, Tryd.ntmps26
  go_wp2
  go_ret
  exact ⟨rfl, rfl⟩

theorem tw_is (p : UInt8 → Bool) (l : Bytes) (n : Nat) (h1 : n ≤ l.length) (h2 : ∀ j (hj : j < n), p (l[j]'(by omega)) = true) (h3 : ∀ h : n < l.length, p (l[n]'h) = false) : (l.takeWhile p).length = n := by
  have hs : l = l.take n ++ l.drop n := (List.take_append_drop n l).symm
  rw [hs, tw_app_all p _ _ fun x hx => by
    obtain ⟨j, hj, rfl⟩ := List.mem_iff_getElem.1 hx
    rw [List.length_take] at hj
    rw [List.getElem_take]
    exact h2 j (by omega), List.length_append, List.length_take]
  have : (l.drop n).takeWhile p = [] := by
    cases hd : l.drop n with
    | nil => rfl
    | cons x r =>
      have hlt : n < l.length := by
        have := congrArg List.length hd
        rw [List.length_drop, List.length_cons] at this; omega
      rw [List.drop_eq_getElem_cons hlt] at hd
      injection hd with hx _
      rw [List.takeWhile_cons, ← hx, h3 hlt]; rfl
  rw [this]; simp; omega

/-- One step of a range over a text. -/
theorem next_run (w : World) (s : ByteArray) (pos : Nat) (ty : TypeId) (h : pos < s.size) : (Instr.next (.pointer (some ⟨w.heap.size, 0, none⟩)) true ty).run Tryd.prog (w.alloc (.stringIter s pos)) =
    .ok (.tuple #[.bool true, .int .i64 pos, .int .i32 (Utf8.decode s pos).1]) (w.alloc (.stringIter s (pos + (Utf8.decode s pos).2))) := run_next_any w s pos ty h
theorem next_end (w : World) (s : ByteArray) (pos : Nat) (ty : TypeId) (h : ¬ pos < s.size) : (Instr.next (.pointer (some ⟨w.heap.size, 0, none⟩)) true ty).run Tryd.prog (w.alloc (.stringIter s pos)) =
    .ok (.tuple #[.bool false]) (w.alloc (.stringIter s pos)) := run_next_end w s pos ty h
theorem iter_at (w : World) (s : ByteArray) (p : Nat) : (w.alloc (.stringIter s p)).iterPos w.heap.size = p := World.iterPos_iter w s p

/-- How a predicate on runes reads on bytes. -/
structure Goes (f : Int → Bool) (p : UInt8 → Bool) (hi : Bool) : Prop where
  byte : ∀ b : UInt8, f (b.toNat : Int) = p b
  high : ∀ r : Int, 128 ≤ r → f r = hi
  same : ∀ b : UInt8, 128 ≤ b.toNat → p b = hi

theorem goes_inner : Goes innI innerB false := ⟨inn_byte, fun r h => (hi_no r h).2.2.1, fun b h => by rw [← inn_byte]; exact (hi_no _ (by omega)).2.2.1⟩
theorem goes_digit : Goes digI digitB false := ⟨dig_byte, fun r h => (hi_no r h).2.1, fun b h => by rw [← dig_byte]; exact (hi_no _ (by omega)).2.1⟩
theorem goes_rest : Goes rstI restB true := ⟨rst_byte, fun r h => (hi_no r h).2.2.2, fun b h => by rw [← rst_byte]; exact (hi_no _ (by omega)).2.2.2⟩

/-- One rune on: it goes on, and all that it covers does; or it stops here. -/
theorem rune_step {f : Int → Bool} {p : UInt8 → Bool} {hi : Bool} (g : Goes f p hi) (s : ByteArray) (pos : Nat) (h : pos < s.size) :
    f (Utf8.decode s pos).1 = p (s[pos]'h) ∧ (p (s[pos]'h) = true → 1 ≤ (Utf8.decode s pos).2 ∧ pos + (Utf8.decode s pos).2 ≤ s.size ∧ ∀ j (hj : j < s.size), pos ≤ j → j < pos + (Utf8.decode s pos).2 → p (s[j]'hj) = true) := by
  by_cases ha : (s[pos]'h).toNat < 128
  · rw [decode_ascii s pos h ha]
    refine ⟨g.byte _, fun hp => ⟨Nat.le_refl _, by simp only; omega, fun j hj h1 h2 => ?_⟩⟩
    simp only at h2
    have : j = pos := by omega
    subst this; exact hp
  · have h1 := dec_hi s pos h (by omega)
    have h2 := decode_high s pos h (by omega)
    refine ⟨by rw [g.high _ (by omega), g.same _ (by omega)], fun hp => ⟨h2.2, h1.1, fun j hj h3 h4 => ?_⟩⟩
    rw [g.same _ (by rw [← get!_at s j hj]; exact h1.2 j h3 h4)]
    rw [g.same _ (by omega)] at hp
    exact hp

/-- What 'run' answers. -/
def RunIs (p : UInt8 → Bool) (s : ByteArray) (w : World) (e : Ending) (w' : World) : Prop := e = .returned (.int .i64 ((s.data.toList.takeWhile p).length : Nat)) ∧ Below w.heap.size w w'

theorem run_done {p : UInt8 → Bool} {s : ByteArray} {pos : Nat} (h1 : pos ≤ s.size) (h2 : ∀ j (hj : j < s.size), j < pos → p (s[j]'hj) = true) (h3 : ∀ h : pos < s.size, p (s[pos]'h) = false) : ((s.data.toList.takeWhile p).length : Nat) = pos :=
  tw_is p _ pos (by rw [← Lib.size_eq]; exact h1) (fun j hj => h2 j (by omega) hj) (fun h => h3 (by rw [Lib.size_eq]; exact h))

set_option maxHeartbeats 4000000 in
theorem run_inner (s : ByteArray) (w : World) (hs : s.size ≤ 9223372036854775807) : Calls Tryd.prog 25 #[.string s, .func (.func 19) #[] #[]] w (RunIs innerB s w) := by
  go_enter Tryd.func25, Tryd.ntmps25
  go_wp2
  go_loopw [5] (fun _ wr => ∃ pos : Nat, wr = w.alloc (.stringIter s pos) ∧ Hid (pos ≤ s.size ∧ ∀ j (hj : j < s.size), j < pos → innerB (s[j]'hj) = true)) (fun _ wr => s.size - wr.iterPos w.heap.size)
  case atStart => exact ⟨0, rfl, ⟨Nat.zero_le _, fun j hj h => absurd h (Nat.not_lt_zero _)⟩⟩
  case round =>
    obtain ⟨pos, rfl, HS⟩ := hrel
    by_cases hp : pos < s.size
    · have hnx := fun ty => next_run w s pos ty hp
      obtain ⟨hf, hg⟩ := rune_step goes_inner s pos hp
      have HG := Lib.hid hg
      have HF := Lib.hid hf
      clear hf hg
      cases hb : innerB (s[pos]'hp)
      · have hr : innI (Utf8.decode s pos).1 = false := by rw [HF.out, hb]
        have HE := Lib.hid (run_done HS.out.1 HS.out.2 (fun _ => hb))
        clear hb
        go_wp2_with (go_at_call 19; refine (inner_calls _ _).mono ?_; rintro e w' ⟨rfl, rfl⟩)
        go_ret
        exact ⟨by rw [HE.out]; rfl, (Below.refl _ _).alloc (Nat.le_refl _) _⟩
      · have hr : innI (Utf8.decode s pos).1 = true := by rw [HF.out, hb]
        obtain ⟨g1, g2, g3⟩ := HG.out hb
        have HG2 := Lib.hid (And.intro g2 g3)
        have HB := Lib.hid hb
        clear hb g3
        go_wp2_with (go_at_call 19; refine (inner_calls _ _).mono ?_; rintro e w' ⟨rfl, rfl⟩)
        go_roundw
        case rel =>
          refine ⟨_, rfl, HG2.out.1, fun j hj hlt => ?_⟩
          rcases Nat.lt_or_ge j pos with h | h
          · exact HS.out.2 j hj h
          · exact HG2.out.2 j hj h hlt
        case measure =>
          rw [iter_at, iter_at]
          omega
    · have hnx := fun ty => next_end w s pos ty hp
      have HE := Lib.hid (run_done HS.out.1 HS.out.2 (fun h => absurd h hp))
      have he : pos = s.size := by have := HS.out.1; omega
      subst he
      go_wp2
      go_ret
      exact ⟨by rw [HE.out]; rfl, (Below.refl _ _).alloc (Nat.le_refl _) _⟩

set_option maxHeartbeats 4000000 in
theorem run_digit (s : ByteArray) (w : World) (hs : s.size ≤ 9223372036854775807) : Calls Tryd.prog 25 #[.string s, .func (.func 20) #[] #[]] w (RunIs digitB s w) := by
  go_enter Tryd.func25, Tryd.ntmps25
  go_wp2
  go_loopw [5] (fun _ wr => ∃ pos : Nat, wr = w.alloc (.stringIter s pos) ∧ Hid (pos ≤ s.size ∧ ∀ j (hj : j < s.size), j < pos → digitB (s[j]'hj) = true)) (fun _ wr => s.size - wr.iterPos w.heap.size)
  case atStart => exact ⟨0, rfl, ⟨Nat.zero_le _, fun j hj h => absurd h (Nat.not_lt_zero _)⟩⟩
  case round =>
    obtain ⟨pos, rfl, HS⟩ := hrel
    by_cases hp : pos < s.size
    · have hnx := fun ty => next_run w s pos ty hp
      obtain ⟨hf, hg⟩ := rune_step goes_digit s pos hp
      have HG := Lib.hid hg
      have HF := Lib.hid hf
      clear hf hg
      cases hb : digitB (s[pos]'hp)
      · have hr : digI (Utf8.decode s pos).1 = false := by rw [HF.out, hb]
        have HE := Lib.hid (run_done HS.out.1 HS.out.2 (fun _ => hb))
        clear hb
        go_wp2_with (go_at_call 20; refine (digit_calls _ _).mono ?_; rintro e w' ⟨rfl, rfl⟩)
        go_ret
        exact ⟨by rw [HE.out]; rfl, (Below.refl _ _).alloc (Nat.le_refl _) _⟩
      · have hr : digI (Utf8.decode s pos).1 = true := by rw [HF.out, hb]
        obtain ⟨g1, g2, g3⟩ := HG.out hb
        have HG2 := Lib.hid (And.intro g2 g3)
        have HB := Lib.hid hb
        clear hb g3
        go_wp2_with (go_at_call 20; refine (digit_calls _ _).mono ?_; rintro e w' ⟨rfl, rfl⟩)
        go_roundw
        case rel =>
          refine ⟨_, rfl, HG2.out.1, fun j hj hlt => ?_⟩
          rcases Nat.lt_or_ge j pos with h | h
          · exact HS.out.2 j hj h
          · exact HG2.out.2 j hj h hlt
        case measure =>
          rw [iter_at, iter_at]
          omega
    · have hnx := fun ty => next_end w s pos ty hp
      have HE := Lib.hid (run_done HS.out.1 HS.out.2 (fun h => absurd h hp))
      have he : pos = s.size := by have := HS.out.1; omega
      subst he
      go_wp2
      go_ret
      exact ⟨by rw [HE.out]; rfl, (Below.refl _ _).alloc (Nat.le_refl _) _⟩

set_option maxHeartbeats 4000000 in
theorem run_rest (s : ByteArray) (w : World) (hs : s.size ≤ 9223372036854775807) : Calls Tryd.prog 25 #[.string s, .func (.func 26) #[] #[]] w (RunIs restB s w) := by
  go_enter Tryd.func25, Tryd.ntmps25
  go_wp2
  go_loopw [5] (fun _ wr => ∃ pos : Nat, wr = w.alloc (.stringIter s pos) ∧ Hid (pos ≤ s.size ∧ ∀ j (hj : j < s.size), j < pos → restB (s[j]'hj) = true)) (fun _ wr => s.size - wr.iterPos w.heap.size)
  case atStart => exact ⟨0, rfl, ⟨Nat.zero_le _, fun j hj h => absurd h (Nat.not_lt_zero _)⟩⟩
  case round =>
    obtain ⟨pos, rfl, HS⟩ := hrel
    by_cases hp : pos < s.size
    · have hnx := fun ty => next_run w s pos ty hp
      obtain ⟨hf, hg⟩ := rune_step goes_rest s pos hp
      have HG := Lib.hid hg
      have HF := Lib.hid hf
      clear hf hg
      cases hb : restB (s[pos]'hp)
      · have hr : rstI (Utf8.decode s pos).1 = false := by rw [HF.out, hb]
        have HE := Lib.hid (run_done HS.out.1 HS.out.2 (fun _ => hb))
        clear hb
        go_wp2_with (go_at_call 26; refine (rest_calls _ _).mono ?_; rintro e w' ⟨rfl, rfl⟩)
        go_ret
        exact ⟨by rw [HE.out]; rfl, (Below.refl _ _).alloc (Nat.le_refl _) _⟩
      · have hr : rstI (Utf8.decode s pos).1 = true := by rw [HF.out, hb]
        obtain ⟨g1, g2, g3⟩ := HG.out hb
        have HG2 := Lib.hid (And.intro g2 g3)
        have HB := Lib.hid hb
        clear hb g3
        go_wp2_with (go_at_call 26; refine (rest_calls _ _).mono ?_; rintro e w' ⟨rfl, rfl⟩)
        go_roundw
        case rel =>
          refine ⟨_, rfl, HG2.out.1, fun j hj hlt => ?_⟩
          rcases Nat.lt_or_ge j pos with h | h
          · exact HS.out.2 j hj h
          · exact HG2.out.2 j hj h hlt
        case measure =>
          rw [iter_at, iter_at]
          omega
    · have hnx := fun ty => next_end w s pos ty hp
      have HE := Lib.hid (run_done HS.out.1 HS.out.2 (fun h => absurd h hp))
      have he : pos = s.size := by have := HS.out.1; omega
      subst he
      go_wp2
      go_ret
      exact ⟨by rw [HE.out]; rfl, (Below.refl _ _).alloc (Nat.le_refl _) _⟩

end Go.Proofs.YtageaahlkiaigaaDoor.Wd
