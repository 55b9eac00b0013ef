/- Whether a text is a name; a mark: walked. Conditions: each theorem's own. -/
import Derived.Test.YtageaahlkiaigaaDoorWd1
import Derived.Laws.Strings3
set_option linter.unusedVariables false
set_option linter.unusedSimpArgs false
namespace Go.Proofs.YtageaahlkiaigaaDoor.Wd
open Go Go.RowKit

/-- What 'IsName' answers. -/
def NameIs (s : ByteArray) (w : World) (e : Ending) (w' : World) : Prop := e = .returned (.bool (nameL s.data.toList)) ∧ Below w.heap.size w w'

theorem name_no {l : Bytes} (j : Nat) (hj : j < l.length) (h : innerB l[j] = false) : nameL l = false := by
  unfold nameL
  have : l.all innerB = false := by
    cases ha : l.all innerB
    · rfl
    · have := List.all_eq_true.1 ha l[j] (List.getElem_mem hj)
      rw [h] at this; cases this
  rw [this]; simp
theorem name_dig {l : Bytes} (hj : 0 < l.length) (h : digitB l[0] = true) : nameL l = false := by
  unfold nameL
  cases l with
  | nil => simp at hj
  | cons a l => simp at h; simp [h]
theorem name_end {l : Bytes} (h : ∀ j (hj : j < l.length), innerB l[j] = true) (h0 : ∀ h : 0 < l.length, digitB l[0] = false) : nameL l = (!l.isEmpty && decide (l.length ≤ 32)) := by
  unfold nameL
  have : l.all innerB = true := List.all_eq_true.2 fun x hx => by
    obtain ⟨j, hj, rfl⟩ := List.mem_iff_getElem.1 hx
    exact h j hj
  rw [this]
  cases l with
  | nil => rfl
  | cons a l =>
    have := h0 (by simp)
    simp at this
    simp [this]

theorem byte_eq (s : ByteArray) (j : Nat) (hj : j < s.size) : s.data.toList[j]'(by rw [← Lib.size_eq]; exact hj) = s[j]'hj := by simp; rfl

set_option maxHeartbeats 4000000 in
theorem isName_calls (s : ByteArray) (w : World) (hs : s.size ≤ 9223372036854775807) : Calls Tryd.prog 13 #[.string s] w (NameIs s w) := by
  have hlen : s.size = s.data.toList.length := Lib.size_eq s
  go_enter Tryd.func13, Tryd.ntmps13
  go_wp2
  go_loopw [3] (fun _ wr => ∃ pos : Nat, wr = w.alloc (.stringIter s pos) ∧ Hid (pos ≤ s.size ∧ (∀ j (hj : j < s.size), j < pos → innerB (s[j]'hj) = true) ∧ (0 < pos → ∀ h : 0 < s.size, digitB (s[0]'h) = false))) (fun _ wr => s.size - wr.iterPos w.heap.size)
  case atStart => exact ⟨0, rfl, ⟨Nat.zero_le _, fun j hj h => absurd h (Nat.not_lt_zero _), fun h => absurd h (Nat.lt_irrefl 0)⟩⟩
  case round =>
    obtain ⟨pos, rfl, HS⟩ := hrel
    by_cases hp : pos < s.size
    · have hnx := fun ty => next_run w s pos ty hp
      obtain ⟨hf, hg⟩ := rune_step goes_inner s pos hp
      have hd := (rune_step goes_digit s pos hp).1
      have HG := Lib.hid hg
      have HF := Lib.hid hf
      have HD := Lib.hid hd
      have HL := Lib.hid hlen
      clear hf hg hd hlen
      cases hb : innerB (s[pos]'hp)
      · have hr : innI (Utf8.decode s pos).1 = false := by rw [HF.out, hb]
        have HE := Lib.hid (name_no (l := s.data.toList) pos (by rw [← Lib.size_eq]; exact hp) (by rw [byte_eq s pos hp]; exact hb))
        clear hb
        go_wp2_with (go_at_call 19; refine (inner_calls _ _).mono ?_; rintro e w' ⟨rfl, rfl⟩)
        go_ret
        exact ⟨by rw [HE.out]; rfl, (Below.refl _ _).alloc (Nat.le_refl _) _⟩
      · have hr : innI (Utf8.decode s pos).1 = true := by rw [HF.out, hb]
        obtain ⟨g1, g2, g3⟩ := HG.out hb
        have HG2 := Lib.hid (And.intro g2 g3)
        have HB := Lib.hid hb
        clear hb g3
        by_cases h0 : pos = 0
        · subst h0
          cases hdg : digitB (s[0]'hp)
          · have hr2 : digI (Utf8.decode s 0).1 = false := by rw [HD.out, hdg]
            have HDG := Lib.hid hdg
            clear hdg
            go_wp2_with (first | (go_at_call 19; refine (inner_calls _ _).mono ?_; rintro e w' ⟨rfl, rfl⟩) | (go_at_call 20; refine (digit_calls _ _).mono ?_; rintro e w' ⟨rfl, rfl⟩))
            go_roundw
            case rel =>
              exact ⟨_, rfl, by have := HG2.out.1; omega, fun j hj hlt => HG2.out.2 j hj (Nat.zero_le _) (by omega), fun _ _ => HDG.out⟩
            case measure =>
              rw [iter_at, iter_at]
              omega
          · have hr2 : digI (Utf8.decode s 0).1 = true := by rw [HD.out, hdg]
            have HE := Lib.hid (name_dig (l := s.data.toList) (by rw [← Lib.size_eq]; exact hp) (by rw [byte_eq s 0 hp]; exact hdg))
            clear hdg
            go_wp2_with (first | (go_at_call 19; refine (inner_calls _ _).mono ?_; rintro e w' ⟨rfl, rfl⟩) | (go_at_call 20; refine (digit_calls _ _).mono ?_; rintro e w' ⟨rfl, rfl⟩))
            go_ret
            exact ⟨by rw [HE.out]; rfl, (Below.refl _ _).alloc (Nat.le_refl _) _⟩
        · have h0b : ((pos : Int) == 0) = false := beq_eq_false_iff_ne.2 (by omega)
          go_wp2_with (first | (go_at_call 19; refine (inner_calls _ _).mono ?_; rintro e w' ⟨rfl, rfl⟩) | (go_at_call 20; refine (digit_calls _ _).mono ?_; rintro e w' ⟨rfl, rfl⟩))
          go_roundw
          case rel =>
            refine ⟨_, rfl, HG2.out.1, fun j hj hlt => ?_, fun _ h => HS.out.2.2 (by omega) h⟩
            rcases Nat.lt_or_ge j pos with h | h
            · exact HS.out.2.1 j hj h
            · exact HG2.out.2 j hj h hlt
          case measure =>
            rw [iter_at, iter_at]
            omega
    · have hnx := fun ty => next_end w s pos ty hp
      have he : pos = s.size := by have := HS.out.1; omega
      have HE := Lib.hid (name_end (l := s.data.toList) (fun j hj => by
        rw [← Lib.size_eq] at hj
        rw [byte_eq s j hj]; exact HS.out.2.1 j hj (by omega)) (fun h => by
        rw [← Lib.size_eq] at h
        rw [byte_eq s 0 h]; exact HS.out.2.2 (by omega) h))
      subst he
      have hem : s.data.toList.isEmpty = decide (s.size = 0) := by
        rw [hlen]; cases s.data.toList <;> simp
      rw [hem, ← hlen] at HE
      clear hlen hem
      by_cases h0 : s.size = 0
      · have hs0 : s = ⟨#[]⟩ := by
          have := Lib.size_eq s
          rw [← Lib.mk_data s, List.eq_nil_of_length_eq_zero (l := s.data.toList) (by omega)]
        have hfin : nameL s.data.toList = false := by rw [HE.out, h0]; rfl
        have HF := Lib.hid hfin
        have hl1 : s.toList = [] := by rw [Lib.toList_data, hs0]
        have hl2 : (!s.toList.isEmpty) = false := by rw [hl1]; rfl
        clear hs0 hfin HE h0
        go_wp2
        go_ret
        exact ⟨by rw [HF.out]; rfl, (Below.refl _ _).alloc (Nat.le_refl _) _⟩
      · have hl2 : (!s.toList.isEmpty) = true := by
          rw [Lib.toList_data]
          have := Lib.size_eq s
          cases hd : s.data.toList with
          | nil => rw [hd] at this; exact absurd this h0
          | cons a l => rfl
        by_cases h32 : (s.size : Int) ≤ 32
        · have HF := Lib.hid (show nameL s.data.toList = true by rw [HE.out, decide_eq_false h0, decide_eq_true (show s.size ≤ 32 by omega)]; rfl)
          clear HE h0
          go_wp2
          go_ret
          exact ⟨by rw [HF.out]; rfl, (Below.refl _ _).alloc (Nat.le_refl _) _⟩
        · have HF := Lib.hid (show nameL s.data.toList = false by rw [HE.out, decide_eq_false (show ¬ s.size ≤ 32 by omega)]; simp)
          clear HE h0
          go_wp2
          go_ret
          exact ⟨by rw [HF.out]; rfl, (Below.refl _ _).alloc (Nat.le_refl _) _⟩
end Go.Proofs.YtageaahlkiaigaaDoor.Wd
