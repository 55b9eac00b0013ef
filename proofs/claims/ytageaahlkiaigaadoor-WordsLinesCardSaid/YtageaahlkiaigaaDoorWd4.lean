/- A text as a word: walked. Conditions: each theorem's own. -/
import Derived.Test.YtageaahlkiaigaaDoorWd3
set_option linter.unusedVariables false
set_option linter.unusedSimpArgs false
namespace Go.Proofs.YtageaahlkiaigaaDoor.Wd
open Go Go.RowKit

theorem qt_feed (r : Bytes) : qt (10 :: r) = none := by
  cases r with
  | nil => rw [qt_one, if_pos (.inl rfl)]
  | cons d r => rw [qt_two, if_pos rfl]
theorem qt_slash (r : Bytes) : qt (47 :: r) = (qt r).map fun x => [92, 47] ++ x := by
  cases r with
  | nil => rfl
  | cons d r => rw [qt_two, if_neg (by decide), if_pos rfl]; rfl
theorem qt_last : qt [92] = none := rfl
theorem qt_bad (d : UInt8) (r : Bytes) (h : d = 47 ∨ d = 10) : qt (92 :: d :: r) = none := by rw [qt_two, if_neg (by decide), if_neg (by decide), if_pos rfl, if_pos h]
theorem qt_esc (d : UInt8) (r : Bytes) (h : ¬ (d = 47 ∨ d = 10)) : qt (92 :: d :: r) = (qt r).map fun x => [92, d] ++ x := by rw [qt_two, if_neg (by decide), if_neg (by decide), if_pos rfl, if_neg h]; rfl
theorem qt_plain (c : UInt8) (r : Bytes) (h10 : c ≠ 10) (h47 : c ≠ 47) (h92 : c ≠ 92) : qt (c :: r) = (qt r).map fun x => [c] ++ x := by
  cases r with
  | nil => rw [qt_one, if_neg (fun h => h.elim h10 h92), if_neg h47]; rfl
  | cons d r => rw [qt_two, if_neg h10, if_neg h47, if_neg h92]; rfl

theorem mkB_snoc (pre : Bytes) : mkB (47 :: (pre ++ [47])) = (⟨(47 :: pre).toArray⟩ : ByteArray) ++ ⟨#[47]⟩ := by
  apply ByteArray.ext
  rw [ByteArray.data_append]
  simp [mkB]

/-- What 'Quote' answers. -/
def QuoteIs (s : ByteArray) (w : World) (e : Ending) (w' : World) : Prop :=
  (match qt s.data.toList with
    | some q => e = .returned (.tuple #[.string (mkB (47 :: (q ++ [47]))), .bool true])
    | none => e = .returned (.tuple #[.string ⟨#[]⟩, .bool false])) ∧ Below w.heap.size w w'

structure QAt (s : ByteArray) (w : World) (i : Nat) (pre : Bytes) (wr : World) : Prop where
  bs : BS w.heap.size w (47 :: pre) wr
  len : pre.length ≤ 2 * i
  is : qt s.data.toList = (qt (s.data.toList.drop i)).map fun x => pre ++ x
theorem QAt.next {s : ByteArray} {w : World} {i : Nat} {pre : Bytes} {wr wr' : World} (h : QAt s w i pre wr) (t : Bytes) (m : Nat) (hr : qt (s.data.toList.drop i) = (qt (s.data.toList.drop (i + m))).map fun x => t ++ x) (hm : t.length ≤ 2 * m)
    (hb : BS w.heap.size w (47 :: (pre ++ t)) wr') : QAt s w (i + m) (pre ++ t) wr' := by
  refine ⟨hb, by rw [List.length_append]; have := h.len; omega, ?_⟩
  rw [h.is, hr]
  cases qt (s.data.toList.drop (i + m)) with
  | none => rfl
  | some x => simp
theorem QAt.no {s : ByteArray} {w : World} {i : Nat} {pre : Bytes} {wr : World} (h : QAt s w i pre wr) (hr : qt (s.data.toList.drop i) = none) : qt s.data.toList = none := by rw [h.is, hr]; rfl

set_option maxRecDepth 100000 in
set_option maxHeartbeats 8000000 in
theorem quote_calls (s : ByteArray) (w : World) (hs : s.size ≤ 35184372088832) : Calls Tryd.prog 10 #[.string s] w (QuoteIs s w) := by
  have B0 := Lib.hid (show BS w.heap.size w [] (w.alloc (.cells #[.pointer none, .slice none 0 0] 39)) from ⟨Lib.IsBuilderF.of (Lib.fresh_isBuilder 39 5 w), (Below.refl _ w).alloc (Nat.le_refl _) _, by simp⟩)
  go_enter Tryd.func10, Tryd.ntmps10
  go_wp2_with (go_at_call 15; ((with_reducible refine (write_calls 47 47 c47 B0.out (by simp)).mono ?_); rintro e W0 ⟨rfl, hb0⟩; replace hb0 := Lib.hid hb0))
  go_loopw [5] (fun vi wr => ∃ (i : Nat) (pre : Bytes), vi = .int .i64 i ∧ i ≤ s.size ∧ Hid (QAt s w i pre wr)) (fun vi _ => s.size - (intOf vi).toNat)
  case atStart =>
    refine ⟨0, [], rfl, Nat.zero_le _, ⟨hb0.out, Nat.zero_le _, ?_⟩⟩
    rw [List.drop_zero]
    cases qt s.data.toList <;> rfl
  case round =>
    obtain ⟨i, pre, rfl, his, HR⟩ := hrel
    have hal : (47 :: pre).length ≤ 2 * 35184372088832 + 1 := by have := HR.out.len; rw [List.length_cons]; omega
    have HB := Lib.hid HR.out.bs
    by_cases hlt : i < s.size
    · have hd := drop_byte s i hlt
      by_cases h10 : s[i] = 10
      · have b10 : (((s[i]).toNat : Int) == 10) = true := eq_byte h10
        have HN := Lib.hid (HR.out.no (by rw [hd, h10, qt_feed]))
        clear hd h10
        go_wp2
        refine bodyPost_ret (v := .tuple #[.string ⟨#[]⟩, .bool false]) (by simp [results, Tryd.results10, go_sem]) rfl ⟨by rw [HN.out], HR.out.bs.below⟩
      have b10 : (((s[i]).toNat : Int) == 10) = false := ne_byte (c := 10) h10
      by_cases h47 : s[i] = 47
      · have b47 : (((s[i]).toNat : Int) == 47) = true := eq_byte h47
        have hr : qt (s.data.toList.drop i) = (qt (s.data.toList.drop (i + 1))).map fun x => [92, 47] ++ x := by rw [hd, h47, qt_slash]
        have HN := Lib.hid (fun wr' (h : BS w.heap.size w (47 :: (pre ++ [92, 47])) wr') => HR.out.next [92, 47] 1 hr (by simp) h)
        have hE := Lib.hid h47
        clear hr hd h10 h47
        go_wp2_with (first
          | (go_at_call 15; ((with_reducible refine (write_calls 92 92 c92 HB.out (by omega)).mono ?_); rintro e W1 ⟨rfl, hb1⟩; replace hb1 := Lib.hid hb1))
          | (go_at_call 15; ((with_reducible refine (write_calls 47 _ (by rw [hE.out]) hb1.out (by rw [List.length_append]; simp only [List.length_singleton]; omega)).mono ?_); rintro e W2 ⟨rfl, hb2⟩; replace hb2 := Lib.hid hb2)))
        go_roundw
        case rel => exact ⟨i + 1, _, by go_num, by omega, HN.out _ (by have := hb2.out; rw [List.append_assoc] at this; exact this)⟩
        case measure => simp [intOf]; omega
      have b47 : (((s[i]).toNat : Int) == 47) = false := ne_byte (c := 47) h47
      by_cases h92 : s[i] = 92
      · have b92 : (((s[i]).toNat : Int) == 92) = true := eq_byte h92
        by_cases hnx : i + 1 < s.size
        · have hd2 := drop_byte s (i + 1) hnx
          have hne : ((i : Int) + 1 == (s.size : Int)) = false := beq_eq_false_iff_ne.2 (by omega)
          have hnx2 : (i : Int) + 1 < (s.size : Int) := by omega
          by_cases e47 : s[i + 1] = 47
          · have d47 : (((s[i + 1]).toNat : Int) == 47) = true := eq_byte e47
            have HN := Lib.hid (HR.out.no (by rw [hd, h92, hd2, qt_bad _ _ (.inl e47)]))
            clear hd hd2 h10 h47 h92 e47
            go_wp2
            refine bodyPost_ret (v := .tuple #[.string ⟨#[]⟩, .bool false]) (by simp [results, Tryd.results10, go_sem]) rfl ⟨by rw [HN.out], HR.out.bs.below⟩
          have d47 : (((s[i + 1]).toNat : Int) == 47) = false := ne_byte (c := 47) e47
          by_cases e10 : s[i + 1] = 10
          · have d10 : (((s[i + 1]).toNat : Int) == 10) = true := eq_byte e10
            have HN := Lib.hid (HR.out.no (by rw [hd, h92, hd2, qt_bad _ _ (.inr e10)]))
            clear hd hd2 h10 h47 h92 e47 e10
            go_wp2
            refine bodyPost_ret (v := .tuple #[.string ⟨#[]⟩, .bool false]) (by simp [results, Tryd.results10, go_sem]) rfl ⟨by rw [HN.out], HR.out.bs.below⟩
          have d10 : (((s[i + 1]).toNat : Int) == 10) = false := ne_byte (c := 10) e10
          have hr : qt (s.data.toList.drop i) = (qt (s.data.toList.drop (i + 2))).map fun x => [92, s[i + 1]] ++ x := by rw [hd, h92, hd2, qt_esc _ _ (fun h => h.elim e47 e10)]
          have HN := Lib.hid (fun wr' (h : BS w.heap.size w (47 :: (pre ++ [92, s[i + 1]])) wr') => HR.out.next [92, s[i + 1]] 2 hr (by simp) h)
          clear hr hd hd2 h10 h47 h92 e47 e10
          go_wp2_with (first
            | (go_at_call 15; ((with_reducible refine (write_calls 92 92 c92 HB.out (by omega)).mono ?_); rintro e W1 ⟨rfl, hb1⟩; replace hb1 := Lib.hid hb1))
            | (go_at_call 15; ((with_reducible refine (write_calls s[i + 1] _ rfl hb1.out (by rw [List.length_append]; simp only [List.length_singleton]; omega)).mono ?_); rintro e W2 ⟨rfl, hb2⟩; replace hb2 := Lib.hid hb2)))
          go_roundw
          case rel => exact ⟨i + 2, _, by go_num, by omega, HN.out _ (by have := hb2.out; rw [List.append_assoc] at this; exact this)⟩
          case measure => simp [intOf]; omega
        · have heq : ((i : Int) + 1 == (s.size : Int)) = true := beq_iff_eq.2 (by omega)
          have HN := Lib.hid (HR.out.no (by rw [hd, h92, drop_all s (i + 1) hnx]; rfl))
          clear hd h10 h47 h92
          go_wp2
          refine bodyPost_ret (v := .tuple #[.string ⟨#[]⟩, .bool false]) (by simp [results, Tryd.results10, go_sem]) rfl ⟨by rw [HN.out], HR.out.bs.below⟩
      · have b92 : (((s[i]).toNat : Int) == 92) = false := ne_byte (c := 92) h92
        have hr : qt (s.data.toList.drop i) = (qt (s.data.toList.drop (i + 1))).map fun x => [s[i]] ++ x := by rw [hd, qt_plain _ _ h10 h47 h92]
        have HN := Lib.hid (fun wr' (h : BS w.heap.size w (47 :: (pre ++ [s[i]])) wr') => HR.out.next [s[i]] 1 hr (by simp) h)
        clear hr hd h10 h47 h92
        go_wp2_with (go_at_call 15; ((with_reducible refine (write_calls s[i] _ rfl HB.out (by omega)).mono ?_); rintro e W1 ⟨rfl, hb1⟩; replace hb1 := Lib.hid hb1))
        go_roundw
        case rel => exact ⟨i + 1, _, by go_num, by omega, HN.out _ hb1.out⟩
        case measure => simp [intOf]; omega
    · have hn : qt s.data.toList = some pre := by
        rw [HR.out.is, drop_all s i hlt]; simp [qt]
      have HN := Lib.hid hn
      have hsz : (mkB (47 :: pre)).size ≤ 2 * 35184372088832 + 1 := by rw [Lib.size_eq]; exact hal
      have hbig : ¬ 9223372036854775807 < pre.length + 1 + 1 := by rw [List.length_cons] at hal; omega
      clear hn
      go_wp2_with (go_at_call 16; refine (Tryd.Builder_String_any_k w.heap.size w.heap.size (47 :: pre) _ HB.out.is HB.out.size).mono ?_; rintro e W1 ⟨rfl, _, hb1, _⟩; replace hb1 := Lib.hid hb1)
      refine bodyPost_ret (v := .tuple #[.string (mkB (47 :: (pre ++ [47]))), .bool true]) ?_ rfl ⟨by rw [HN.out], HR.out.bs.below.trans hb1.out⟩
      rw [mkB_snoc]
      simp [results, Tryd.results10, go_sem]
end Go.Proofs.YtageaahlkiaigaaDoor.Wd
