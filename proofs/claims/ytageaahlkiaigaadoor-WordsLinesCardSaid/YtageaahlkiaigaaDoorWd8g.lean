/- All words: walked. Conditions: each theorem's own. -/
import Derived.Test.YtageaahlkiaigaaDoorWd8f
set_option linter.unusedVariables false
set_option linter.unusedSimpArgs false
namespace Go.Proofs.YtageaahlkiaigaaDoor.Wd
open Go Go.RowKit Go.Proofs.YtageaahlkiaigaaDoorW.PrintWords P

theorem R_any {w : World} {B X : Nat} {v : Value} {l : List S32} (h : k32.R 32 w B (fun k => k ≠ X) v l) : k32.R 32 w B (fun _ => True) v l := Kd.R_mono h fun _ _ => trivial
theorem words_far (s : ByteArray) (h : 20000 < s.size) : wordsL s = ([], 4, 0) := by unfold wordsL; rw [if_pos h]

set_option maxRecDepth 100000 in
set_option maxHeartbeats 4000000 in
theorem words_long (s : ByteArray) (w : World) (h : 20000 < s.size) (hz : s.size ≤ 9223372036854775807) : Calls Tryd.prog 14 #[.string s] w (WordsIs s w) := by
  have H := Lib.hid (words_far s h)
  have hi : 20000 < (s.size : Int) := by omega
  go_enter Tryd.func14, Tryd.ntmps14
  go_wp2_with fail
  refine bodyPost_ret (v := .tuple #[.slice none 0 0, .int .i64 4, .int .i64 0]) (by simp [results, Tryd.results14, go_sem]) rfl ⟨_, by rw [H.out]; rfl, by rw [H.out]; exact Kd.R_nil _ _ _ _ _, Below.refl _ _⟩

theorem at_start (s : ByteArray) (w : World) (hs : s.size ≤ 20000) : At s w 0 [] (w.alloc (.cells #[.string s, .int .i64 0, .slice none 0 0] 48)) := by
  refine ⟨⟨⟨_, heap_alloc_new w _, Kd.R_nil _ _ _ _ _⟩, (Below.refl _ w).alloc (Nat.le_refl _) _, Nat.le_refl _⟩, Nat.le_refl _, [], rfl, ?_⟩
  unfold wordsL
  rw [if_neg (by omega)]
  rfl

theorem at_end {s : ByteArray} {w : World} {acc : List S32} {wr : World} (h : At s w s.size acc wr) (hs : s.size ≤ 20000) :
    (wordsL s).2 = (0, 0) ∧ (wordsL s).1.map toS = if enS acc then acc else acc ++ [⟨4, ⟨#[]⟩, 0, s.size⟩] := by
  obtain ⟨_, _, ws, h3, h4⟩ := h
  rw [drop_all s s.size (by omega)] at h4
  rw [h4]
  refine ⟨rfl, ?_⟩
  rw [rd]
  cases enS acc
  · rw [if_neg (by decide), if_neg (by decide), List.map_append, ← h3]; rfl
  · rw [if_pos rfl, if_pos rfl, List.append_nil, h3]

theorem at_good {s : ByteArray} {w : World} {p : Nat} {acc : List S32} {wr : World} (h : At s w p acc wr) (hs : s.size ≤ 20000) (hp : p < s.size) (hg : ∀ x, one (s[p]'hp) (s.data.toList.drop (p + 1)) ≠ .err x) {e : Ending} {w' : World} (hw : WordIs s w.heap.size w.heap.size w p acc (one (s[p]'hp) (s.data.toList.drop (p + 1))) e w') :
    e = .returned (.int .i64 0) ∧ ∃ p' acc', p < p' ∧ p' ≤ s.size ∧ At s w p' acc' w' := by
  rcases at_next h hs hp hw with ⟨p', acc', h1, h2, h3, h4⟩ | ⟨c, h1, h2, _⟩
  · exact ⟨h1, p', acc', h2, h3, h4⟩
  · exfalso
    revert hw hg
    cases one (s[p]'hp) (s.data.toList.drop (p + 1)) with
    | err x => intro hg _; exact hg x rfl
    | skip n => intro _ hw; have := hw.1.symm.trans h1; injection this with this; injection this with _ this; omega
    | nl => intro _ hw; have := hw.1.symm.trans h1; injection this with this; injection this with _ this; omega
    | word k t n m => intro _ hw; have := hw.1.symm.trans h1; injection this with this; injection this with _ this; omega
theorem at_bad {s : ByteArray} {w : World} {p : Nat} {acc : List S32} {wr : World} (h : At s w p acc wr) (hs : s.size ≤ 20000) (hp : p < s.size) (x : Nat) (hg : one (s[p]'hp) (s.data.toList.drop (p + 1)) = .err x) {e : Ending} {w' : World} (hw : WordIs s w.heap.size w.heap.size w p acc (one (s[p]'hp) (s.data.toList.drop (p + 1))) e w') :
    e = .returned (.int .i64 (x : Int)) ∧ RS s w.heap.size w.heap.size w p acc w' ∧ (wordsL s).2 = (x, p) ∧ (wordsL s).1.map toS = acc := by
  have hw2 := hw
  rw [hg] at hw2
  rcases at_next h hs hp hw with ⟨p', acc', h1, h2, h3, h4⟩ | ⟨c, h1, h2, h3, h4, h5⟩
  · exfalso
    have := hw2.1.symm.trans h1; injection this with this; injection this with _ this
    have hx : x = 4 ∨ x = 5 := by
      rcases one_long (s[p]'hp) (s.data.toList.drop (p + 1)) with ⟨e, h, h'⟩ | ⟨h, _⟩
      · rw [hg] at h; injection h with h; omega
      · rw [hg] at h; exact absurd h (by simp [Tok.long])
    omega
  · have := hw2.1.symm.trans h1; injection this with this; injection this with _ this
    obtain rfl : x = c := by omega
    exact ⟨h1, h3, h4, h5⟩
theorem bad_is {s : ByteArray} {p : Nat} (hp : p < s.size) (x : Nat) (hg : one (s[p]'hp) (s.data.toList.drop (p + 1)) = .err x) : x = 4 ∨ x = 5 := by
  rcases one_long (s[p]'hp) (s.data.toList.drop (p + 1)) with ⟨e, h, h'⟩ | ⟨h, _⟩
  · rw [hg] at h; injection h with h; omega
  · rw [hg] at h; exact absurd h (by simp [Tok.long])

set_option maxRecDepth 100000 in
set_option maxHeartbeats 8000000 in
theorem words_short (s : ByteArray) (w : World) (hs : s.size ≤ 20000) : Calls Tryd.prog 14 #[.string s] w (WordsIs s w) := by
  have hi : ¬ (20000 < (s.size : Int)) := by omega
  go_enter Tryd.func14, Tryd.ntmps14
  go_wp2_with fail
  go_loopw [6] (fun _ wr => ∃ (p : Nat) (acc : List S32), p ≤ s.size ∧ Hid (At s w p acc wr)) (fun _ wr => s.size - atOf w.heap.size wr)
  case atStart => exact ⟨0, [], Nat.zero_le _, at_start s w hs⟩
  case round =>
    obtain ⟨p, acc, hps, HA⟩ := hrel
    obtain ⟨c0, c1, f1⟩ := HA.out.1.cells
    by_cases hp : p < s.size
    · have hpi : (p : Int) < (s.size : Int) := by omega
      have hal : acc.length < 20002 := by have := HA.out.2.1; omega
      have hmeas := Lib.hid HA.out.1.atOf
      by_cases hg : ∃ x, one (s[p]'hp) (s.data.toList.drop (p + 1)) = .err x
      · obtain ⟨x, hx⟩ := hg
        have hwd := Lib.hid ((word_calls HA.out.1 hal hs hp).mono (fun e w' h => at_bad HA.out hs hp x hx h))
        have hxx := bad_is hp x hx
        clear hx
        rcases hxx with rfl | rfl
        · go_wp2_with (go_at_call 21; ((with_reducible refine hwd.out.mono ?_); rintro e W1 ⟨rfl, hR⟩; replace hR := Lib.hid hR))
          go_upto_region 7 with fail
          repeat (refine wp_seq ?_)
          obtain ⟨lv, hb, hrow⟩ := hR.out.1.at_
          have d2 : W1.cell? ⟨w.heap.size, 2, none⟩ = some lv := by rw [Joins.cell_of_block hb]; rfl
          have d1 := hR.out.1.cells.2.1
          have hRw := Lib.hid hrow
          clear hb hrow
          go_quiet (fail)
          go_wp2_with fail
          refine bodyPost_ret (v := .tuple #[lv, .int .i64 4, .int .i64 p]) (by simp [results, Tryd.results14, go_sem]) rfl ?_
          refine ⟨lv, by rw [hR.out.2.1]; rfl, ?_, (hR.out.1.drewN nq).below⟩
          rw [hR.out.2.2]
          exact R_any (Kd.R_move hRw.out fun _ _ => rfl)
        · go_wp2_with (go_at_call 21; ((with_reducible refine hwd.out.mono ?_); rintro e W1 ⟨rfl, hR⟩; replace hR := Lib.hid hR))
          go_upto_region 7 with fail
          repeat (refine wp_seq ?_)
          obtain ⟨lv, hb, hrow⟩ := hR.out.1.at_
          have d2 : W1.cell? ⟨w.heap.size, 2, none⟩ = some lv := by rw [Joins.cell_of_block hb]; rfl
          have d1 := hR.out.1.cells.2.1
          have hRw := Lib.hid hrow
          clear hb hrow
          go_quiet (fail)
          go_wp2_with fail
          refine bodyPost_ret (v := .tuple #[lv, .int .i64 5, .int .i64 p]) (by simp [results, Tryd.results14, go_sem]) rfl ?_
          refine ⟨lv, by rw [hR.out.2.1]; rfl, ?_, (hR.out.1.drewN nq).below⟩
          rw [hR.out.2.2]
          exact R_any (Kd.R_move hRw.out fun _ _ => rfl)
      · have hwd := Lib.hid ((word_calls HA.out.1 hal hs hp).mono (fun e w' h => at_good HA.out hs hp (fun x hx => hg ⟨x, hx⟩) h))
        clear hg
        go_wp2_with (go_at_call 21; ((with_reducible refine hwd.out.mono ?_); rintro e W1 ⟨rfl, hR⟩; replace hR := Lib.hid hR))
        go_roundw
        case rel =>
          obtain ⟨p', acc', h1, h2, h3⟩ := hR.out
          exact ⟨p', acc', h2, h3⟩
        case measure =>
          obtain ⟨p', acc', h1, h2, h3⟩ := hR.out
          rw [hmeas.out, h3.1.atOf]
          omega
    · have hpi : ¬ ((p : Int) < (s.size : Int)) := by omega
      obtain rfl : p = s.size := by omega
      have hal : acc.length < 20002 := by have := HA.out.2.1; omega
      have he := Lib.hid (at_end HA.out hs)
      have HE := Lib.hid (end_calls HA.out.1 hal (by omega) 0 (by omega))
      go_wp2_with (go_at_call 22; ((with_reducible refine HE.out.mono ?_); rintro e W1 ⟨rfl, hR⟩; rw [Int.add_zero, ← he.out.2] at hR; obtain ⟨lv, hb, hrow⟩ := hR.at_; have d2 : W1.cell? ⟨w.heap.size, 2, none⟩ = some lv := (by rw [Joins.cell_of_block hb]; rfl); have hRw := Lib.hid hrow; replace hR := Lib.hid hR; clear hb hrow))
      refine bodyPost_ret (v := .tuple #[lv, .int .i64 0, .int .i64 0]) (by simp [results, Tryd.results14, go_sem]) rfl ?_
      exact ⟨lv, by rw [he.out.1]; rfl, R_any hRw.out, hR.out.below⟩
end Go.Proofs.YtageaahlkiaigaaDoor.Wd
