/- What the laws' parts come to: the example, words of short texts, rows of words. Conditions: each theorem's own. -/
import Derived.Test.YtageaahlkiaigaaDoorPx5
import Derived.Test.YtageaahlkiaigaaDoorWd9
set_option linter.unusedVariables false
set_option linter.unusedSimpArgs false
namespace Go.Proofs.YtageaahlkiaigaaDoor.P
open Go Go.RowKit Go.Proofs.YtageaahlkiaigaaDoorW.PrintWords Wd

theorem w64 {n : Int} (h0 : -9223372036854775808 ≤ n) (h1 : n ≤ 9223372036854775807) : wrap64 n = n := by unfold wrap64; omega
theorem w64s (i : Nat) (h : i < 9223372036854775807) : wrap64 ((i : Int) + 1) = ((i + 1 : Nat) : Int) := by unfold wrap64; omega
theorem mkB_list (l : Bytes) : (mkB l).toList = l := by rw [Lib.toList_data]; rfl
theorem mkB_data (l : Bytes) : (mkB l).data.toList = l := rfl
theorem mkB_size (l : Bytes) : (mkB l).size = l.length := rfl
theorem mkB_of (s : ByteArray) : mkB s.data.toList = s := rfl
theorem app_data (a b : ByteArray) : (a ++ b).data.toList = a.data.toList ++ b.data.toList := by
  rw [ByteArray.data_append, Array.toList_append]
theorem works_is : syntagmlaw08_works.f = some true := by
  unfold syntagmlaw08_works.f
  simp only [Lib.toList_data]
  kernel_rfl
theorem words_f (s : ByteArray) (h : s.size ≤ 9223372036854775807) : word_Words.f s = some (wordsS s) := by unfold word_Words.f; rw [if_pos h]
theorem quote_f (s : ByteArray) (h : s.size ≤ 35184372088832) : word_Quote.f s = some (quoteL s) := by unfold word_Quote.f; rw [if_pos h]
theorem name_f (s : ByteArray) (h : s.size ≤ 9223372036854775807) : word_IsName.f s = some (nameL s.data.toList) := by unfold word_IsName.f; rw [if_pos h]
theorem words_short_is (s : ByteArray) (h : s.size ≤ 20000) : wordsL s = rd (s.size + 1) s.data.toList 0 true := by unfold wordsL; rw [if_neg (by omega)]
theorem rd_map (l : List W) (j : Nat) (h : j < l.length) : rd_T32 (l.map toS) (j : Int) = toS l[j] := by
  unfold rd_T32
  rw [Int.toNat_natCast, List.getD_eq_getElem?_getD, List.getElem?_eq_getElem (by rw [List.length_map]; exact h)]
  simp
theorem qt_len (l : Bytes) : ∀ q, qt l = some q → q.length ≤ 2 * l.length := by
  refine ind2 (fun l => ∀ q, qt l = some q → q.length ≤ 2 * l.length) ?_ ?_ ?_ l
  · intro q h; simp [qt] at h; subst h; exact Nat.le_refl _
  · intro c q h
    rw [qt_one] at h
    repeat' split at h
    all_goals first
      | cases h; done
      | (injection h with h; subst h; simp)
  · intro c d r ih1 ih2 q h
    rw [qt_two] at h
    repeat' split at h
    all_goals first
      | cases h; done
      | skip
    all_goals
      obtain ⟨x, hx, rfl⟩ := Option.map_eq_some_iff.1 h
      first
        | (have := ih2 x hx; simp only [List.length_cons] at this ⊢; omega)
        | (have := ih1 x hx; simp only [List.length_cons] at this ⊢; omega)
end Go.Proofs.YtageaahlkiaigaaDoor.P
