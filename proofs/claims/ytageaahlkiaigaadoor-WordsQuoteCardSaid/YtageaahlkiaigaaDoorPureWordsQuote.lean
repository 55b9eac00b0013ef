/- What is quoted is read again. Conditions: the statement's own. -/
import Derived.Test.YtageaahlkiaigaaDoorWdL
import Derived.Test.YtageaahlkiaigaaDoorPx8
set_option linter.unusedVariables false
set_option linter.unusedSimpArgs false
namespace Go.Proofs.YtageaahlkiaigaaDoor.Pure
open Go Go.RowKit Go.Proofs.YtageaahlkiaigaaDoor.P Go.Proofs.YtageaahlkiaigaaDoorW.PrintWords Wd

theorem WordsQuote (a0 : ByteArray) (w0 : a0.size ≤ maxLen) : syntagmlaw08_WordsQuote.f a0 = some true := by
  unfold syntagmlaw08_WordsQuote.f
  rw [works_is, Option.bind_some, if_pos rfl]
  by_cases hb : (a0.size : Int) > 400
  · rw [if_pos hb]
  · rw [if_neg hb, quote_f a0 (by omega), Option.bind_some]
    unfold quoteL
    have hl : a0.data.toList.length = a0.size := (Lib.size_eq a0).symm
    cases hq : qt a0.data.toList with
    | none =>
      dsimp only
      rw [if_neg (by decide), Lib.toList_data]
      rfl
    | some q =>
      have hql := qt_len _ q hq
      dsimp only
      have hsz : (mkB (47 :: (q ++ [47]))).size = q.length + 2 := by rw [mkB_size]; simp
      have hw : wordsS (mkB (47 :: (q ++ [47]))) = ([⟨3, a0, 0, 0⟩, ⟨4, ⟨#[]⟩, 0, ((q.length + 2 : Nat) : Int)⟩], 0, 0) := by
        unfold wordsS
        rw [words_short_is _ (by omega), mkB_data, rd_qt _ _ hq _ (by omega)]
        rfl
      rw [if_pos rfl, words_f _ (by omega), Option.bind_some, hw]
      dsimp only
      iterate 6 refine (if_pos (by first | rfl | (simp; done))).trans ?_
      rfl
end Go.Proofs.YtageaahlkiaigaaDoor.Pure
