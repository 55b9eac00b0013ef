/- IsName, Quote, Words as plain functions, with their calls. Conditions: each theorem's own. -/
import Derived.Test.YtageaahlkiaigaaDoorWd8g
set_option linter.unusedVariables false
namespace Go.Proofs.YtageaahlkiaigaaDoor.P
open Go Go.RowKit Go.Proofs.YtageaahlkiaigaaDoorW.PrintWords Wd

def word_IsName.f (s : ByteArray) : Option Bool := if s.size ≤ 9223372036854775807 then some (nameL s.data.toList) else none
def quoteL (s : ByteArray) : ByteArray × Bool := match qt s.data.toList with | some q => (mkB (47 :: (q ++ [47])), true) | none => (⟨#[]⟩, false)
def word_Quote.f (s : ByteArray) : Option (ByteArray × Bool) := if s.size ≤ 35184372088832 then some (quoteL s) else none
def wordsS (s : ByteArray) : List S32 × Int × Int := ((wordsL s).1.map toS, ((wordsL s).2.1 : Int), ((wordsL s).2.2 : Int))
def word_Words.f (s : ByteArray) : Option (List S32 × Int × Int) := if s.size ≤ 9223372036854775807 then some (wordsS s) else none

theorem word_IsName.calls (s : ByteArray) (r : Bool) (w : World) (h : word_IsName.f s = some r) :
    Calls Tryd.prog 13 #[.string s] w fun e w' => e = .returned (.bool r) ∧ Below w.heap.size w w' := by
  unfold word_IsName.f at h
  split at h
  · injection h with h
    subst h
    exact isName_calls s w (by assumption)
  · cases h
theorem word_Quote.calls (s : ByteArray) (r1 : ByteArray) (r2 : Bool) (w : World) (h : word_Quote.f s = some (r1, r2)) :
    Calls Tryd.prog 10 #[.string s] w fun e w' => e = .returned (.tuple #[.string r1, .bool r2]) ∧ Below w.heap.size w w' := by
  unfold word_Quote.f at h
  split at h
  · injection h with h
    unfold quoteL at h
    refine (quote_calls s w (by assumption)).mono fun e w' hq => ?_
    obtain ⟨h1, h2⟩ := hq
    refine ⟨?_, h2⟩
    cases hm : qt s.data.toList with
    | some q => rw [hm] at h h1; injection h with ha hb; subst ha; subst hb; exact h1
    | none => rw [hm] at h h1; injection h with ha hb; subst ha; subst hb; exact h1
  · cases h
theorem word_Words.calls (s : ByteArray) (r1 : List S32) (r2 r3 : Int) (w : World) (h : word_Words.f s = some (r1, r2, r3)) :
    Calls Tryd.prog 14 #[.string s] w fun e w' => ∃ v0_, e = .returned (.tuple #[v0_, .int .i64 r2, .int .i64 r3]) ∧ k32.R 32 w' w.heap.size (fun _ => True) v0_ r1 ∧ Below w.heap.size w w' := by
  unfold word_Words.f at h
  split at h
  · injection h with h
    unfold wordsS at h
    injection h with h1 h2
    injection h2 with h2 h3
    subst h1; subst h2; subst h3
    by_cases hs : s.size ≤ 20000
    · exact words_short s w hs
    · exact words_long s w (by omega) (by assumption)
  · cases h
end Go.Proofs.YtageaahlkiaigaaDoor.P
