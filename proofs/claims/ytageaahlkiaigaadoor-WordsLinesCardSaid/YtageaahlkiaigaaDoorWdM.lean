/- How many words there are, at most; words compared. Conditions: each theorem's own. -/
import Derived.Test.YtageaahlkiaigaaDoorWdL
set_option linter.unusedVariables false
set_option linter.unusedSimpArgs false
namespace Go.Proofs.YtageaahlkiaigaaDoor.P
open Go Go.RowKit Go.Proofs.YtageaahlkiaigaaDoorW.PrintWords Wd

theorem rd_few (k : Nat) : ∀ (l : Bytes) (p : Nat) (en : Bool), (Wd.rd k l p en).1.length ≤ l.length + 1 := by
  induction k with
  | zero => intro l p en; simp [Wd.rd]
  | succ k ih =>
    intro l p en
    cases l with
    | nil => rw [Wd.rd]; cases en <;> simp
    | cons b r =>
      rw [rd_step]
      rcases one_long b r with ⟨e, he, _⟩ | ⟨h1, h2⟩
      · rw [he]; simp
      · cases ho : one b r with
        | skip n =>
          rw [ho] at h1 h2
          simp only [Tok.long] at h1 h2
          have := ih ((b :: r).drop n) (p + n) en
          rw [List.length_drop, List.length_cons] at this
          show (Wd.rd k _ _ _).1.length ≤ _
          rw [List.length_cons]; omega
        | nl =>
          have := ih r (p + 1) true
          show ((if en then [] else [_]) ++ _ : List W).length ≤ _
          rw [List.length_append, List.length_cons]
          cases en <;> simp <;> omega
        | word kd t n m =>
          rw [ho] at h1 h2
          simp only [Tok.long] at h1 h2
          have := ih ((b :: r).drop m) (p + m) false
          rw [List.length_drop, List.length_cons] at this
          show (_ :: _ : List W).length ≤ _
          rw [List.length_cons, List.length_cons]; omega
        | err x => simp

end Go.Proofs.YtageaahlkiaigaaDoor.P
