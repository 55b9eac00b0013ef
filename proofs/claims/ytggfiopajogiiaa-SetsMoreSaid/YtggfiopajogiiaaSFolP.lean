/- What may follow sorts: what sets.Follow computes, plain. No conditions. -/
import Derived.Test.YtggfiopajogiiaaSOf
set_option linter.unusedVariables false
set_option linter.unusedSimpArgs false
namespace Go.Proofs.Ytggfiopajogiiaa.P
open Go.Proofs.Ytggfiopajogiiaa.Base Go.RowKit Go.Proofs.YtggfiopajogiiaaW.PrintWords Go.Proofs.YtggfiopajogiiaaW.PrintLast Go.Proofs.YtggfiopajogiiaaW.PrintMore

section
variable (nT nS : Int) (es : List Bool) (fs : List Int)
/-- What one symbol more tells: what is behind it. -/
def folMore (srt s : Int) (l : List Int) (out : List Int) : Int := Go.bits .or .u64 (rdOf 0 out (IntKind.i64.wrap (-1 - s))) ((rowF nT nS es fs (rdOf 0 out srt) l 0).getD 0)
def folSym (srt : Int) : List Int → List Int × Bool → List Int × Bool
  | [], st => st
  | s :: l, st => folSym srt l (if 0 ≤ s then st else (st.1.set (IntKind.i64.wrap (-1 - s)).toNat (folMore nT nS es fs srt s l st.1), st.2 || decide (folMore nT nS es fs srt s l st.1 ≠ rdOf 0 st.1 (IntKind.i64.wrap (-1 - s)))))
def folPass : List S45 → List Int × Bool → List Int × Bool
  | [], st => st
  | p :: ps, st => folPass ps (folSym nT nS es fs p.f1 p.f2 st)
def folG (ps : List S45) : Nat → List Int → Option (List Int)
  | 0, _ => none
  | k + 1, xs => if (folPass nT nS es fs ps (xs, false)).2 = true then folG ps k (folPass nT nS es fs ps (xs, false)).1 else some (folPass nT nS es fs ps (xs, false)).1
theorem folG_mono (ps : List S45) : ∀ (k : Nat) (xs : List Int), LeO (folG nT nS es fs ps k xs) (folG nT nS es fs ps (k + 1) xs)
  | 0, xs => by intro r h; cases h
  | k + 1, xs => by
    intro r h
    unfold folG at h ⊢
    split at h
    · rw [if_pos (by assumption)]; exact folG_mono ps k _ r h
    · rw [if_neg (by assumption)]; exact h
theorem folPass_drop (ps : List S45) (k : Nat) (hk : k < ps.length) (st : List Int × Bool) : folPass nT nS es fs (ps.drop k) st = folPass nT nS es fs (ps.drop (k + 1)) (folSym nT nS es fs ps[k].f1 ps[k].f2 st) := by
  rw [List.drop_eq_getElem_cons hk]; rfl
theorem folSym_drop (srt : Int) (l : List Int) (k : Nat) (hk : k < l.length) (st : List Int × Bool) :
    folSym nT nS es fs srt (l.drop k) st = folSym nT nS es fs srt (l.drop (k + 1)) (if 0 ≤ l[k] then st else (st.1.set (IntKind.i64.wrap (-1 - l[k])).toNat (folMore nT nS es fs srt l[k] (l.drop (k + 1)) st.1), st.2 || decide (folMore nT nS es fs srt l[k] (l.drop (k + 1)) st.1 ≠ rdOf 0 st.1 (IntKind.i64.wrap (-1 - l[k]))))) := by
  rw [List.drop_eq_getElem_cons hk]; rfl
end

def sets_Follow.f (k : Nat) (l0 : List S51) (l1 : List S63) (l2 : List ByteArray) (l3 : List S45) (st : Int) : Option (List Int) :=
  if validB l0 l1 l2 l3 st = true then (sets_Empty.f k l0 l1 l2 l3 st).bind fun es => (growG (0 : Int) (moreS l0.length l2.length es) l3 k (List.replicate l2.length 0)).bind fun fs =>
    (bits_Of.f k [63]).bind fun eo => folG l0.length l2.length es fs l3 k ((List.replicate l2.length 0).set st.toNat eo) else some []

theorem sets_Follow.mono (l0 : List S51) (l1 : List S63) (l2 : List ByteArray) (l3 : List S45) (st : Int) (k : Nat) : LeO (sets_Follow.f k l0 l1 l2 l3 st) (sets_Follow.f (k + 1) l0 l1 l2 l3 st) := by
  unfold sets_Follow.f
  split
  · intro r h
    obtain ⟨es, he, h⟩ := Option.bind_eq_some_iff.1 h
    obtain ⟨fs, hf, h⟩ := Option.bind_eq_some_iff.1 h
    obtain ⟨eo, ho, h⟩ := Option.bind_eq_some_iff.1 h
    exact Option.bind_eq_some_iff.2 ⟨es, sets_Empty.mono _ _ _ _ _ _ _ he, Option.bind_eq_some_iff.2 ⟨fs, growG_mono _ _ _ _ _ _ hf, Option.bind_eq_some_iff.2 ⟨eo, bits_Of.mono _ _ _ ho, folG_mono _ _ _ _ _ _ _ _ h⟩⟩⟩
  · exact fun _ h => h

end Go.Proofs.Ytggfiopajogiiaa.P
