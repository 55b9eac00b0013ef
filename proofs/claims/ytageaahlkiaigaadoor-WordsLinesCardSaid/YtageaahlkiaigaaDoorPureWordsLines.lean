/- Two texts, one on the lines behind the other, have the words of both. Conditions: the statement's own. -/
import Derived.Test.YtageaahlkiaigaaDoorWdM
import Derived.Test.YtageaahlkiaigaaDoorPx10
set_option linter.unusedVariables false
set_option linter.unusedSimpArgs false
namespace Go.Proofs.YtageaahlkiaigaaDoor.Pure
open Go Go.RowKit Go.Proofs.YtageaahlkiaigaaDoor.P Go.Proofs.YtageaahlkiaigaaDoorW.PrintWords Wd

theorem same_no (x y : S32) (h0 : x.f0 = y.f0) (h1 : x.f1 = y.f1) (h2 : x.f2 = y.f2) (a b : Int) (h3 : a = b) :
    ¬ (!(x.f0 == y.f0) || (!(x.f1.toList == y.f1.toList) || (!(x.f2 == y.f2) || (!(a == b))))) = true := by
  rw [h0, h1, h2, h3]; simp

/-- One behind the other: the words compared. -/
theorem lines_loop (s : ByteArray) (hs : s.size ≤ 400) (A B : List W) (hA : A.length ≤ 1000) (hB : B.length ≤ 1000) (hBa : ∀ w ∈ B, w.a ≤ 1000) : ∀ (d i f : Nat), A.length + B.length - i = d → i ≤ A.length + B.length → d < f →
    syntagmlaw08_WordsLines.l0 f s true (A.map toS) (B.map toS) ((A ++ B.map (·.up (s.size + 1))).map toS) (i : Int) = some true := by
  have hln : (A ++ B.map (·.up (s.size + 1))).length = A.length + B.length := by simp
  intro d
  induction d with
  | zero =>
    intro i f hd hi hf
    obtain ⟨f, rfl⟩ : ∃ g, f = g + 1 := ⟨f - 1, by omega⟩
    rw [syntagmlaw08_WordsLines.l0, if_neg (by rw [List.length_map, hln]; omega)]
  | succ d ih =>
    intro i f hd hi hf
    obtain ⟨f, rfl⟩ : ∃ g, f = g + 1 := ⟨f - 1, by omega⟩
    have hlt : i < (A ++ B.map (·.up (s.size + 1))).length := by omega
    have nx := ih (i + 1) f (by omega) (by omega) (by omega)
    rw [syntagmlaw08_WordsLines.l0, if_pos (by rw [List.length_map, hln]; omega), rd_map _ _ hlt, List.length_map]
    by_cases h : i < A.length
    · have e : (A ++ B.map (·.up (s.size + 1)))[i]'hlt = A[i]'h := List.getElem_append_left h
      rw [if_pos (by omega), if_pos (by omega), rd_map _ _ h, e]
      rw [if_neg (same_no (toS (A[i]'h)) (toS (A[i]'h)) rfl rfl rfl _ _ rfl), w64s i (by omega)]
      exact nx
    · obtain ⟨j, rfl⟩ : ∃ j, i = A.length + j := ⟨i - A.length, by omega⟩
      have hj : j < B.length := by omega
      have e : (A ++ B.map (·.up (s.size + 1)))[A.length + j]'hlt = (B[j]'hj).up (s.size + 1) := by
        rw [List.getElem_append_right (by omega)]
        simp
      have hba := hBa (B[j]'hj) (List.getElem_mem hj)
      have hw : wrap64 (((A.length + j : Nat) : Int) - (A.length : Int)) = (j : Int) := by rw [w64 (by omega) (by omega)]; omega
      have h3 : (toS ((B[j]'hj).up (s.size + 1))).f3 = wrap64 (wrap64 ((toS (B[j]'hj)).f3 + (s.size : Int)) + 1) := by
        have q1 : (toS ((B[j]'hj).up (s.size + 1))).f3 = (((B[j]'hj).a + (s.size + 1) : Nat) : Int) := rfl
        have q2 : (toS (B[j]'hj)).f3 = (((B[j]'hj).a : Nat) : Int) := rfl
        rw [q1, q2, w64 (n := (((B[j]'hj).a : Nat) : Int) + (s.size : Int)) (by omega) (by omega), w64 (by omega) (by omega)]; omega
      rw [if_neg (by omega), hw, if_pos (by omega), if_pos (by rw [List.length_map]; omega), if_pos (by omega), rd_map _ _ hj, e]
      rw [if_neg (same_no (toS ((B[j]'hj).up (s.size + 1))) (toS (B[j]'hj)) rfl rfl rfl _ _ h3), w64s _ (by omega)]
      exact nx

theorem ord_le {T : Bytes} : ∀ (ws : List W) (t0 : Nat) (en : Bool) (z : Nat), Wd.Ord T t0 en ws z → ∀ w ∈ ws, w.a ≤ T.length
  | [], _, _, _, _ => by simp
  | w :: ws, t0, en, z, h => by
    intro x hx
    rcases List.mem_cons.1 hx with rfl | hx
    · exact h.2.1
    · exact ord_le ws _ _ _ h.2.2.2.2 x hx

theorem lines_j0 (a0 a1 : ByteArray) (h0 : a0.size ≤ 400) (h1 : a1.size ≤ 400) (f : Nat) (hf : 2100 < f) : syntagmlaw08_WordsLines.j0 (f + 2) a0 a1 true false = some true := by
  have hal : a0.data.toList.length = a0.size := (Lib.size_eq a0).symm
  have hal1 : a1.data.toList.length = a1.size := (Lib.size_eq a1).symm
  have s1 : (a0 ++ (⟨#[10]⟩ : ByteArray)).size = a0.size + 1 := by rw [ByteArray.size_append]; rfl
  have s2 : ((a0 ++ (⟨#[10]⟩ : ByteArray)) ++ a1).size = a0.size + 1 + a1.size := by rw [ByteArray.size_append, s1]
  obtain ⟨R, hR⟩ : ∃ R, R = Wd.rd (a0.size + 1) a0.data.toList 0 true := ⟨_, rfl⟩
  obtain ⟨S, hS⟩ : ∃ S, S = Wd.rd (a1.size + 1) a1.data.toList 0 true := ⟨_, rfl⟩
  have w0 : wordsL a0 = R := by rw [words_short_is _ (by omega), hR]
  have w1 : wordsL a1 = S := by rw [words_short_is _ (by omega), hS]
  have w2 : R.2.1 = 0 → wordsL ((a0 ++ (⟨#[10]⟩ : ByteArray)) ++ a1) = (R.1 ++ S.1.map (·.up (a0.size + 1)), S.2.1, if S.2.1 = 0 then S.2.2 else S.2.2 + (a0.size + 1)) := by
    intro he
    have hd : ((a0 ++ (⟨#[10]⟩ : ByteArray)) ++ a1).data.toList = a0.data.toList ++ 10 :: a1.data.toList := by rw [app_data, app_data, List.append_assoc]; rfl
    have := rd_lines (a0.size + 1) a0.data.toList a1.data.toList 0 true (a0.size + 1 + a1.size + 1) (by omega) (by rw [← hR]; exact he) (by rw [List.length_append, List.length_cons]; omega)
    rw [words_short_is _ (by omega), s2, hd, this, ← hR, hal, hal1, show 0 + a0.size + 1 = 0 + (a0.size + 1) by omega, rd_up, ← hS]
    rfl
  have hlR : R.1.length ≤ 1000 := by have := rd_few (a0.size + 1) a0.data.toList 0 true; rw [← hR] at this; omega
  have hlS : S.1.length ≤ 1000 := by have := rd_few (a1.size + 1) a1.data.toList 0 true; rw [← hS] at this; omega
  obtain ⟨o1, o2, _⟩ := rd_ord a1.data.toList (a1.size + 1) a1.data.toList 0 0 true (by omega) List.drop_zero (Nat.zero_le _) (Nat.zero_le _)
  rw [← hS] at o1 o2
  have hBa : ∀ w ∈ S.1, w.a ≤ 1000 := fun w hw => by have := ord_le _ _ _ _ o1 w hw; omega
  clear hR hS
  rw [syntagmlaw08_WordsLines.j0, if_neg (by decide), words_f _ (by omega), Option.bind_some, words_f _ (by omega), Option.bind_some, if_pos (by omega), if_pos (by omega), words_f _ (by omega), Option.bind_some]
  unfold wordsS
  rw [w0, w1]
  dsimp only
  by_cases he : R.2.1 = 0
  · rw [if_pos (by omega), w2 he]
    dsimp only
    have hj : syntagmlaw08_WordsLines.j1 (f + 1) a0 true (R.1.map toS) (S.1.map toS) ((R.1 ++ S.1.map (·.up (a0.size + 1))).map toS) (((((R.1 ++ S.1.map (·.up (a0.size + 1))).map toS).length : Nat) : Int) != wrap64 ((((R.1.map toS).length : Nat) : Int) + (((S.1.map toS).length : Nat) : Int))) = some true := by
      have hl : (((((R.1 ++ S.1.map (·.up (a0.size + 1))).map toS).length : Nat) : Int) != wrap64 ((((R.1.map toS).length : Nat) : Int) + (((S.1.map toS).length : Nat) : Int))) = false := by
        simp only [List.length_map, List.length_append]
        rw [w64 (by omega) (by omega)]
        simp
      rw [hl, syntagmlaw08_WordsLines.j1, if_neg (by decide)]
      exact lines_loop a0 h0 R.1 S.1 hlR hlS hBa (R.1.length + S.1.length) 0 f (by omega) (by omega) (by omega)
    refine (if_pos rfl).trans ?_
    by_cases hz : S.2.1 = 0
    · rw [if_pos (by omega)]; exact hj
    · have hq := o2 hz
      have hw : ((S.2.2 + (a0.size + 1) : Nat) : Int) = wrap64 (wrap64 ((S.2.2 : Int) + (a0.size : Int)) + 1) := by
        rw [w64 (n := (S.2.2 : Int) + (a0.size : Int)) (by omega) (by omega), w64 (by omega) (by omega)]; omega
      rw [if_neg (by omega), if_neg hz, if_pos hw]
      exact hj
  · rw [if_neg (by omega)]

theorem WordsLines (a0 a1 : ByteArray) (w0 : a0.size ≤ maxLen) (w1 : a1.size ≤ maxLen) : ∃ k, syntagmlaw08_WordsLines.f k a0 a1 = some true := by
  refine ⟨3002, ?_⟩
  unfold syntagmlaw08_WordsLines.f
  rw [works_is, Option.bind_some, if_pos rfl]
  by_cases h0 : (a0.size : Int) > 400
  · rw [if_pos h0, syntagmlaw08_WordsLines.j0, if_pos rfl]
  rw [if_neg h0]
  by_cases h1 : (a1.size : Int) > 400
  · rw [decide_eq_true h1, syntagmlaw08_WordsLines.j0, if_pos rfl]
  rw [decide_eq_false h1]
  exact lines_j0 a0 a1 (by omega) (by omega) 3000 (by omega)
end Go.Proofs.YtageaahlkiaigaaDoor.Pure
