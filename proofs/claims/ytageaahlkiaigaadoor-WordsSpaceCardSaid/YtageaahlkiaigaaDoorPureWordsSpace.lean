/- Blanks and remarks are no words. Conditions: the statement's own. -/
import Derived.Test.YtageaahlkiaigaaDoorWdL
import Derived.Test.YtageaahlkiaigaaDoorPx11
set_option linter.unusedVariables false
set_option linter.unusedSimpArgs false
namespace Go.Proofs.YtageaahlkiaigaaDoor.Pure
open Go Go.RowKit Go.Proofs.YtageaahlkiaigaaDoor.P Go.Proofs.YtageaahlkiaigaaDoorW.PrintWords Wd

theorem ord_le {T : Bytes} : ∀ (ws : List W) (t0 : Nat) (en : Bool) (z : Nat), Wd.Ord T t0 en ws z → ∀ w ∈ ws, w.a ≤ T.length
  | [], _, _, _, _ => by simp
  | w :: ws, t0, en, z, h => by
    intro x hx
    rcases List.mem_cons.1 hx with rfl | hx
    · exact h.2.1
    · exact ord_le ws _ _ _ h.2.2.2.2 x hx

theorem sp_kind (l : List W) (m : List W) (h : m.map W.kt = l.map W.kt) (N : Nat) : ∀ (d i f : Nat), l.length - i = d → i ≤ l.length → d < f → l.length ≤ 30000 →
    syntagmlaw08_WordsSpace.l2 f true (l.map toS) (m.map toS) (i : Int) = some true := by
  have hlen : m.length = l.length := by have := congrArg List.length h; simpa using this
  intro d
  induction d with
  | zero =>
    intro i f hd hi hf hb
    obtain ⟨f, rfl⟩ : ∃ g, f = g + 1 := ⟨f - 1, by omega⟩
    rw [syntagmlaw08_WordsSpace.l2, if_neg (by rw [List.length_map]; omega)]
  | succ d ih =>
    intro i f hd hi hf hb
    obtain ⟨f, rfl⟩ : ∃ g, f = g + 1 := ⟨f - 1, by omega⟩
    have h1 : i < l.length := by omega
    have h2 : i < m.length := by omega
    have hk : (m[i]).kt = (l[i]).kt := by
      have := congrArg (fun x => x[i]?) h
      simp only [List.getElem?_map, List.getElem?_eq_getElem h1, List.getElem?_eq_getElem h2, Option.map_some, Option.some.injEq] at this
      exact this
    unfold W.kt at hk
    injection hk with ha hb'
    rw [syntagmlaw08_WordsSpace.l2, if_pos (by rw [List.length_map]; omega), if_pos (by omega), if_pos (by rw [List.length_map]; omega), rd_map _ _ h1, rd_map _ _ h2]
    have e1 : (toS m[i]).f1.toList = (toS l[i]).f1.toList := by show (mkB _).toList = (mkB _).toList; rw [hb']
    have e2 : (toS m[i]).f0 = (toS l[i]).f0 := by show ((_ : Nat) : Int) = ((_ : Nat) : Int); rw [ha]
    rw [if_pos e1, if_pos e2, w64s i (by omega)]
    exact ih (i + 1) f (by omega) (by omega) (by omega) hb

theorem sp_up (l m : List W) (e g at_ : Int) (hle : ∀ w ∈ l, w.a ≤ 100000) (hm : e = 0 → g = 0 ∧ m.map W.kt = l.map W.kt) (ha : e ≠ 0 → 3 ≤ at_) : ∀ (d i f : Nat), l.length - i = d → i ≤ l.length → d + l.length + 3 < f → l.length ≤ 30000 →
    syntagmlaw08_WordsSpace.l1 f true (l.map toS) e (m.map toS) g ((l.map (·.up 3)).map toS) at_ (i : Int) = some true := by
  intro d
  induction d with
  | zero =>
    intro i f hd hi hf hb
    obtain ⟨f, rfl⟩ : ∃ g, f = g + 2 := ⟨f - 2, by omega⟩
    rw [syntagmlaw08_WordsSpace.l1, if_neg (by rw [List.length_map]; omega)]
    by_cases he : e = 0
    · obtain ⟨hg, hk⟩ := hm he
      have hlen : m.length = l.length := by have := congrArg List.length hk; simpa using this
      rw [if_pos he, if_pos hg, List.length_map, List.length_map, hlen, show (((l.length : Int)) != (l.length : Int)) = false by simp, syntagmlaw08_WordsSpace.j4, if_neg (by decide)]
      exact sp_kind l m hk 0 l.length 0 f (by omega) (by omega) (by omega) hb
    · rw [if_neg he, if_pos rfl, decide_eq_true (show at_ ≥ 3 from ha he)]
  | succ d ih =>
    intro i f hd hi hf hb
    obtain ⟨f, rfl⟩ : ∃ g, f = g + 1 := ⟨f - 1, by omega⟩
    have h1 : i < l.length := by omega
    have h2 : i < (l.map (·.up 3)).length := by rw [List.length_map]; omega
    have e0 : (l.map (·.up 3))[i] = (l[i]).up 3 := by simp
    have hle1 := hle l[i] (List.getElem_mem h1)
    rw [syntagmlaw08_WordsSpace.l1, if_pos (by rw [List.length_map]; omega), if_pos (by omega), if_pos (by rw [List.length_map, List.length_map]; omega), rd_map _ _ h1, rd_map _ _ h2, e0]
    have e1 : (toS ((l[i]).up 3)).f1.toList = (toS l[i]).f1.toList := rfl
    have e2 : (toS ((l[i]).up 3)).f0 = (toS l[i]).f0 := rfl
    have e3 : (toS ((l[i]).up 3)).f3 = wrap64 ((toS l[i]).f3 + 3) := by
      show (((l[i]).a + 3 : Nat) : Int) = wrap64 ((((l[i]).a : Nat) : Int) + 3)
      rw [w64 (by omega) (by omega)]; omega
    rw [if_pos e1, if_pos e2, if_pos e3, w64s i (by omega)]
    exact ih (i + 1) f (by omega) (by omega) (by omega) hb

theorem rd_many (k : Nat) : ∀ (l : Bytes) (p : Nat) (en : Bool), (Wd.rd k l p en).1.length ≤ l.length + 1 := by
  induction k with
  | zero => intro l p en; simp [Wd.rd]
  | succ k ih =>
    intro l p en
    cases l with
    | nil => rw [Wd.rd]; cases en <;> simp
    | cons b r =>
      rw [rd_step]
      rcases one_long b r with ⟨e, he, _⟩ | ⟨h1, h2⟩
      · rw [he]; simp
      · cases ho : one b r with
        | skip n =>
          rw [ho] at h1 h2
          simp only [Tok.long] at h1 h2
          have := ih ((b :: r).drop n) (p + n) en
          rw [List.length_drop, List.length_cons] at this
          show (Wd.rd k _ _ _).1.length ≤ _
          rw [List.length_cons]; omega
        | nl =>
          have := ih r (p + 1) true
          show ((if en then [] else [_]) ++ _ : List W).length ≤ _
          rw [List.length_append, List.length_cons]
          cases en <;> simp <;> omega
        | word kd t n m =>
          rw [ho] at h1 h2
          simp only [Tok.long] at h1 h2
          have := ih ((b :: r).drop m) (p + m) false
          rw [List.length_drop, List.length_cons] at this
          show (_ :: _ : List W).length ≤ _
          rw [List.length_cons, List.length_cons]; omega
        | err x => simp

theorem sp_last (a0 a1 : ByteArray) (h0 : a0.size ≤ 400) (h1 : a1.size ≤ 400) (hm : ∀ x ∈ a1.data.toList, x ≠ 10) : ∀ (d i f : Nat), a1.size - i = d → i ≤ a1.size → d + 2000 < f →
    syntagmlaw08_WordsSpace.l0 f a0 a1 true (i : Int) = some true := by
  intro d
  induction d with
  | zero =>
    intro i f hd hi hf
    obtain ⟨f, rfl⟩ : ∃ g, f = g + 2 := ⟨f - 2, by omega⟩
    have hal : a0.data.toList.length = a0.size := (Lib.size_eq a0).symm
    have hal1 : a1.data.toList.length = a1.size := (Lib.size_eq a1).symm
    have s1 : (a0 ++ (⟨#[32, 35, 32]⟩ : ByteArray)).size = a0.size + 3 := by rw [ByteArray.size_append]; rfl
    have s2 : ((a0 ++ (⟨#[32, 35, 32]⟩ : ByteArray)) ++ a1).size = a0.size + 3 + a1.size := by rw [ByteArray.size_append, s1]
    have s3 : ((⟨#[9, 32, 13]⟩ : ByteArray) ++ a0).size = 3 + a0.size := by rw [ByteArray.size_append]; rfl
    obtain ⟨R, hR⟩ : ∃ R, R = Wd.rd (a0.size + 1) a0.data.toList 0 true := ⟨_, rfl⟩
    have w0 : wordsL a0 = R := by rw [words_short_is _ (by omega), hR]
    have w3 : wordsL ((⟨#[9, 32, 13]⟩ : ByteArray) ++ a0) = upR 3 R := by
      rw [words_short_is _ (by omega), s3, app_data, hR]
      have := rd_blanks a0.data.toList (a0.size + 1) (by omega)
      rw [hal, show a0.size + 4 = 3 + a0.size + 1 by omega] at this
      exact this
    have w2 : R.2.1 = 0 → (wordsL ((a0 ++ (⟨#[32, 35, 32]⟩ : ByteArray)) ++ a1)).2.1 = 0 ∧ (wordsL ((a0 ++ (⟨#[32, 35, 32]⟩ : ByteArray)) ++ a1)).1.map W.kt = R.1.map W.kt := by
      intro he
      rw [words_short_is _ (by omega), s2, app_data, app_data, hR]
      have := rd_remark (32 :: a1.data.toList) (fun x hx => by
        rcases List.mem_cons.1 hx with rfl | hx
        · decide
        · exact hm x hx) (a0.size + 1) a0.data.toList 0 0 true (a0.size + 3 + a1.size + 1) (by omega) (by rw [← hR]; exact he) (by simp; omega)
      rw [List.append_assoc]
      exact ⟨this.2, this.1⟩
    have hlen : R.1.length ≤ 401 := by have := rd_many (a0.size + 1) a0.data.toList 0 true; rw [← hR] at this; omega
    have hle : ∀ w ∈ R.1, w.a ≤ 100000 := fun w hw => by
      have := (rd_ord a0.data.toList (a0.size + 1) a0.data.toList 0 0 true (by omega) (List.drop_zero) (Nat.zero_le _) (Nat.zero_le _)).1
      rw [← hR] at this
      have := ord_le _ _ _ _ this w hw
      omega
    rw [syntagmlaw08_WordsSpace.l0, if_neg (by omega), words_f _ (by omega), Option.bind_some, if_pos (by omega), if_pos (by omega), words_f _ (by omega), Option.bind_some, if_pos (by omega), words_f _ (by omega), Option.bind_some]
    unfold wordsS
    rw [w0, w3]
    dsimp only [upR]
    refine (if_pos (by simp)).trans ?_
    rw [show ((R.2.1 : Int) != (R.2.1 : Int)) = false by simp, syntagmlaw08_WordsSpace.j2, if_neg (by decide)]
    refine sp_up R.1 _ _ _ _ hle (fun he => ?_) (fun he => ?_) R.1.length 0 f (by omega) (by omega) (by omega) (by omega)
    · obtain ⟨g1, g2⟩ := w2 (by omega)
      exact ⟨by rw [g1]; rfl, g2⟩
    · rw [if_neg (by omega)]; omega
  | succ d ih =>
    intro i f hd hi hf
    obtain ⟨f, rfl⟩ : ∃ g, f = g + 1 := ⟨f - 1, by omega⟩
    have hlt : i < a1.size := by omega
    have hb : bt a1 (i : Int) = ((a1[i]'hlt).toNat : Int) := by unfold bt; rw [Int.toNat_natCast, dif_pos hlt]
    have hne : a1[i]'hlt ≠ 10 := hm _ (by
      have hh : i < a1.data.toList.length := by rw [← Lib.size_eq]; exact hlt
      rw [← byte_eq a1 i hlt]
      exact List.getElem_mem hh)
    have hnei : ¬ bt a1 (i : Int) = 10 := by
      rw [hb]
      intro h
      exact hne (UInt8.toNat_inj.1 (by show _ = 10; omega))
    rw [syntagmlaw08_WordsSpace.l0, if_pos (by omega), if_pos (by omega), if_neg hnei, w64s i (by omega)]
    exact ih (i + 1) f (by omega) (by omega) (by omega)

theorem sp_ten (a0 a1 : ByteArray) (j : Nat) (hj : j < a1.size) (h10 : a1[j]'hj = 10) (h1 : a1.size ≤ 400) : ∀ (d i f : Nat), j - i = d → i ≤ j → d < f →
    syntagmlaw08_WordsSpace.l0 f a0 a1 true (i : Int) = some true := by
  intro d
  induction d with
  | zero =>
    intro i f hd hi hf
    obtain ⟨f, rfl⟩ : ∃ g, f = g + 1 := ⟨f - 1, by omega⟩
    obtain rfl : i = j := by omega
    have hb : bt a1 (i : Int) = 10 := by unfold bt; rw [Int.toNat_natCast, dif_pos hj, h10]; rfl
    rw [syntagmlaw08_WordsSpace.l0, if_pos (by omega), if_pos (by omega), if_pos hb]
  | succ d ih =>
    intro i f hd hi hf
    obtain ⟨f, rfl⟩ : ∃ g, f = g + 1 := ⟨f - 1, by omega⟩
    rw [syntagmlaw08_WordsSpace.l0, if_pos (by omega), if_pos (by omega)]
    split
    · rfl
    · rw [w64s i (by omega)]
      exact ih (i + 1) f (by omega) (by omega) (by omega)

theorem WordsSpace (a0 a1 : ByteArray) (w0 : a0.size ≤ maxLen) (w1 : a1.size ≤ maxLen) : ∃ k, syntagmlaw08_WordsSpace.f k a0 a1 = some true := by
  refine ⟨3001, ?_⟩
  unfold syntagmlaw08_WordsSpace.f
  rw [works_is, Option.bind_some, if_pos rfl]
  by_cases h0 : (a0.size : Int) > 400
  · rw [if_pos h0, syntagmlaw08_WordsSpace.j0, if_pos rfl]
  rw [if_neg h0]
  by_cases h1 : (a1.size : Int) > 400
  · rw [decide_eq_true h1, syntagmlaw08_WordsSpace.j0, if_pos rfl]
  rw [decide_eq_false h1, syntagmlaw08_WordsSpace.j0, if_neg (by decide)]
  by_cases hm : ∀ x ∈ a1.data.toList, x ≠ 10
  · exact sp_last a0 a1 (by omega) (by omega) hm a1.size 0 3000 (by omega) (by omega) (by omega)
  · simp only [Classical.not_forall] at hm
    obtain ⟨x, hx, h10⟩ := hm
    obtain ⟨j, hj, rfl⟩ := List.mem_iff_getElem.1 hx
    have hj2 : j < a1.size := by rw [Lib.size_eq]; exact hj
    exact sp_ten a0 a1 j hj2 (by rw [byte_eq a1 j hj2] at h10; simpa using h10) (by omega) j 0 3000 (by omega) (by omega) (by omega)
end Go.Proofs.YtageaahlkiaigaaDoor.Pure
