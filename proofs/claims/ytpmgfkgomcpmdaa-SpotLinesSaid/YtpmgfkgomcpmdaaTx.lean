/- Lines and columns of a text, plain: where a place is, lines, a line's begin. No program. No conditions. -/
import Derived.Test.YtpmgfkgomcpmdaaFlw
import Derived.Lib.IndexLaws
import Derived.Lib.LastIndexByte
import Derived.Lib.Strings
namespace Go.Proofs.Ytpmgfkgomcpmdaa.Fl

abbrev Bytes := List UInt8
def stp (p : Nat × Nat) (c : UInt8) : Nat × Nat := if c = 10 then (0, p.2 + 1) else (p.1 + 1, p.2)
/-- Column and line behind some bytes. -/
def st (l : Bytes) : Nat × Nat := l.foldl stp (0, 0)

theorem st_snoc (l : Bytes) (c : UInt8) : st (l ++ [c]) = stp (st l) c := by unfold st; rw [List.foldl_append]; rfl
theorem fold_st (l : Bytes) : ∀ p : Nat × Nat, l.foldl stp p = if (st l).2 = 0 then (p.1 + (st l).1, p.2) else ((st l).1, p.2 + (st l).2) := by
  induction l with
  | nil => intro p; simp [st]
  | cons c l ih =>
    intro p
    have e : st (c :: l) = l.foldl stp (stp (0, 0) c) := rfl
    rw [e, List.foldl_cons, ih (stp p c), ih (stp (0, 0) c)]
    unfold stp
    by_cases hc : c = 10
    · simp only [hc, if_true]
      by_cases h0 : (st l).2 = 0
      · simp [h0]
      · simp [h0]; omega
    · simp only [hc, if_false]
      by_cases h0 : (st l).2 = 0
      · simp [h0]; omega
      · simp [h0]
theorem st_append (a b : Bytes) : st (a ++ b) = if (st b).2 = 0 then ((st a).1 + (st b).1, (st a).2) else ((st b).1, (st a).2 + (st b).2) := by
  have : st (a ++ b) = b.foldl stp (st a) := by unfold st; rw [List.foldl_append]
  rw [this, fold_st]
theorem st_count (l : Bytes) : (st l).2 = l.count 10 := by
  induction l with
  | nil => rfl
  | cons c l ih =>
    have e : st (c :: l) = st ([c] ++ l) := rfl
    rw [e, st_append, List.count_cons, ← ih]
    have : st [c] = stp (0, 0) c := rfl
    rw [this]; unfold stp
    by_cases hc : c = 10
    · subst hc; simp
      by_cases h0 : (st l).2 = 0 <;> simp [h0]; omega
    · simp only [hc, if_false]
      have hb : (c == 10) = false := by simpa using hc
      by_cases h0 : (st l).2 = 0 <;> simp [h0, hb]
theorem st_col (l : Bytes) (h : (st l).2 = 0) : (st l).1 = l.length := by
  induction l with
  | nil => rfl
  | cons c l ih =>
    have e : st (c :: l) = st ([c] ++ l) := rfl
    have e2 : st [c] = stp (0, 0) c := rfl
    rw [e, st_append, e2] at h ⊢
    unfold stp at h ⊢
    by_cases hc : c = 10
    · simp only [hc, if_true] at h
      split at h <;> simp at h
    · simp only [hc, if_false] at h ⊢
      by_cases h0 : (st l).2 = 0
      · simp [h0, ih h0]; omega
      · simp [h0] at h
theorem st_le (l : Bytes) : (st l).1 ≤ l.length ∧ (st l).2 ≤ l.length := by
  constructor
  · induction l with
    | nil => exact Nat.le_refl _
    | cons c l ih =>
      have e : st (c :: l) = st ([c] ++ l) := rfl
      have e2 : st [c] = stp (0, 0) c := rfl
      rw [e, st_append, e2]
      unfold stp
      rw [List.length_cons]
      split <;> split <;> simp <;> omega
  · rw [st_count]; exact List.count_le_length
theorem st_le_take (l : Bytes) (k : Nat) : (st (l.take k)).1 ≤ l.length ∧ (st (l.take k)).2 ≤ l.length := by
  have := st_le (l.take k)
  have h : (l.take k).length ≤ l.length := by rw [List.length_take]; omega
  omega
theorem take_split (l : Bytes) (i j : Nat) (h : i ≤ j) : l.take j = l.take i ++ (l.drop i).take (j - i) := by
  have := List.take_add (l := l) (i := i) (j := j - i)
  rw [show i + (j - i) = j by omega] at this
  exact this
theorem st_lt (l : Bytes) (i j : Nat) (h : i < j) (hj : j ≤ l.length) : st (l.take i) ≠ st (l.take j) := by
  rw [take_split l i j (by omega), st_append]
  have hl : ((l.drop i).take (j - i)).length = j - i := by rw [List.length_take, List.length_drop]; omega
  intro e
  by_cases h0 : (st ((l.drop i).take (j - i))).2 = 0
  · rw [if_pos h0, st_col _ h0, hl] at e
    have := congrArg Prod.fst e
    simp at this; omega
  · rw [if_neg h0] at e
    have := congrArg Prod.snd e
    simp at this; omega
theorem st_inj (l : Bytes) (i j : Nat) (hi : i ≤ l.length) (hj : j ≤ l.length) (e : st (l.take i) = st (l.take j)) : i = j := by
  rcases Nat.lt_trichotomy i j with h | h | h
  · exact absurd e (st_lt l i j h hj)
  · exact h
  · exact absurd e.symm (st_lt l j i h hi)

/-- The place of a spot. -/
def isAt (l : Bytes) (x y : Nat) (i : Nat) : Bool := feq (F (st (l.take i)).1) x && feq (F (st (l.take i)).2) y
def atR (l : Bytes) (x y : Nat) : Int := match (List.range (l.length + 1)).find? (isAt l x y) with | some i => i | none => -1

theorem isAt_one (l : Bytes) (x y i j : Nat) (hl : l.length < 2 ^ 52) (hi : i ≤ l.length) (hj : j ≤ l.length) (a : isAt l x y i = true) (b : isAt l x y j = true) : i = j := by
  unfold isAt at a b
  rw [Bool.and_eq_true] at a b
  have h1 := st_le_take l i
  have h2 := st_le_take l j
  have e1 := IsN_one ((feq_iff' x _ (by omega)).1 a.1) ((feq_iff' x _ (by omega)).1 b.1)
  have e2 := IsN_one ((feq_iff' y _ (by omega)).1 a.2) ((feq_iff' y _ (by omega)).1 b.2)
  exact st_inj l i j hi hj (Prod.ext e1 e2)
theorem atR_some (l : Bytes) (x y i : Nat) (hl : l.length < 2 ^ 52) (hi : i ≤ l.length) (a : isAt l x y i = true) : atR l x y = i := by
  unfold atR
  cases h : (List.range (l.length + 1)).find? (isAt l x y) with
  | none =>
    have := List.find?_eq_none.1 h i (by simp; omega)
    rw [a] at this; exact absurd rfl this
  | some j =>
    have hj := List.find?_some h
    have hm := List.mem_of_find?_eq_some h
    have : j ≤ l.length := by simp at hm; omega
    rw [isAt_one l x y i j hl hi this a hj]
theorem atR_none (l : Bytes) (x y : Nat) (a : ∀ i, i ≤ l.length → isAt l x y i = false) : atR l x y = -1 := by
  unfold atR
  have : (List.range (l.length + 1)).find? (isAt l x y) = none := List.find?_eq_none.2 fun i hi => by
    rw [a i (by simp at hi; omega)]; simp
  rw [this]
theorem atR_cases (l : Bytes) (x y : Nat) : (atR l x y = -1 ∧ ∀ i, i ≤ l.length → isAt l x y i = false) ∨ ∃ i, i ≤ l.length ∧ isAt l x y i = true ∧ atR l x y = i := by
  unfold atR
  cases h : (List.range (l.length + 1)).find? (isAt l x y) with
  | none =>
    refine .inl ⟨rfl, fun i hi => ?_⟩
    have := List.find?_eq_none.1 h i (by simp; omega)
    simpa using this
  | some j =>
    have hm := List.mem_of_find?_eq_some h
    exact .inr ⟨j, by simp at hm; omega, List.find?_some h, rfl⟩

theorem lastIdx_st (s : ByteArray) : ∀ k, k ≤ s.size → ((st (s.data.toList.take k)).1 : Int) = (k : Int) - 1 - Lib.lastIdx s 10 k := by
  intro k
  induction k with
  | zero => intro _; simp [st, Lib.lastIdx]
  | succ k ih =>
    intro hk
    have hlt : k < s.data.toList.length := by have := Lib.size_eq s; omega
    rw [List.take_succ_eq_append_getElem hlt, st_snoc]
    have hb : s.data[k]! = s.data.toList[k] := by
      rw [getElem!_pos s.data k (by simpa using hlt)]; simp
    unfold stp Lib.lastIdx
    rw [hb]
    by_cases hc : s.data.toList[k] = 10
    · rw [if_pos hc, if_pos (by rw [hc]; rfl)]; simp
    · have hn : ¬ ((s.data.toList[k]).toNat : Int) = 10 := fun e => hc (by
        apply UInt8.toNat_inj.1
        have : (10 : UInt8).toNat = 10 := rfl
        omega)
      rw [if_neg hc, if_neg hn]
      have := ih (by omega)
      simp; omega

/-- The lines of a text. -/
def cutL : Bytes → List Bytes
  | [] => [[]]
  | c :: r => if c = 10 then [] :: cutL r else match cutL r with | h :: t => (c :: h) :: t | [] => [[c]]

theorem cutL_ne (l : Bytes) : ∃ h t, cutL l = h :: t := by
  cases l with
  | nil => exact ⟨_, _, rfl⟩
  | cons c r =>
    unfold cutL
    split
    · exact ⟨_, _, rfl⟩
    · cases cutL r with
      | nil => exact ⟨_, _, rfl⟩
      | cons h t => exact ⟨_, _, rfl⟩
theorem cutL_len (l : Bytes) : (cutL l).length = l.count 10 + 1 := by
  induction l with
  | nil => rfl
  | cons c r ih =>
    obtain ⟨h, t, e⟩ := cutL_ne r
    unfold cutL
    rw [e] at ih ⊢
    by_cases hc : c = 10
    · subst hc; simp only [if_true, List.length_cons, List.count_cons_self] at ih ⊢; omega
    · have hb : (c == 10) = false := by simpa using hc
      simp only [hc, if_false, List.length_cons, List.count_cons, hb] at ih ⊢; simp; omega
theorem cutL_head (l : Bytes) : (cutL l)[0]? = some (l.takeWhile (· ≠ 10)) := by
  induction l with
  | nil => rfl
  | cons c r ih =>
    obtain ⟨h, t, e⟩ := cutL_ne r
    unfold cutL
    rw [e] at ih ⊢
    by_cases hc : c = 10
    · subst hc; simp
    · simp only [hc, if_false]
      simp only [List.getElem?_cons_zero, Option.some.injEq] at ih ⊢
      rw [ih, List.takeWhile_cons_of_pos (by simpa using hc)]
theorem cutL_sep (a b : Bytes) : cutL (a ++ 10 :: b) = cutL a ++ cutL b := by
  induction a with
  | nil => simp [cutL]
  | cons c a ih =>
    rw [List.cons_append]
    obtain ⟨h, t, e⟩ := cutL_ne a
    show (if c = 10 then [] :: cutL (a ++ 10 :: b) else match cutL (a ++ 10 :: b) with | h :: t => (c :: h) :: t | [] => [[c]]) = (if c = 10 then [] :: cutL a else match cutL a with | h :: t => (c :: h) :: t | [] => [[c]]) ++ cutL b
    rw [ih, e]
    by_cases hc : c = 10 <;> simp [hc]
theorem cutL_at (l : Bytes) (b n : Nat) (hb : b ≤ l.length) (h : st (l.take b) = (0, n)) : (cutL l)[n]? = some ((l.drop b).takeWhile (· ≠ 10)) := by
  by_cases h0 : b = 0
  · subst h0
    have : n = 0 := by have := congrArg Prod.snd h; simpa [st] using this.symm
    subst this
    exact cutL_head l
  · obtain ⟨k, rfl⟩ : ∃ k, b = k + 1 := ⟨b - 1, by omega⟩
    have hlt : k < l.length := by omega
    rw [List.take_succ_eq_append_getElem hlt, st_snoc] at h
    have hc : l[k] = 10 := by
      unfold stp at h
      split at h
      · assumption
      · have := congrArg Prod.fst h; simp at this
    have h2 : (st (l.take k)).2 + 1 = n := by
      unfold stp at h; rw [if_pos hc] at h
      exact congrArg Prod.snd h
    have hs : l = l.take k ++ 10 :: l.drop (k + 1) := by
      conv => lhs; rw [← List.take_append_drop k l]
      rw [← hc, ← List.drop_eq_getElem_cons hlt]
    have hlen : (cutL (l.take k)).length = n := by rw [cutL_len, ← st_count, h2]
    conv => lhs; rw [hs]
    rw [cutL_sep, List.getElem?_append_right (by omega), hlen, Nat.sub_self]
    exact cutL_head _

theorem tw_all (p : UInt8 → Bool) (l : Bytes) (h : ∀ x ∈ l, p x = true) : l.takeWhile p = l := by
  induction l with
  | nil => rfl
  | cons a l ih => rw [List.takeWhile_cons_of_pos (h a (by simp)), ih fun x hx => h x (by simp [hx])]
theorem tw_mem (p : UInt8 → Bool) (l : Bytes) : ∀ x ∈ l.takeWhile p, p x = true := by
  induction l with
  | nil => intro x hx; simp at hx
  | cons a l ih =>
    intro x hx
    rw [List.takeWhile_cons] at hx
    split at hx
    · rename_i ha
      rcases List.mem_cons.1 hx with rfl | hx
      · exact ha
      · exact ih x hx
    · simp at hx
theorem takeWhile_of_none (l : Bytes) (h : Lib.indexByte l 10 = -1) : l.takeWhile (· ≠ 10) = l := by
  have := Lib.indexByte_none h
  apply tw_all
  intro x hx
  obtain ⟨k, hk⟩ := List.mem_iff_getElem?.1 hx
  have hn := this k
  rw [hk] at hn
  simpa using hn
theorem takeWhile_of_some (l : Bytes) (o : Nat) (h : Lib.indexByte l 10 = o) : l.takeWhile (· ≠ 10) = l.take o := by
  obtain ⟨h1, h2⟩ := Lib.indexByte_some h
  have hlt : o < l.length := (List.getElem?_eq_some_iff.1 h1).1
  have hc : l[o] = 10 := (List.getElem?_eq_some_iff.1 h1).2
  conv => lhs; rw [← List.take_append_drop o l, List.drop_eq_getElem_cons hlt]
  rw [List.takeWhile_append_of_pos, List.takeWhile_cons_of_neg (by simp [hc]), List.append_nil]
  intro x hx
  obtain ⟨k, hk⟩ := List.mem_iff_getElem?.1 hx
  have hko : k < o := by
    have := (List.getElem?_eq_some_iff.1 hk).1
    rw [List.length_take] at this; omega
  rw [List.getElem?_take_of_lt hko] at hk
  have := h2 k hko
  rw [hk] at this
  simpa using this
theorem indexByte_has (l : Bytes) (h : l.count 10 ≠ 0) : ∃ o : Nat, Lib.indexByte l 10 = o ∧ o < l.length := by
  have hg := Lib.indexByte_ge l 10
  by_cases hn : Lib.indexByte l 10 = -1
  · exfalso
    apply h
    apply List.count_eq_zero.2
    intro hm
    obtain ⟨k, hk⟩ := List.mem_iff_getElem?.1 hm
    exact Lib.indexByte_none hn k hk
  · obtain ⟨o, ho⟩ : ∃ o : Nat, Lib.indexByte l 10 = o := ⟨(Lib.indexByte l 10).toNat, by omega⟩
    exact ⟨o, ho, (List.getElem?_eq_some_iff.1 (Lib.indexByte_some ho).1).1⟩

/-- From a line's begin to the next one's. -/
theorem st_next (l : Bytes) (b n o : Nat) (hb : b ≤ l.length) (h : st (l.take b) = (0, n)) (ho : Lib.indexByte (l.drop b) 10 = o) : b + o + 1 ≤ l.length ∧ st (l.take (b + o + 1)) = (0, n + 1) := by
  obtain ⟨h1, h2⟩ := Lib.indexByte_some ho
  have hlt : o < (l.drop b).length := (List.getElem?_eq_some_iff.1 h1).1
  have hc : (l.drop b)[o] = 10 := (List.getElem?_eq_some_iff.1 h1).2
  rw [List.length_drop] at hlt
  refine ⟨by omega, ?_⟩
  rw [take_split l b (b + o + 1) (by omega), show b + o + 1 - b = o + 1 by omega, List.take_succ_eq_append_getElem (by rw [List.length_drop]; omega), hc, st_append, st_snoc, h]
  have hz : (st ((l.drop b).take o)).2 = 0 := by
    rw [st_count]
    apply List.count_eq_zero.2
    intro hm
    obtain ⟨k, hk⟩ := List.mem_iff_getElem?.1 hm
    have hko : k < o := by
      have := (List.getElem?_eq_some_iff.1 hk).1
      rw [List.length_take] at this; omega
    rw [List.getElem?_take_of_lt hko] at hk
    exact h2 k hko hk
  unfold stp
  rw [if_pos rfl, hz]; simp

/-- A place on a line. -/
theorem st_on (l : Bytes) (b n k : Nat) (hb : b ≤ l.length) (h : st (l.take b) = (0, n)) (hk : k ≤ ((l.drop b).takeWhile (· ≠ 10)).length) : b + k ≤ l.length ∧ st (l.take (b + k)) = (k, n) := by
  have hp := List.takeWhile_prefix (fun x : UInt8 => decide (x ≠ 10)) (l := l.drop b)
  obtain ⟨r, hr⟩ := hp
  have hlen : ((l.drop b).takeWhile (· ≠ 10)).length ≤ (l.drop b).length := by
    have := congrArg List.length hr; rw [List.length_append] at this; omega
  rw [List.length_drop] at hlen
  refine ⟨by omega, ?_⟩
  rw [take_split l b (b + k) (by omega), show b + k - b = k by omega, st_append, h]
  have e : (l.drop b).take k = ((l.drop b).takeWhile (· ≠ 10)).take k := by
    conv => lhs; rw [← hr]
    rw [List.take_append_of_le_length hk]
  have hz : (st ((l.drop b).take k)).2 = 0 := by
    rw [st_count, e]
    apply List.count_eq_zero.2
    intro hm
    have := tw_mem _ _ _ (List.mem_of_mem_take hm)
    simp at this
  have hl : ((l.drop b).take k).length = k := by rw [List.length_take, List.length_drop]; omega
  rw [if_pos hz, st_col _ hz, hl]; simp

/-- Each place is on its line. -/
theorem st_line (l : Bytes) (i b : Nat) (hi : i ≤ l.length) (hb : b ≤ l.length) (h : st (l.take b) = (0, (st (l.take i)).2)) : (st (l.take i)).1 ≤ ((l.drop b).takeWhile (· ≠ 10)).length ∧ i = b + (st (l.take i)).1 := by
  rcases Nat.lt_or_ge i b with hlt | hge
  · exfalso
    rw [take_split l i b (by omega), st_append] at h
    have hl : ((l.drop i).take (b - i)).length = b - i := by rw [List.length_take, List.length_drop]; omega
    by_cases h0 : (st ((l.drop i).take (b - i))).2 = 0
    · rw [if_pos h0, st_col _ h0, hl] at h
      have := congrArg Prod.fst h
      simp at this; omega
    · rw [if_neg h0] at h
      have := congrArg Prod.snd h
      simp at this; omega
  · have hs := take_split l b i hge
    have hl : ((l.drop b).take (i - b)).length = i - b := by rw [List.length_take, List.length_drop]; omega
    have hst := congrArg st hs
    rw [st_append, h] at hst
    by_cases h0 : (st ((l.drop b).take (i - b))).2 = 0
    · rw [if_pos h0, st_col _ h0, hl] at hst
      have hcol : (st (l.take i)).1 = i - b := by rw [hst]; simp
      have hno : ∀ x ∈ (l.drop b).take (i - b), x ≠ 10 := by
        rw [st_count] at h0
        intro x hx e
        subst e
        exact List.count_eq_zero.1 h0 hx
      refine ⟨?_, by omega⟩
      rw [hcol]
      have : (l.drop b).takeWhile (· ≠ 10) = (l.drop b).take (i - b) ++ ((l.drop b).drop (i - b)).takeWhile (· ≠ 10) := by
        conv => lhs; rw [← List.take_append_drop (i - b) (l.drop b)]
        rw [List.takeWhile_append_of_pos]
        intro x hx; simpa using hno x hx
      rw [this, List.length_append, hl]; omega
    · rw [if_neg h0] at hst
      exfalso
      have := congrArg Prod.snd hst
      simp at this; omega

/-- Each line has a begin. -/
theorem st_begin (l : Bytes) : ∀ n, n ≤ l.count 10 → ∃ b, b ≤ l.length ∧ st (l.take b) = (0, n) := by
  intro n
  induction n with
  | zero => intro _; exact ⟨0, Nat.zero_le _, by simp [st]⟩
  | succ n ih =>
    intro hn
    obtain ⟨b, hb, h⟩ := ih (by omega)
    have hc : (l.drop b).count 10 ≠ 0 := by
      have e : l.count 10 = (l.take b).count 10 + (l.drop b).count 10 := by rw [← List.count_append, List.take_append_drop]
      rw [← st_count (l.take b), h] at e
      dsimp only at e; omega
    obtain ⟨o, ho, _⟩ := indexByte_has _ hc
    exact ⟨_, st_next l b n o hb h ho⟩

/-- All lines, one behind the other. -/
def joinL : List Bytes → Bytes
  | [] => []
  | [a] => a
  | a :: b :: t => a ++ 10 :: joinL (b :: t)
theorem joinL_cut (l : Bytes) : joinL (cutL l) = l := by
  induction l with
  | nil => rfl
  | cons c r ih =>
    obtain ⟨h, t, e⟩ := cutL_ne r
    unfold cutL
    rw [e] at ih ⊢
    by_cases hc : c = 10
    · subst hc; simp only [if_true]; show [] ++ 10 :: joinL (h :: t) = _; rw [ih]; rfl
    · simp only [hc, if_false]
      cases t with
      | nil => show c :: h = _; rw [show h = r from ih]
      | cons t0 t => show c :: h ++ 10 :: joinL (t0 :: t) = _; rw [← ih]; rfl
theorem joinL_snoc (a : List Bytes) (b : Bytes) (h : a ≠ []) : joinL (a ++ [b]) = joinL a ++ 10 :: b := by
  induction a with
  | nil => exact absurd rfl h
  | cons x a ih =>
    cases a with
    | nil => rfl
    | cons y a =>
      show x ++ 10 :: joinL ((y :: a) ++ [b]) = (x ++ 10 :: joinL (y :: a)) ++ 10 :: b
      rw [ih (by simp)]; simp
theorem cutL_no (l : Bytes) : ∀ x ∈ cutL l, (10 : UInt8) ∉ x := by
  induction l with
  | nil => intro x hx; simp [cutL] at hx; subst hx; simp
  | cons c r ih =>
    obtain ⟨h, t, e⟩ := cutL_ne r
    unfold cutL
    rw [e] at ih ⊢
    by_cases hc : c = 10
    · simp only [hc, if_true]
      intro x hx
      rcases List.mem_cons.1 hx with rfl | hx
      · simp
      · exact ih x hx
    · simp only [hc, if_false]
      intro x hx
      rcases List.mem_cons.1 hx with rfl | hx
      · have := ih h (by simp)
        simp [this, Ne.symm hc]
      · exact ih x (by simp [hx])
end Go.Proofs.Ytpmgfkgomcpmdaa.Fl
