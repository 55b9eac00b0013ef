/- The words of a text, plain: one word at a text's beginning, all words, and what the laws ask of them. No program. No conditions. -/
import Init.Data.List.Lemmas
set_option linter.unusedVariables false
set_option linter.unusedSimpArgs false
namespace Go.Proofs.YtageaahlkiaigaaDoor.Wd

abbrev Bytes := List UInt8
def letterB (c : UInt8) : Bool := (decide (97 ≤ c) && decide (c ≤ 122)) || (decide (65 ≤ c) && decide (c ≤ 90)) || c == 95
def digitB (c : UInt8) : Bool := decide (48 ≤ c) && decide (c ≤ 57)
def innerB (c : UInt8) : Bool := letterB c || digitB c
def markB (c : UInt8) : Bool := c == 61 || c == 40 || c == 41 || c == 59 || c == 44
def blankB (c : UInt8) : Bool := c == 32 || c == 9 || c == 13
def restB (c : UInt8) : Bool := c != 10

/-- A regex behind its slash: its text, and how many bytes it takes with its last slash. -/
def rx : Bytes → Option (Bytes × Nat)
  | [] => none
  | [c] => if c = 47 then some ([], 1) else none
  | c :: d :: r => if c = 10 then none else if c = 47 then some ([], 1) else if c = 92 then (if d = 10 then none else (rx r).map fun x => ((if d = 47 then [47] else [92, d]) ++ x.1, x.2 + 2)) else (rx (d :: r)).map fun x => (c :: x.1, x.2 + 1)

/-- A number's value. -/
def valL (t : Bytes) : Nat := t.foldl (fun n c => n * 10 + (c.toNat - 48)) 0

inductive Tok where
  | skip (n : Nat)
  | nl
  | word (k : Nat) (t : Bytes) (n : Nat) (long : Nat)
  | err (e : Nat)

def one (b : UInt8) (r : Bytes) : Tok :=
  if blankB b then .skip 1
  else if b = 10 then .nl
  else if b = 35 then .skip ((b :: r).takeWhile restB).length
  else if letterB b then (if 32 < ((b :: r).takeWhile innerB).length then .err 4 else .word 0 ((b :: r).takeWhile innerB) 0 ((b :: r).takeWhile innerB).length)
  else if digitB b then (if 9 < ((b :: r).takeWhile digitB).length then .err 4 else .word 1 ((b :: r).takeWhile digitB) (valL ((b :: r).takeWhile digitB)) ((b :: r).takeWhile digitB).length)
  else if markB b then .word 2 [b] 0 1
  else if b = 47 then (match rx r with | some (t, m) => .word 3 t 0 (m + 1) | none => .err 5)
  else .err 5

/-- A word: its kind, its text, its number, where it stands. -/
structure W where
  k : Nat
  t : Bytes
  n : Nat
  a : Nat
deriving DecidableEq

/-- All words from a place on; 'en': is there none ahead, or is an end the last one; with the error's number, and its place. -/
def rd : Nat → Bytes → Nat → Bool → List W × Nat × Nat
  | 0, _, _, _ => ([], 0, 0)
  | k + 1, [], p, en => (if en then [] else [⟨4, [], 0, p⟩], 0, 0)
  | k + 1, b :: r, p, en => match one b r with
    | .skip n => rd k ((b :: r).drop n) (p + n) en
    | .nl => ((if en then [] else [⟨4, [], 0, p⟩]) ++ (rd k r (p + 1) true).1, (rd k r (p + 1) true).2)
    | .word kd t n m => (⟨kd, t, n, p⟩ :: (rd k ((b :: r).drop m) (p + m) false).1, (rd k ((b :: r).drop m) (p + m) false).2)
    | .err e => ([], e, p)

theorem tw_len (p : UInt8 → Bool) (l : Bytes) : (l.takeWhile p).length ≤ l.length := by
  induction l with
  | nil => exact Nat.le_refl _
  | cons a l ih =>
    rw [List.takeWhile_cons]
    split
    · simp; exact ih
    · simp
theorem tw_pos (p : UInt8 → Bool) (b : UInt8) (r : Bytes) (h : p b = true) : 0 < ((b :: r).takeWhile p).length := by
  rw [List.takeWhile_cons, if_pos h]; simp
theorem tw_app (p : UInt8 → Bool) (a : Bytes) (c : UInt8) (b : Bytes) (h : p c = false) : (a ++ c :: b).takeWhile p = a.takeWhile p := by
  induction a with
  | nil => rw [List.nil_append, List.takeWhile_cons, h]; rfl
  | cons x a ih =>
    rw [List.cons_append, List.takeWhile_cons, List.takeWhile_cons, ih]
theorem tw_take (p : UInt8 → Bool) (l : Bytes) : l.take (l.takeWhile p).length = l.takeWhile p := by
  induction l with
  | nil => rfl
  | cons a l ih =>
    rw [List.takeWhile_cons]
    split
    · simp [ih]
    · rfl
theorem tw_all (p : UInt8 → Bool) (l : Bytes) (h : ∀ x ∈ l, p x = true) : l.takeWhile p = l := by
  induction l with
  | nil => rfl
  | cons a l ih => rw [List.takeWhile_cons, if_pos (h a (by simp)), ih fun x hx => h x (by simp [hx])]
theorem tw_mem (p : UInt8 → Bool) (l : Bytes) : ∀ x ∈ l.takeWhile p, p x = true := by
  induction l with
  | nil => intro x hx; simp at hx
  | cons a l ih =>
    intro x hx
    rw [List.takeWhile_cons] at hx
    split at hx
    · rename_i ha
      rcases List.mem_cons.1 hx with rfl | hx
      · exact ha
      · exact ih x hx
    · simp at hx
theorem tw_app_all (p : UInt8 → Bool) (a b : Bytes) (h : ∀ x ∈ a, p x = true) : (a ++ b).takeWhile p = a ++ b.takeWhile p := by
  induction a with
  | nil => rfl
  | cons x a ih => rw [List.cons_append, List.takeWhile_cons, if_pos (h x (by simp)), ih fun y hy => h y (by simp [hy])]; rfl
/-- Either all go on, or one is met that does not. -/
theorem tw_cases (p : UInt8 → Bool) (l : Bytes) : (∀ x ∈ l, p x = true) ∨ ∃ a c b, l = a ++ c :: b ∧ p c = false ∧ (∀ x ∈ a, p x = true) := by
  induction l with
  | nil => exact .inl (by simp)
  | cons x l ih =>
    cases hx : p x
    · exact .inr ⟨[], x, l, rfl, hx, by simp⟩
    · rcases ih with h | ⟨a, c, b, rfl, h1, h2⟩
      · exact .inl fun y hy => by rcases List.mem_cons.1 hy with rfl | hy; exact hx; exact h y hy
      · exact .inr ⟨x :: a, c, b, rfl, h1, fun y hy => by rcases List.mem_cons.1 hy with rfl | hy; exact hx; exact h2 y hy⟩

theorem ind2 (Q : Bytes → Prop) (h0 : Q []) (h1 : ∀ c, Q [c]) (h2 : ∀ c d r, Q r → Q (d :: r) → Q (c :: d :: r)) (l : Bytes) : Q l := by
  have : ∀ n, ∀ l : Bytes, l.length ≤ n → Q l := by
    intro n
    induction n with
    | zero => intro l hl; obtain rfl := List.eq_nil_of_length_eq_zero (l := l) (by omega); exact h0
    | succ n ih =>
      intro l hl
      cases l with
      | nil => exact h0
      | cons c l =>
        cases l with
        | nil => exact h1 c
        | cons d r =>
          rw [List.length_cons, List.length_cons] at hl
          exact h2 c d r (ih r (by omega)) (ih (d :: r) (by rw [List.length_cons]; omega))
  exact this l.length l (Nat.le_refl _)
theorem rx_two (c d : UInt8) (r : Bytes) : rx (c :: d :: r) = if c = 10 then none else if c = 47 then some ([], 1) else if c = 92 then (if d = 10 then none else (rx r).map fun x => ((if d = 47 then [47] else [92, d]) ++ x.1, x.2 + 2)) else (rx (d :: r)).map fun x => (c :: x.1, x.2 + 1) := by rw [rx]
theorem rx_one (c : UInt8) : rx [c] = if c = 47 then some ([], 1) else none := by rw [rx]

theorem rx_le (l : Bytes) : ∀ t m, rx l = some (t, m) → 1 ≤ m ∧ m ≤ l.length := by
  refine ind2 (fun l => ∀ t m, rx l = some (t, m) → 1 ≤ m ∧ m ≤ l.length) ?_ ?_ ?_ l
  · intro t m h; simp [rx] at h
  · intro c t m h
    rw [rx_one] at h
    split at h
    · simp at h; simp [← h.2]
    · cases h
  · intro c d r i1 i2 t m h
    rw [rx_two] at h
    split at h
    · cases h
    split at h
    · simp at h; simp [← h.2]
    split at h
    · split at h
      · cases h
      · simp at h
        obtain ⟨a, b, h1, _, h3⟩ := h
        have := i1 a b h1
        simp; omega
    · simp at h
      obtain ⟨a, b, h1, _, h3⟩ := h
      have := i2 a b h1
      simp at this ⊢; omega

/-- A regex that ends does not hang on what is behind it. -/
theorem rx_app (l e : Bytes) : ∀ t m, rx l = some (t, m) → rx (l ++ e) = some (t, m) := by
  refine ind2 (fun l => ∀ t m, rx l = some (t, m) → rx (l ++ e) = some (t, m)) ?_ ?_ ?_ l
  · intro t m h; simp [rx] at h
  · intro c t m h
    rw [rx_one] at h
    split at h
    · rename_i hc
      rw [hc]
      cases e with
      | nil => exact h
      | cons x e => rw [List.singleton_append, rx_two, if_neg (by decide), if_pos rfl]; exact h
    · cases h
  · intro c d r i1 i2 t m h
    rw [List.cons_append, List.cons_append, rx_two]
    rw [rx_two] at h
    split at h
    · cases h
    rename_i h10
    split at h
    · rename_i h47
      rw [if_neg h10, if_pos h47]; exact h
    rename_i h47
    split at h
    · rename_i h92
      split at h
      · cases h
      · rename_i hd
        simp at h
        obtain ⟨a, b, h1, h2, h3⟩ := h
        rw [if_neg h10, if_neg h47, if_pos h92, if_neg hd, i1 a b h1]
        simp [h2, h3]
    · rename_i h92
      simp at h
      obtain ⟨a, b, h1, h2, h3⟩ := h
      rw [if_neg h10, if_neg h47, if_neg h92]
      have := i2 a b h1
      rw [List.cons_append] at this
      rw [this]
      simp [h2, h3]

/-- How much a word takes. -/
def Tok.long : Tok → Nat
  | .skip n => n
  | .nl => 1
  | .word _ _ _ m => m
  | .err _ => 0

theorem one_long (b : UInt8) (r : Bytes) : (∃ e, one b r = .err e ∧ (e = 4 ∨ e = 5)) ∨ (1 ≤ (one b r).long ∧ (one b r).long ≤ r.length + 1) := by
  have e1 := tw_len restB (b :: r)
  have e2 := tw_len innerB (b :: r)
  have e3 := tw_len digitB (b :: r)
  rw [List.length_cons] at e1 e2 e3
  unfold one
  by_cases h1 : blankB b
  · rw [if_pos h1]; exact .inr ⟨Nat.le_refl _, by simp [Tok.long]⟩
  rw [if_neg h1]
  by_cases h2 : b = 10
  · rw [if_pos h2]; exact .inr ⟨Nat.le_refl _, by simp [Tok.long]⟩
  rw [if_neg h2]
  by_cases h3 : b = 35
  · rw [if_pos h3]
    have := tw_pos restB b r (by subst h3; rfl)
    exact .inr ⟨this, e1⟩
  rw [if_neg h3]
  by_cases h4 : letterB b
  · rw [if_pos h4]
    split
    · exact .inl ⟨4, rfl, .inl rfl⟩
    · have := tw_pos innerB b r (by unfold innerB; rw [h4]; rfl)
      exact .inr ⟨this, e2⟩
  rw [if_neg h4]
  by_cases h5 : digitB b
  · rw [if_pos h5]
    split
    · exact .inl ⟨4, rfl, .inl rfl⟩
    · have := tw_pos digitB b r h5
      exact .inr ⟨this, e3⟩
  rw [if_neg h5]
  by_cases h6 : markB b
  · rw [if_pos h6]; exact .inr ⟨Nat.le_refl _, by simp [Tok.long]⟩
  rw [if_neg h6]
  by_cases h7 : b = 47
  · rw [if_pos h7]
    cases h : rx r with
    | none => exact .inl ⟨5, rfl, .inr rfl⟩
    | some x =>
      obtain ⟨t, m⟩ := x
      have := rx_le r t m h
      exact .inr ⟨by simp [Tok.long], by simp [Tok.long]; omega⟩
  · rw [if_neg h7]; exact .inl ⟨5, rfl, .inr rfl⟩

/-- One round. -/
theorem rd_step (k : Nat) (b : UInt8) (r : Bytes) (p : Nat) (en : Bool) : rd (k + 1) (b :: r) p en = match one b r with
    | .skip n => rd k ((b :: r).drop n) (p + n) en
    | .nl => ((if en then [] else [⟨4, [], 0, p⟩]) ++ (rd k r (p + 1) true).1, (rd k r (p + 1) true).2)
    | .word kd t n m => (⟨kd, t, n, p⟩ :: (rd k ((b :: r).drop m) (p + m) false).1, (rd k ((b :: r).drop m) (p + m) false).2)
    | .err e => ([], e, p) := rfl

theorem rd_fuel (k : Nat) : ∀ (k' : Nat) (l : Bytes) (p : Nat) (en : Bool), l.length < k → l.length < k' → rd k l p en = rd k' l p en := by
  induction k with
  | zero => intro k' l p en h; exact absurd h (Nat.not_lt_zero _)
  | succ k ih =>
    intro k' l p en h h'
    obtain ⟨k', rfl⟩ : ∃ m, k' = m + 1 := ⟨k' - 1, by omega⟩
    cases l with
    | nil => rfl
    | cons b r =>
      rw [rd_step, rd_step]
      rw [List.length_cons] at h h'
      rcases one_long b r with ⟨e, he, _⟩ | ⟨h1, h2⟩
      · rw [he]
      · cases ho : one b r with
        | skip n =>
          rw [ho] at h1 h2
          simp only [Tok.long] at h1 h2
          exact ih k' _ _ _ (by rw [List.length_drop, List.length_cons]; omega) (by rw [List.length_drop, List.length_cons]; omega)
        | nl => simp only; rw [ih k' r (p + 1) true (by omega) (by omega)]
        | word kd t n m =>
          rw [ho] at h1 h2
          simp only [Tok.long] at h1 h2
          simp only
          rw [ih k' _ _ _ (by rw [List.length_drop, List.length_cons]; omega) (by rw [List.length_drop, List.length_cons]; omega)]
        | err e => rfl

def W.up (w : W) (d : Nat) : W := { w with a := w.a + d }
def upR (d : Nat) (x : List W × Nat × Nat) : List W × Nat × Nat := (x.1.map (·.up d), x.2.1, if x.2.1 = 0 then x.2.2 else x.2.2 + d)

theorem rd_up (k : Nat) : ∀ (l : Bytes) (p d : Nat) (en : Bool), rd k l (p + d) en = upR d (rd k l p en) := by
  induction k with
  | zero => intro l p d en; rfl
  | succ k ih =>
    intro l p d en
    cases l with
    | nil => cases en <;> rfl
    | cons b r =>
      rw [rd_step, rd_step]
      cases ho : one b r with
      | skip n => simp only; rw [show p + d + n = (p + n) + d by omega, ih]
      | nl => simp only; rw [show p + d + 1 = (p + 1) + d by omega, ih]; cases en <;> simp [upR, W.up]
      | word kd t n m => simp only; rw [show p + d + m = (p + m) + d by omega, ih]; simp [upR, W.up]
      | err e =>
        simp only [upR, List.map_nil]
        rcases one_long b r with ⟨e', he, h45⟩ | ⟨h1, _⟩
        · rw [ho] at he
          cases he
          rw [if_neg (by omega)]
        · rw [ho] at h1; simp [Tok.long] at h1

/-- Up to a line's end, what is behind does not matter. -/
theorem one_line (b : UInt8) (r e : Bytes) (h : ∀ x, one b r ≠ .err x) : one b (r ++ 10 :: e) = one b r := by
  have t1 : (b :: (r ++ 10 :: e)).takeWhile restB = (b :: r).takeWhile restB := by rw [← List.cons_append]; exact tw_app _ _ _ _ rfl
  have t2 : (b :: (r ++ 10 :: e)).takeWhile innerB = (b :: r).takeWhile innerB := by rw [← List.cons_append]; exact tw_app _ _ _ _ (by decide)
  have t3 : (b :: (r ++ 10 :: e)).takeWhile digitB = (b :: r).takeWhile digitB := by rw [← List.cons_append]; exact tw_app _ _ _ _ (by decide)
  unfold one at h ⊢
  rw [t1, t2, t3]
  by_cases h1 : blankB b
  · rw [if_pos h1, if_pos h1]
  rw [if_neg h1] at h ⊢; rw [if_neg h1]
  by_cases h2 : b = 10
  · rw [if_pos h2, if_pos h2]
  rw [if_neg h2] at h ⊢; rw [if_neg h2]
  by_cases h3 : b = 35
  · rw [if_pos h3, if_pos h3]
  rw [if_neg h3] at h ⊢; rw [if_neg h3]
  by_cases h4 : letterB b
  · rw [if_pos h4, if_pos h4]
  rw [if_neg h4] at h ⊢; rw [if_neg h4]
  by_cases h5 : digitB b
  · rw [if_pos h5, if_pos h5]
  rw [if_neg h5] at h ⊢; rw [if_neg h5]
  by_cases h6 : markB b
  · rw [if_pos h6, if_pos h6]
  rw [if_neg h6] at h ⊢; rw [if_neg h6]
  by_cases h7 : b = 47
  · rw [if_pos h7] at h ⊢; rw [if_pos h7]
    cases hr : rx r with
    | none => rw [hr] at h; exact absurd rfl (h 5)
    | some x =>
      obtain ⟨t, m⟩ := x
      rw [rx_app r _ t m hr]
  · rw [if_neg h7] at h; exact absurd rfl (h 5)

/-- Two texts, one on the lines behind the other. -/
theorem rd_lines (k : Nat) : ∀ (a b : Bytes) (p : Nat) (en : Bool) (K : Nat), a.length < k → (rd k a p en).2.1 = 0 → (a ++ 10 :: b).length < K →
    rd K (a ++ 10 :: b) p en = ((rd k a p en).1 ++ (rd (b.length + 1) b (p + a.length + 1) true).1, (rd (b.length + 1) b (p + a.length + 1) true).2) := by
  induction k with
  | zero => intro a b p en K h; exact absurd h (Nat.not_lt_zero _)
  | succ k ih =>
    intro a b p en K ha h0 hK
    obtain ⟨K, rfl⟩ : ∃ m, K = m + 1 := ⟨K - 1, by omega⟩
    cases a with
    | nil =>
      rw [List.nil_append] at hK ⊢
      rw [rd_step]
      have : one 10 b = .nl := rfl
      rw [this]
      rw [List.length_cons] at hK
      rw [rd_fuel K (b.length + 1) b (p + 1) true (by omega) (by omega)]
      rfl
    | cons c r =>
      rw [List.cons_append] at hK ⊢
      rw [rd_step] at h0 ⊢
      rw [rd_step]
      rw [List.length_cons] at ha
      rw [List.length_cons, List.length_append, List.length_cons] at hK
      by_cases hne : ∃ x, one c r = .err x
      · exfalso
        obtain ⟨x, hx⟩ := hne
        rw [hx] at h0
        rcases one_long c r with ⟨e', he, h45⟩ | ⟨h1, _⟩
        · rw [hx] at he; cases he
          simp at h0; omega
        · rw [hx] at h1; simp [Tok.long] at h1
      have hl := one_line c r b (fun x hx => hne ⟨x, hx⟩)
      rw [hl]
      rcases one_long c r with ⟨e', he, _⟩ | ⟨h1, h2⟩
      · exact absurd ⟨e', he⟩ hne
      have hd : ∀ n, 1 ≤ n → n ≤ r.length + 1 → (c :: (r ++ 10 :: b)).drop n = (c :: r).drop n ++ 10 :: b := fun n _ hn => by
        rw [← List.cons_append, List.drop_append_of_le_length (by rw [List.length_cons]; exact hn)]
      cases ho : one c r with
      | skip n =>
        rw [ho] at h0 h1 h2
        simp only [Tok.long] at h0 h1 h2 ⊢
        rw [hd n h1 h2, ih _ b (p + n) en K (by rw [List.length_drop, List.length_cons]; omega) h0 (by rw [List.length_append, List.length_drop, List.length_cons, List.length_cons]; omega)]
        rw [List.length_drop, List.length_cons, show p + n + (r.length + 1 - n) + 1 = p + (r.length + 1) + 1 by omega]
      | nl =>
        rw [ho] at h0
        simp only at h0 ⊢
        rw [ih r b (p + 1) true K (by omega) h0 (by rw [List.length_append, List.length_cons]; omega)]
        rw [List.length_cons, show p + 1 + r.length + 1 = p + (r.length + 1) + 1 by omega]
        simp
      | word kd t n m =>
        rw [ho] at h0 h1 h2
        simp only [Tok.long] at h0 h1 h2 ⊢
        rw [hd m h1 h2, ih _ b (p + m) false K (by rw [List.length_drop, List.length_cons]; omega) h0 (by rw [List.length_append, List.length_drop, List.length_cons, List.length_cons]; omega)]
        rw [List.length_drop, List.length_cons, show p + m + (r.length + 1 - m) + 1 = p + (r.length + 1) + 1 by omega]
        simp
      | err e => exact absurd ⟨e, ho⟩ hne

/-- Kinds and texts alone. -/
def W.kt (w : W) : Nat × Bytes := (w.k, w.t)

/-- A remark behind. -/
theorem one_remark (b : UInt8) (r e : Bytes) (h : ∀ x, one b r ≠ .err x) (hc : b = 35 → ∃ x ∈ r, x = 10) : one b (r ++ 32 :: e) = one b r := by
  have t2 : (b :: (r ++ 32 :: e)).takeWhile innerB = (b :: r).takeWhile innerB := by rw [← List.cons_append]; exact tw_app _ _ _ _ (by decide)
  have t3 : (b :: (r ++ 32 :: e)).takeWhile digitB = (b :: r).takeWhile digitB := by rw [← List.cons_append]; exact tw_app _ _ _ _ (by decide)
  unfold one at h ⊢
  rw [t2, t3]
  by_cases h1 : blankB b
  · rw [if_pos h1, if_pos h1]
  rw [if_neg h1] at h ⊢; rw [if_neg h1]
  by_cases h2 : b = 10
  · rw [if_pos h2, if_pos h2]
  rw [if_neg h2] at h ⊢; rw [if_neg h2]
  by_cases h3 : b = 35
  · rw [if_pos h3, if_pos h3]
    obtain ⟨x, hx, rfl⟩ := hc h3
    congr 1
    rcases tw_cases restB (b :: r) with ha | ⟨a, c, d, he, hp, hq⟩
    · have := ha 10 (by simp [hx]); cases this
    · rw [← List.cons_append, he, List.append_assoc, List.cons_append, tw_app _ _ _ _ hp, tw_app _ _ _ _ hp]
  rw [if_neg h3] at h ⊢; rw [if_neg h3]
  by_cases h4 : letterB b
  · rw [if_pos h4, if_pos h4]
  rw [if_neg h4] at h ⊢; rw [if_neg h4]
  by_cases h5 : digitB b
  · rw [if_pos h5, if_pos h5]
  rw [if_neg h5] at h ⊢; rw [if_neg h5]
  by_cases h6 : markB b
  · rw [if_pos h6, if_pos h6]
  rw [if_neg h6] at h ⊢; rw [if_neg h6]
  by_cases h7 : b = 47
  · rw [if_pos h7] at h ⊢; rw [if_pos h7]
    cases hr : rx r with
    | none => rw [hr] at h; exact absurd rfl (h 5)
    | some x =>
      obtain ⟨t, m⟩ := x
      rw [rx_app r _ t m hr]
  · rw [if_neg h7] at h; exact absurd rfl (h 5)

theorem one_sign (r : Bytes) (h : ∀ x ∈ r, x ≠ 10) : one 35 r = .skip (r.length + 1) := by
  have : (35 :: r).takeWhile restB = 35 :: r := tw_all _ _ fun x hx => by
    rcases List.mem_cons.1 hx with rfl | hx
    · rfl
    · have := h x hx; simpa [restB] using this
  show Tok.skip ((35 :: r).takeWhile restB).length = _
  rw [this]; rfl

theorem rd_remark (m : Bytes) (hm : ∀ x ∈ m, x ≠ 10) (k : Nat) : ∀ (a : Bytes) (p q : Nat) (en : Bool) (K : Nat), a.length < k → (rd k a p en).2.1 = 0 → (a ++ 32 :: 35 :: m).length < K →
    (rd K (a ++ 32 :: 35 :: m) q en).1.map W.kt = (rd k a p en).1.map W.kt ∧ (rd K (a ++ 32 :: 35 :: m) q en).2.1 = 0 := by
  have hend : ∀ (K q : Nat) (en : Bool), (rd (K + 1) [] q en).1.map W.kt = (if en then [] else [(4, [])]) ∧ (rd (K + 1) [] q en).2.1 = 0 := fun K q en => by cases en <;> exact ⟨rfl, rfl⟩
  induction k with
  | zero => intro a p q en K h; exact absurd h (Nat.not_lt_zero _)
  | succ k ih =>
    intro a p q en K ha h0 hK
    obtain ⟨K, rfl⟩ : ∃ m, K = m + 1 := ⟨K - 1, by omega⟩
    cases a with
    | nil =>
      rw [List.nil_append] at hK ⊢
      rw [List.length_cons, List.length_cons] at hK
      obtain ⟨K, rfl⟩ : ∃ m, K = m + 1 := ⟨K - 1, by omega⟩
      obtain ⟨K, rfl⟩ : ∃ m, K = m + 1 := ⟨K - 1, by omega⟩
      rw [rd_step, show one 32 (35 :: m) = .skip 1 from rfl]
      simp only [List.drop_succ_cons, List.drop_zero]
      rw [rd_step, one_sign m hm]
      simp only
      rw [List.drop_of_length_le (by simp), (hend _ _ _).1, (hend _ _ _).2, (hend _ _ _).1]
      exact ⟨rfl, rfl⟩
    | cons c r =>
      rw [List.cons_append] at hK ⊢
      rw [rd_step] at h0 ⊢
      rw [rd_step]
      rw [List.length_cons] at ha
      rw [List.length_cons, List.length_append, List.length_cons, List.length_cons] at hK
      by_cases hne : ∃ x, one c r = .err x
      · exfalso
        obtain ⟨x, hx⟩ := hne
        rw [hx] at h0
        rcases one_long c r with ⟨e', he, h45⟩ | ⟨h1, _⟩
        · rw [hx] at he; cases he
          simp at h0; omega
        · rw [hx] at h1; simp [Tok.long] at h1
      by_cases hsg : c = 35 ∧ ∀ x ∈ r, x ≠ 10
      · obtain ⟨rfl, hr⟩ := hsg
        rw [one_sign r hr, one_sign (r ++ 32 :: 35 :: m) (fun x hx => by
          rcases List.mem_append.1 hx with h | h
          · exact hr x h
          · rcases List.mem_cons.1 h with rfl | h
            · decide
            · rcases List.mem_cons.1 h with rfl | h
              · decide
              · exact hm x h)]
        simp only
        rw [List.drop_of_length_le (by simp), List.drop_of_length_le (by simp)]
        obtain ⟨K, rfl⟩ : ∃ m, K = m + 1 := ⟨K - 1, by omega⟩
        obtain ⟨k, rfl⟩ : ∃ m, k = m + 1 := ⟨k - 1, by omega⟩
        rw [(hend _ _ _).1, (hend _ _ _).2, (hend _ _ _).1]
        exact ⟨rfl, rfl⟩
      have hc : c = 35 → ∃ x ∈ r, x = 10 := fun e => by
        refine Classical.byContradiction fun hno => hsg ⟨e, fun x hx e2 => hno ⟨x, hx, e2⟩⟩
      have hl := one_remark c r (35 :: m) (fun x hx => hne ⟨x, hx⟩) hc
      rw [hl]
      rcases one_long c r with ⟨e', he, _⟩ | ⟨h1, h2⟩
      · exact absurd ⟨e', he⟩ hne
      have hd : ∀ n, 1 ≤ n → n ≤ r.length + 1 → (c :: (r ++ 32 :: 35 :: m)).drop n = (c :: r).drop n ++ 32 :: 35 :: m := fun n _ hn => by
        rw [← List.cons_append, List.drop_append_of_le_length (by rw [List.length_cons]; exact hn)]
      cases ho : one c r with
      | skip n =>
        rw [ho] at h0 h1 h2
        simp only [Tok.long] at h0 h1 h2 ⊢
        rw [hd n h1 h2]
        exact ih _ (p + n) (q + n) en K (by rw [List.length_drop, List.length_cons]; omega) h0 (by rw [List.length_append, List.length_drop, List.length_cons, List.length_cons, List.length_cons]; omega)
      | nl =>
        rw [ho] at h0
        simp only at h0 ⊢
        have := ih r (p + 1) (q + 1) true K (by omega) h0 (by rw [List.length_append, List.length_cons, List.length_cons]; omega)
        rw [List.map_append, List.map_append, this.1]
        refine ⟨?_, this.2⟩
        congr 1
        cases en <;> rfl
      | word kd t n mm =>
        rw [ho] at h0 h1 h2
        simp only [Tok.long] at h0 h1 h2 ⊢
        rw [hd mm h1 h2]
        have := ih _ (p + mm) (q + mm) false K (by rw [List.length_drop, List.length_cons]; omega) h0 (by rw [List.length_append, List.length_drop, List.length_cons, List.length_cons, List.length_cons]; omega)
        rw [List.map_cons, List.map_cons, this.1]
        exact ⟨rfl, this.2⟩
      | err e => exact absurd ⟨e, ho⟩ hne

/-- Blanks ahead. -/
theorem rd_blanks (l : Bytes) (k : Nat) (hk : l.length < k) : rd (l.length + 4) (9 :: 32 :: 13 :: l) 0 true = upR 3 (rd k l 0 true) := by
  rw [rd_step, show one 9 (32 :: 13 :: l) = .skip 1 from rfl]
  simp only [List.drop_succ_cons, List.drop_zero]
  rw [rd_step, show one 32 (13 :: l) = .skip 1 from rfl]
  simp only [List.drop_succ_cons, List.drop_zero]
  rw [rd_step, show one 13 l = .skip 1 from rfl]
  simp only [List.drop_succ_cons, List.drop_zero]
  rw [show (0 + 1 + 1 + 1 : Nat) = 0 + 3 from rfl, rd_up, rd_fuel (l.length + 1) k l 0 true (by omega) hk]

/-- A name. -/
def nameL (l : Bytes) : Bool := !l.isEmpty && decide (l.length ≤ 32) && l.all innerB && !(l.headD 0 |> digitB)

/-- Words stand in order; the last of what they say is at most 'z'. -/
def Ord (T : Bytes) : Nat → Bool → List W → Nat → Prop
  | to, _, [], z => to ≤ z
  | to, en, w :: ws, z => to ≤ w.a ∧ w.a ≤ T.length ∧ (w.k = 4 → en = false) ∧
      (w.k < 3 → w.t ≠ [] ∧ w.a + w.t.length ≤ T.length ∧ (T.drop w.a).take w.t.length = w.t ∧ (w.k = 0 → nameL w.t = true)) ∧
      Ord T (if w.k < 3 then w.a + w.t.length else w.a) (w.k == 4) ws z

theorem Ord_le {T : Bytes} {ws : List W} : ∀ {to en z}, Ord T to en ws z → to ≤ z := by
  induction ws with
  | nil => intro to en z h; exact h
  | cons w ws ih =>
    intro to en z h
    obtain ⟨h1, _, _, _, h5⟩ := h
    have := ih h5
    split at this <;> omega

theorem name_run (b : UInt8) (r : Bytes) (h : letterB b = true) (h2 : ¬ 32 < ((b :: r).takeWhile innerB).length) : nameL ((b :: r).takeWhile innerB) = true := by
  unfold nameL
  rw [List.takeWhile_cons, if_pos (show innerB b = true by unfold innerB; rw [h]; rfl)] at h2 ⊢
  have h3 : digitB b = false := by
    unfold letterB at h
    unfold digitB
    simp only [Bool.or_eq_true, Bool.and_eq_true, decide_eq_true_eq, beq_iff_eq, UInt8.le_iff_toNat_le] at h
    rw [Bool.and_eq_false_iff]
    simp only [decide_eq_false_iff_not, UInt8.le_iff_toNat_le]
    have e : ∀ x : UInt8, b = x → b.toNat = x.toNat := fun x hx => by rw [hx]
    rcases h with (h | h) | h
    · right
      have e1 : (97 : UInt8).toNat = 97 := rfl
      have e2 : (57 : UInt8).toNat = 57 := rfl
      omega
    · right
      have e1 : (65 : UInt8).toNat = 65 := rfl
      have e2 : (57 : UInt8).toNat = 57 := rfl
      omega
    · right
      have := e _ h
      have e1 : (95 : UInt8).toNat = 95 := rfl
      have e2 : (57 : UInt8).toNat = 57 := rfl
      omega
  have h4 : (r.takeWhile innerB).all innerB = true := List.all_eq_true.2 (tw_mem _ _)
  have h5 : innerB b = true := by unfold innerB; rw [h]; rfl
  rw [List.length_cons] at h2
  simp [h3, h4, h5]
  omega

theorem drop_at {T l : Bytes} {p : Nat} (h : T.drop p = l) (h0 : l ≠ []) : p + l.length = T.length := by
  have := congrArg List.length h
  rw [List.length_drop] at this
  cases l with
  | nil => exact absurd rfl h0
  | cons a l => rw [List.length_cons] at this ⊢; omega

/-- All words stand in order. -/
theorem rd_ord (T : Bytes) (k : Nat) : ∀ (l : Bytes) (p to : Nat) (en : Bool), l.length < k → T.drop p = l → p ≤ T.length → to ≤ p →
    Ord T to en (rd k l p en).1 (if (rd k l p en).2.1 = 0 then T.length else (rd k l p en).2.2) ∧ ((rd k l p en).2.1 ≠ 0 → (rd k l p en).2.2 < T.length) ∧
    ((rd k l p en).2.1 = 0 → (en = true ∧ (rd k l p en).1 = []) ∨ ∃ ws z, (rd k l p en).1 = ws ++ [⟨4, [], 0, z⟩]) := by
  induction k with
  | zero => intro l p to en h; exact absurd h (Nat.not_lt_zero _)
  | succ k ih =>
    intro l p to en hk hT hp hto
    cases l with
    | nil =>
      have hpl : p = T.length := by
        have := congrArg List.length hT
        rw [List.length_drop, List.length_nil] at this
        omega
      cases en
      · refine ⟨?_, fun h => absurd rfl h, fun _ => .inr ⟨[], p, rfl⟩⟩
        show Ord T to false [⟨4, [], 0, p⟩] T.length
        exact ⟨hto, hp, fun _ => rfl, fun h => absurd h (by simp), by show p ≤ _; omega⟩
      · refine ⟨?_, fun h => absurd rfl h, fun _ => .inl ⟨rfl, rfl⟩⟩
        show to ≤ T.length
        omega
    | cons b r =>
      have hlen := drop_at hT (by simp)
      rw [List.length_cons] at hlen hk
      rw [rd_step]
      rcases one_long b r with ⟨e, he, h45⟩ | ⟨h1, h2⟩
      · rw [he]
        simp only
        rw [if_neg (by omega)]
        exact ⟨hto, fun _ => by omega, fun h => by omega⟩
      have hdrop : ∀ n, T.drop (p + n) = (b :: r).drop n := fun n => by rw [← hT, List.drop_drop]
      cases ho : one b r with
      | skip n =>
        rw [ho] at h1 h2
        simp only [Tok.long] at h1 h2
        exact ih _ (p + n) to en (by rw [List.length_drop, List.length_cons]; omega) (hdrop n) (by omega) (by omega)
      | nl =>
        simp only
        have := ih r (p + 1) p true (by omega) (by rw [hdrop 1]; rfl) (by omega) (by omega)
        obtain ⟨i1, i2, i3⟩ := this
        cases en
        · refine ⟨?_, i2, fun h => ?_⟩
          · show Ord T to false (⟨4, [], 0, p⟩ :: (rd k r (p + 1) true).1) _
            exact ⟨hto, hp, fun _ => rfl, fun h => absurd h (by simp), i1⟩
          · rcases i3 h with ⟨_, h⟩ | ⟨ws, z, h⟩
            · exact .inr ⟨[], p, by rw [h]; rfl⟩
            · exact .inr ⟨⟨4, [], 0, p⟩ :: ws, z, by rw [h]; rfl⟩
        · have j1 := (ih r (p + 1) to true (by omega) (by rw [hdrop 1]; rfl) (by omega) (by omega)).1
          exact ⟨j1, i2, fun h => i3 h⟩
      | word kd t n m =>
        rw [ho] at h1 h2
        simp only [Tok.long] at h1 h2
        simp only
        have key : kd = 3 ∨ (kd < 3 ∧ t.length = m ∧ t = (b :: r).take m ∧ (kd = 0 → nameL t = true)) := by
          unfold one at ho
          split at ho
          · cases ho
          split at ho
          · cases ho
          split at ho
          · cases ho
          split at ho
          · rename_i hl
            split at ho
            · cases ho
            · rename_i hn
              cases ho
              exact .inr ⟨by omega, rfl, (tw_take _ _).symm, fun _ => name_run b r hl hn⟩
          split at ho
          · split at ho
            · cases ho
            · cases ho
              exact .inr ⟨by omega, rfl, (tw_take _ _).symm, fun h => absurd h (by decide)⟩
          split at ho
          · cases ho
            exact .inr ⟨by omega, rfl, rfl, fun h => absurd h (by decide)⟩
          split at ho
          · split at ho
            · cases ho; exact .inl rfl
            · cases ho
          · cases ho
        have hk4 : ¬ kd = 4 := by omega
        have hkb : (kd == 4) = false := beq_eq_false_iff_ne.2 hk4
        have hnext := ih ((b :: r).drop m) (p + m) (if kd < 3 then p + t.length else p) false (by rw [List.length_drop, List.length_cons]; omega) (hdrop m) (by omega) (by
          rcases key with rfl | ⟨hlt, hl, _, _⟩
          · rw [if_neg (by omega)]; omega
          · rw [if_pos hlt]; omega)
        obtain ⟨i1, i2, i3⟩ := hnext
        refine ⟨⟨hto, hp, fun h => absurd h hk4, fun (hlt : kd < 3) => ?_, by rw [hkb]; exact i1⟩, i2, fun h => ?_⟩
        · show t ≠ [] ∧ p + t.length ≤ T.length ∧ (T.drop p).take t.length = t ∧ (kd = 0 → nameL t = true)
          rcases key with rfl | ⟨_, hl, ht, hnm⟩
          · exact absurd hlt (by omega)
          · exact ⟨fun e => by rw [e] at hl; simp at hl; omega, by omega, by rw [hT, hl]; exact ht.symm, hnm⟩
        · rcases i3 h with ⟨h, _⟩ | ⟨ws, z, h⟩
          · cases h
          · exact .inr ⟨⟨kd, t, n, p⟩ :: ws, z, by rw [h]; rfl⟩
      | err e => rw [ho] at h1; simp [Tok.long] at h1

/-- A regex as a word, behind its first slash. -/
def qt : Bytes → Option Bytes
  | [] => some []
  | [c] => if c = 10 ∨ c = 92 then none else if c = 47 then some [92, 47] else some [c]
  | c :: d :: r => if c = 10 then none else if c = 47 then (qt (d :: r)).map fun x => 92 :: 47 :: x else if c = 92 then (if d = 47 ∨ d = 10 then none else (qt r).map fun x => 92 :: d :: x) else (qt (d :: r)).map fun x => c :: x

theorem rx_cons (c : UInt8) (l : Bytes) (h10 : c ≠ 10) (h47 : c ≠ 47) (h92 : c ≠ 92) (hl : l ≠ []) : rx (c :: l) = (rx l).map fun x => (c :: x.1, x.2 + 1) := by
  cases l with
  | nil => exact absurd rfl hl
  | cons d r => rw [rx, if_neg h10, if_neg h47, if_neg h92]
theorem rx_esc (d : UInt8) (l : Bytes) (hd : d ≠ 10) : rx (92 :: d :: l) = (rx l).map fun x => ((if d = 47 then [47] else [92, d]) ++ x.1, x.2 + 2) := by
  rw [rx, if_neg (by decide), if_neg (by decide), if_pos rfl, if_neg hd]

theorem qt_two (c d : UInt8) (r : Bytes) : qt (c :: d :: r) = if c = 10 then none else if c = 47 then (qt (d :: r)).map fun x => 92 :: 47 :: x else if c = 92 then (if d = 47 ∨ d = 10 then none else (qt r).map fun x => 92 :: d :: x) else (qt (d :: r)).map fun x => c :: x := by rw [qt]
theorem qt_one (c : UInt8) : qt [c] = if c = 10 ∨ c = 92 then none else if c = 47 then some [92, 47] else some [c] := by rw [qt]

theorem rx_qt (s : Bytes) : ∀ q, qt s = some q → rx (q ++ [47]) = some (s, q.length + 1) := by
  refine ind2 (fun s => ∀ q, qt s = some q → rx (q ++ [47]) = some (s, q.length + 1)) ?_ ?_ ?_ s
  · intro q h; simp [qt] at h; subst h; rfl
  · intro c q h
    rw [qt_one] at h
    split at h
    · cases h
    rename_i hc
    split at h
    · rename_i h47
      simp at h; subst h; rw [h47]; rfl
    · rename_i h47
      simp at h; subst h
      have h1 : c ≠ 10 := fun e => hc (.inl e)
      have h2 : c ≠ 92 := fun e => hc (.inr e)
      show rx [c, 47] = _
      rw [rx_cons c [47] h1 h47 h2 (by simp)]; rfl
  · intro c d r i1 i2 q h
    rw [qt_two] at h
    split at h
    · cases h
    rename_i h10
    split at h
    · rename_i h47
      simp at h
      obtain ⟨x, hx, rfl⟩ := h
      show rx (92 :: 47 :: (x ++ [47])) = _
      rw [rx_esc 47 _ (by decide), i2 x hx, h47]
      simp
    rename_i h47
    split at h
    · rename_i h92
      split at h
      · cases h
      rename_i hd
      simp at h
      obtain ⟨x, hx, rfl⟩ := h
      have h1 : d ≠ 47 := fun e => hd (.inl e)
      have h2 : d ≠ 10 := fun e => hd (.inr e)
      show rx (92 :: d :: (x ++ [47])) = _
      rw [rx_esc d _ h2, i1 x hx, if_neg h1, h92]
      simp
    · rename_i h92
      simp at h
      obtain ⟨x, hx, rfl⟩ := h
      show rx (c :: (x ++ [47])) = _
      rw [rx_cons c _ h10 h47 h92 (by simp), i2 x hx]
      simp

/-- What is quoted is read again. -/
theorem rd_qt (s q : Bytes) (h : qt s = some q) (k : Nat) (hk : q.length + 2 < k) : rd k (47 :: (q ++ [47])) 0 true = ([⟨3, s, 0, 0⟩, ⟨4, [], 0, q.length + 2⟩], 0, 0) := by
  obtain ⟨k, rfl⟩ : ∃ m, k = m + 1 := ⟨k - 1, by omega⟩
  obtain ⟨k, rfl⟩ : ∃ m, k = m + 1 := ⟨k - 1, by omega⟩
  have ho : one 47 (q ++ [47]) = .word 3 s 0 (q.length + 1 + 1) := by
    show (match rx (q ++ [47]) with | some (t, m) => Tok.word 3 t 0 (m + 1) | none => .err 5) = _
    rw [rx_qt s q h]
  rw [rd_step, ho]
  simp only
  rw [List.drop_of_length_le (by simp)]
  show (([⟨3, s, 0, 0⟩, ⟨4, [], 0, 0 + (q.length + 1 + 1)⟩] : List W), 0, 0) = _
  rw [Nat.zero_add]

/-- Digits are a number. -/
theorem rd_num (t : Bytes) (ht : t ≠ []) (hl : t.length ≤ 9) (hd : ∀ x ∈ t, digitB x = true) (k : Nat) (hk : t.length < k) : rd k t 0 true = ([⟨1, t, valL t, 0⟩, ⟨4, [], 0, t.length⟩], 0, 0) := by
  obtain ⟨k, rfl⟩ : ∃ m, k = m + 1 := ⟨k - 1, by omega⟩
  cases t with
  | nil => exact absurd rfl ht
  | cons b r =>
    obtain ⟨k, rfl⟩ : ∃ m, k = m + 1 := ⟨k - 1, by rw [List.length_cons] at hk; omega⟩
    have htw : (b :: r).takeWhile digitB = b :: r := tw_all _ _ hd
    have hb := hd b (by simp)
    have hn : blankB b = false ∧ b ≠ 10 ∧ b ≠ 35 ∧ letterB b = false := by
      unfold digitB at hb
      simp only [Bool.and_eq_true, decide_eq_true_eq, UInt8.le_iff_toNat_le] at hb
      have e1 : (48 : UInt8).toNat = 48 := rfl
      have e2 : (57 : UInt8).toNat = 57 := rfl
      rw [e1, e2] at hb
      have ne : ∀ x : UInt8, (x.toNat < 48 ∨ 57 < x.toNat) → b ≠ x := fun x hx e => by subst e; omega
      refine ⟨?_, ne 10 (by decide), ne 35 (by decide), ?_⟩
      · unfold blankB
        rw [beq_eq_false_iff_ne.2 (ne 32 (by decide)), beq_eq_false_iff_ne.2 (ne 9 (by decide)), beq_eq_false_iff_ne.2 (ne 13 (by decide))]; rfl
      · unfold letterB
        rw [beq_eq_false_iff_ne.2 (ne 95 (by decide)), decide_eq_false (show ¬ (97 : UInt8) ≤ b by rw [UInt8.le_iff_toNat_le]; have e : (97 : UInt8).toNat = 97 := rfl; omega), decide_eq_false (show ¬ (65 : UInt8) ≤ b by rw [UInt8.le_iff_toNat_le]; have e : (65 : UInt8).toNat = 65 := rfl; omega)]; rfl
    have ho : one b r = .word 1 (b :: r) (valL (b :: r)) (b :: r).length := by
      unfold one
      rw [if_neg (by rw [hn.1]; simp), if_neg hn.2.1, if_neg hn.2.2.1, if_neg (by rw [hn.2.2.2]; simp), if_pos hb, htw, if_neg (by omega)]
    rw [rd_step, ho]
    simp only
    rw [List.drop_of_length_le (Nat.le_refl _)]
    show (([⟨1, b :: r, valL (b :: r), 0⟩, ⟨4, [], 0, 0 + (b :: r).length⟩] : List W), 0, 0) = _
    rw [Nat.zero_add]

theorem valL_zero (t : Bytes) : valL (48 :: t) = valL t := rfl
end Go.Proofs.YtageaahlkiaigaaDoor.Wd
