/- Growing till nothing changes: rows of sets that only grow stand still after as many rounds as they are long. Plain; no conditions. · What the program's growing rows of sets come to, bit by bit: closed under each production, and the least that is. Plain. Conditions: a grammar that is in order. · Which sorts may be empty and live, with what each begins: what the program comes to is closed under each production, and the least that is. Plain. Conditions: a grammar that is in order. · What follows sorts: what the program comes to is closed under each place of each production, and the least that is. Plain. Conditions: a grammar that is in order. · What the functions of package sets answer of a grammar that is in order, and of one that is not. Plain. Conditions: enough rounds. · What may be empty lives; what begins with nothing, and lives, may be empty alone. Plain. Conditions: a grammar that is in order. · A production more makes no set less. Plain. Conditions: both grammars are in order. -/
import Derived.Test.YtggfiopajogiiaaSGrow
import Derived.Test.YtggfiopajogiiaaSOf
import Derived.Laws.Bits64b
import Derived.IntWalk
import Derived.Test.YtggfiopajogiiaaSFolP
set_option linter.unusedVariables false
set_option linter.unusedSimpArgs false
namespace Go.Proofs.Ytggfiopajogiiaa.P
open Go.RowKit Go.Proofs.YtggfiopajogiiaaW.PrintWords

def iter {α : Type} (F : α → α) : Nat → α → α
  | 0, x => x
  | n + 1, x => iter F n (F x)

theorem iter_succ {α : Type} (F : α → α) : ∀ (n : Nat) (x : α), iter F (n + 1) x = F (iter F n x)
  | 0, _ => rfl
  | n + 1, x => iter_succ F n (F x)

theorem iter_fixed {α : Type} (F : α → α) {x : α} (h : F x = x) : ∀ n, iter F n x = x
  | 0 => rfl
  | n + 1 => by show iter F n (F x) = x; rw [h]; exact iter_fixed F h n

theorem iter_inv {α : Type} (F : α → α) (I : α → Prop) (h : ∀ x, I x → I (F x)) : ∀ (n : Nat) (x : α), I x → I (iter F n x)
  | 0, _, hx => hx
  | n + 1, x, hx => iter_inv F I h n (F x) (h x hx)

theorem count_le_of : ∀ (xs ys : List Bool), xs.length = ys.length → (∀ i, xs.getD i false = true → ys.getD i false = true) → xs.count true ≤ ys.count true ∧ (xs.count true = ys.count true → xs = ys)
  | [], [], _, _ => ⟨Nat.le_refl _, fun _ => rfl⟩
  | x :: xs, y :: ys, hl, h => by
    have ih := count_le_of xs ys (by simpa using hl) (fun i => by have := h (i + 1); simpa using this)
    have h0 := h 0
    simp only [List.getD_cons_zero] at h0
    cases x <;> cases y
    · simpa using ih
    · simp only [List.count_cons]
      refine ⟨by have := ih.1; simp; omega, fun e => ?_⟩
      have := ih.1
      simp at e
      omega
    · simp at h0
    · simpa using ih
  | [], _ :: _, hl, _ => by simp at hl
  | _ :: _, [], hl, _ => by simp at hl

/-- A growing row of n bits that, once it stands, stands for ever, stands from its n-th state on. -/
theorem seq_stable (c : Nat → List Bool) (n : Nat) (hl : ∀ k, (c k).length = n) (hg : ∀ k i, (c k).getD i false = true → (c (k + 1)).getD i false = true) (hs : ∀ k, c k = c (k + 1) → c (k + 1) = c (k + 2)) : c n = c (n + 1) := by
  have h1 : ∀ k, (∃ j, j < k ∧ c j = c (j + 1)) ∨ k ≤ (c k).count true := by
    intro k
    induction k with
    | zero => exact .inr (Nat.zero_le _)
    | succ k ih =>
      rcases ih with ⟨j, hj, e⟩ | ih
      · exact .inl ⟨j, by omega, e⟩
      · by_cases e : c k = c (k + 1)
        · exact .inl ⟨k, by omega, e⟩
        · have := count_le_of (c k) (c (k + 1)) (by rw [hl, hl]) (hg k)
          have h2 : (c k).count true ≠ (c (k + 1)).count true := fun q => e (this.2 q)
          exact .inr (by omega)
  rcases h1 (n + 1) with ⟨j, hj, e⟩ | h
  · have h2 : ∀ i, c (j + i) = c (j + i + 1) := by
      intro i
      induction i with
      | zero => exact e
      | succ i ih => exact hs _ ih
    have := h2 (n - j)
    rwa [show j + (n - j) = n by omega] at this
  · have := List.count_le_length (a := true) (l := c (n + 1))
    rw [hl] at this
    omega

section
variable {β : Type}
/-- One round: each step puts a new set at its place. -/
def run (ss : List (Nat × (List β → β))) (xs : List β) : List β := ss.foldl (fun xs s => xs.set s.1 (s.2 xs)) xs
theorem run_cons (s : Nat × (List β → β)) (ss : List (Nat × (List β → β))) (xs : List β) : run (s :: ss) xs = run ss (xs.set s.1 (s.2 xs)) := rfl
theorem run_append (a b : List (Nat × (List β → β))) (xs : List β) : run (a ++ b) xs = run b (run a xs) := List.foldl_append
theorem still_at {xs : List β} {i : Nat} {v : β} (h : xs.set i v = xs) (hi : i < xs.length) : xs[i] = v := by
  have : (xs.set i v)[i]'(by rw [List.length_set]; exact hi) = v := by simp
  rw [← this]; congr 1; exact h.symm
/-- An invariant of each step is one of a round. -/
theorem run_inv (I : List β → Prop) : ∀ (ss : List (Nat × (List β → β))) (xs : List β), (∀ s ∈ ss, ∀ xs, I xs → I (xs.set s.1 (s.2 xs))) → I xs → I (run ss xs)
  | [], xs, _, hx => hx
  | s :: ss, xs, hg, hx => run_inv I ss _ (fun t ht => hg t (by simp [ht])) (hg s (by simp) xs hx)
end

class Bitty (β : Type) where
  tb : β → Nat → Bool
  ok : β → Prop
  ext : ∀ {x y : β}, ok x → ok y → (∀ b, tb x b = tb y b) → x = y
open Bitty

instance : Bitty Bool where
  tb x _ := x
  ok _ := True
  ext := fun _ _ h => h 0

section
variable {β : Type} [Bitty β]
def leB (x y : β) : Prop := ∀ b, tb x b = true → tb y b = true
theorem leB_refl (x : β) : leB x x := fun _ h => h
theorem leB_trans {x y z : β} (h1 : leB x y) (h2 : leB y z) : leB x z := fun b h => h2 b (h1 b h)
theorem leB_antisymm {x y : β} (hx : ok x) (hy : ok y) (h1 : leB x y) (h2 : leB y x) : x = y := ext hx hy fun b => by
  cases h : tb x b
  · cases h' : tb y b
    · rfl
    · rw [h2 b h'] at h; exact h.symm
  · exact (h1 b h).symm
/-- A row of n sets. -/
def okL (n : Nat) (xs : List β) : Prop := xs.length = n ∧ ∀ i (h : i < xs.length), ok xs[i]
def leL (xs ys : List β) : Prop := xs.length = ys.length ∧ ∀ i (h : i < xs.length) (h' : i < ys.length), leB xs[i] ys[i]
theorem leL_refl (xs : List β) : leL xs xs := ⟨rfl, fun _ _ _ => leB_refl _⟩
theorem leL_trans {xs ys zs : List β} (h1 : leL xs ys) (h2 : leL ys zs) : leL xs zs := ⟨h1.1.trans h2.1, fun i h h' => leB_trans (h1.2 i h (by rw [← h1.1]; exact h)) (h2.2 i (by rw [← h1.1]; exact h) h')⟩
theorem leL_antisymm {n : Nat} {xs ys : List β} (hx : okL n xs) (hy : okL n ys) (h1 : leL xs ys) (h2 : leL ys xs) : xs = ys :=
  List.ext_getElem h1.1 fun i h h' => leB_antisymm (hx.2 i h) (hy.2 i h') (h1.2 i h h') (h2.2 i h' h)

/-- Steps that only grow. -/
def Grows (n : Nat) (ss : List (Nat × (List β → β))) : Prop := ∀ s ∈ ss, ∀ xs : List β, okL n xs → ok (s.2 xs) ∧ ∀ h : s.1 < xs.length, leB xs[s.1] (s.2 xs)
theorem set_grow {n : Nat} {xs : List β} {i : Nat} {v : β} (hx : okL n xs) (hv : ok v) (h : ∀ h : i < xs.length, leB xs[i] v) : okL n (xs.set i v) ∧ leL xs (xs.set i v) := by
  refine ⟨⟨by rw [List.length_set]; exact hx.1, fun j hj => ?_⟩, by rw [List.length_set], fun j hj hj' => ?_⟩
  · rw [List.getElem_set]
    split
    · exact hv
    · exact hx.2 _ _
  · rw [List.getElem_set]
    split
    · rename_i e; subst e; exact h hj
    · exact leB_refl _
theorem run_ok {n : Nat} : ∀ (ss : List (Nat × (List β → β))) (xs : List β), Grows n ss → okL n xs → okL n (run ss xs) ∧ leL xs (run ss xs)
  | [], xs, _, hx => ⟨hx, leL_refl _⟩
  | s :: ss, xs, hg, hx => by
    have h1 := set_grow hx (hg s (by simp) xs hx).1 (hg s (by simp) xs hx).2
    have h2 := run_ok ss _ (fun t ht => hg t (by simp [ht])) h1.1
    exact ⟨h2.1, leL_trans h1.2 h2.2⟩
/-- Where a round changes nothing, no step does. -/
theorem run_still {n : Nat} : ∀ (ss : List (Nat × (List β → β))) (xs : List β), Grows n ss → okL n xs → run ss xs = xs → ∀ s ∈ ss, xs.set s.1 (s.2 xs) = xs
  | [], xs, _, hx, _, s, hs => by simp at hs
  | t :: ss, xs, hg, hx, he, s, hs => by
    have h1 := set_grow hx (hg t (by simp) xs hx).1 (hg t (by simp) xs hx).2
    have h2 := run_ok ss _ (fun t ht => hg t (by simp [ht])) h1.1
    rw [run_cons] at he
    rw [he] at h2
    have h3 := leL_antisymm h1.1 hx h2.2 h1.2
    rw [h3] at he
    rcases List.mem_cons.1 hs with rfl | hs
    · exact h3
    · exact run_still ss xs (fun t ht => hg t (by simp [ht])) hx he s hs
/-- A round that tells whether something changed. -/
def runF (z : β) [DecidableEq β] (ss : List (Nat × (List β → β))) (st : List β × Bool) : List β × Bool := ss.foldl (fun st s => if st.1.getD s.1 z = s.2 st.1 then st else (st.1.set s.1 (s.2 st.1), true)) st
theorem runF_eq {n : Nat} (z : β) [DecidableEq β] : ∀ (ss : List (Nat × (List β → β))) (xs : List β) (c : Bool), Grows n ss → (∀ s ∈ ss, s.1 < n) → okL n xs → runF z ss (xs, c) = (run ss xs, c || decide (run ss xs ≠ xs))
  | [], xs, c, _, _, _ => by simp [runF, run]
  | s :: ss, xs, c, hg, hi, hx => by
    have h1 := set_grow hx (hg s (by simp) xs hx).1 (hg s (by simp) xs hx).2
    have h2 := run_ok ss _ (fun t ht => hg t (by simp [ht])) h1.1
    have hlt : s.1 < xs.length := by rw [hx.1]; exact hi s (by simp)
    rw [run_cons]
    by_cases e : xs.getD s.1 z = s.2 xs
    · have e2 : xs.set s.1 (s.2 xs) = xs := by
        rw [← e]
        apply List.ext_getElem (by simp)
        intro j h h'
        rw [List.getElem_set]
        split
        · rename_i q; subst q; simp [List.getD, h']
        · rfl
      rw [e2]
      show runF z ss (if xs.getD s.1 z = s.2 xs then (xs, c) else _) = _
      rw [if_pos e]
      exact runF_eq z ss xs c (fun t ht => hg t (by simp [ht])) (fun t ht => hi t (by simp [ht])) hx
    · show runF z ss (if xs.getD s.1 z = s.2 xs then (xs, c) else (xs.set s.1 (s.2 xs), true)) = _
      rw [if_neg e, runF_eq z ss _ true (fun t ht => hg t (by simp [ht])) (fun t ht => hi t (by simp [ht])) h1.1]
      have h3 : run ss (xs.set s.1 (s.2 xs)) ≠ xs := fun q => by
        rw [q] at h2
        have h4 := leL_antisymm h1.1 hx h2.2 h1.2
        have := still_at h4 hlt
        exact e (by rw [← this]; simp [List.getD, hlt])
      rw [decide_eq_true h3]
      simp
/-- Bit by bit: what a step puts has, at a bit, what the row has at that bit to do with alone. -/
def Local (n : Nat) (ss : List (Nat × (List β → β))) : Prop := ∀ s ∈ ss, ∀ (b : Nat) (xs ys : List β), okL n xs → okL n ys → (∀ i (h : i < xs.length) (h' : i < ys.length), tb xs[i] b = tb ys[i] b) → tb (s.2 xs) b = tb (s.2 ys) b
theorem run_local {n : Nat} (b : Nat) : ∀ (ss : List (Nat × (List β → β))) (xs ys : List β), Grows n ss → Local n ss → okL n xs → okL n ys → (∀ i (h : i < xs.length) (h' : i < ys.length), tb xs[i] b = tb ys[i] b) →
    ∀ i (h : i < (run ss xs).length) (h' : i < (run ss ys).length), tb (run ss xs)[i] b = tb (run ss ys)[i] b
  | [], _, _, _, _, _, _, he => he
  | s :: ss, xs, ys, hg, hl, hx, hy, he => by
    have h1 := set_grow hx (hg s (by simp) xs hx).1 (hg s (by simp) xs hx).2
    have h2 := set_grow hy (hg s (by simp) ys hy).1 (hg s (by simp) ys hy).2
    refine run_local b ss (xs.set s.1 (s.2 xs)) (ys.set s.1 (s.2 ys)) (fun t ht => hg t (by simp [ht])) (fun t ht => hl t (by simp [ht])) h1.1 h2.1 fun i h h' => ?_
    rw [List.getElem_set, List.getElem_set]
    split
    · exact hl s (by simp) b xs ys hx hy he
    · exact he i _ _
/-- After n rounds a row of n sets stands still. -/
theorem run_stable {n : Nat} (ss : List (Nat × (List β → β))) (xs : List β) (hg : Grows n ss) (hl : Local n ss) (hx : okL n xs) : run ss (iter (run ss) n xs) = iter (run ss) n xs := by
  have hk : ∀ k, okL n (iter (run ss) k xs) := fun k => iter_inv (run ss) (okL n) (fun x h => (run_ok ss x hg h).1) k xs hx
  rw [← iter_succ (run ss) n xs]
  refine (List.ext_getElem (by rw [(hk n).1, (hk (n + 1)).1]) fun i h h' => ext ((hk n).2 i h) ((hk (n + 1)).2 i h') fun b => ?_).symm
  have hc := seq_stable (fun k => (iter (run ss) k xs).map (fun x => tb x b)) n (fun k => by rw [List.length_map]; exact (hk k).1) (fun k j hj => ?_) (fun k he => ?_)
  · have hc2 : ((iter (run ss) n xs).map (fun x => tb x b))[i]'(by simpa using h) = ((iter (run ss) (n + 1) xs).map (fun x => tb x b))[i]'(by simpa using h') := by congr 1
    simpa using hc2
  · have h3 := (run_ok ss _ hg (hk k)).2
    rw [iter_succ]
    by_cases hjn : j < n
    · have q1 : j < (iter (run ss) k xs).length := by rw [(hk k).1]; exact hjn
      have q2 : j < (run ss (iter (run ss) k xs)).length := by rw [← h3.1]; exact q1
      simp only [List.getD, List.getElem?_map, List.getElem?_eq_getElem q1, List.getElem?_eq_getElem q2, Option.map_some, Option.getD_some] at hj ⊢
      exact h3.2 j q1 q2 b hj
    · have q1 : (iter (run ss) k xs).length ≤ j := by rw [(hk k).1]; omega
      simp [List.getD, List.getElem?_eq_none q1] at hj
  · rw [iter_succ _ (k + 1), iter_succ _ k]
    have q : ∀ i (h : i < (iter (run ss) k xs).length) (h' : i < (iter (run ss) (k + 1) xs).length), tb (iter (run ss) k xs)[i] b = tb (iter (run ss) (k + 1) xs)[i] b := fun i h h' => by
      have : ((iter (run ss) k xs).map (fun x => tb x b))[i]'(by simpa using h) = ((iter (run ss) (k + 1) xs).map (fun x => tb x b))[i]'(by simpa using h') := by congr 1
      simpa using this
    have q2 := run_local b ss _ _ hg hl (hk k) (hk (k + 1)) q
    rw [iter_succ _ k] at q2
    refine List.ext_getElem ?_ fun i h h' => ?_
    · simp only [List.length_map]
      rw [← iter_succ (run ss), ← iter_succ (run ss), (hk _).1, (hk _).1]
    · simpa using q2 i (by simpa using h) (by simpa using h')
end

/-- A function that goes on till its round changes nothing comes to where that stands still. -/
theorem grow_ends {α : Type} [DecidableEq α] (g : Nat → α → Option α) (pass : α → α × Bool) (F : α → α) (I : α → Prop) (hg : ∀ k x, g (k + 1) x = if (pass x).2 = true then g k (pass x).1 else some (pass x).1) (hI : ∀ x, I x → I (F x))
    (hp : ∀ x, I x → pass x = (F x, decide (F x ≠ x))) : ∀ (m : Nat) (x : α), I x → F (iter F m x) = iter F m x → ∀ k, m + 1 ≤ k → g k x = some (iter F m x)
  | m, x, hx, hs, 0, hk => by omega
  | 0, x, hx, hs, k + 1, hk => by
    have hs' : F x = x := hs
    rw [hg, hp x hx, hs']
    simp [iter]
  | m + 1, x, hx, hs, k + 1, hk => by
    rw [hg, hp x hx]
    by_cases e : F x = x
    · rw [iter_fixed F e, e]; simp
    · rw [decide_eq_true e, if_pos rfl]
      exact grow_ends g pass F I hg hI hp m (F x) (hI x hx) hs k (by omega)

end Go.Proofs.Ytggfiopajogiiaa.P

set_option linter.unusedVariables false
set_option linter.unusedSimpArgs false
namespace Go.Proofs.Ytggfiopajogiiaa.P
open Go.RowKit Go.Proofs.YtggfiopajogiiaaW.PrintWords Go.Proofs.YtggfiopajogiiaaW.PrintLast Go.Proofs.YtggfiopajogiiaaW.PrintMore Bitty

/-! ### sets of numbers below 64 -/
instance : Bitty Int where
  tb x b := x.toNat.testBit b
  ok x := 0 ≤ x ∧ x < 18446744073709551616
  ext := fun {x y} hx hy h => by
    have := Nat.eq_of_testBit_eq h
    omega

theorem ok_zero : ok (0 : Int) := ⟨by omega, by omega⟩
theorem tb_zero (b : Nat) : tb (0 : Int) b = false := Nat.zero_testBit b
theorem or_nat {x y : Int} (hx : ok x) (hy : ok y) : Go.bits .or .u64 x y = ((x.toNat ||| y.toNat : Nat) : Int) := by
  have h1 : x = ((x.toNat : Nat) : Int) := by have := hx.1; omega
  have h2 : y = ((y.toNat : Nat) : Int) := by have := hy.1; omega
  have h3 := hx.2
  have h4 := hy.2
  generalize x.toNat = a at *
  generalize y.toNat = b at *
  subst h1
  subst h2
  exact bits_or_u64_nat a b (by omega) (by omega)
theorem or_ok {x y : Int} (hx : ok x) (hy : ok y) : ok (Go.bits .or .u64 x y) := by
  rw [or_nat hx hy]
  have h3 := hx.2
  have h4 := hy.2
  have := Nat.or_lt_two_pow (n := 64) (x := x.toNat) (y := y.toNat) (by omega) (by omega)
  exact ⟨by omega, by omega⟩
theorem or_tb {x y : Int} (hx : ok x) (hy : ok y) (b : Nat) : tb (Go.bits .or .u64 x y) b = (tb x b || tb y b) := by
  rw [or_nat hx hy]
  show Nat.testBit (Int.toNat _) b = _
  rw [Int.toNat_natCast, Nat.testBit_or]
  rfl
theorem bit_some (n : Int) (h0 : 0 ≤ n) (h1 : n < 64) : bits_bit.f n = some ((2 ^ n.toNat : Nat) : Int) := by
  unfold bits_bit.f
  rw [if_neg (by omega), if_neg (by omega), if_pos h0]
  have hn : n.toNat < 64 := by omega
  have hp : 2 ^ n.toNat < 18446744073709551616 := Nat.pow_lt_pow_right (by decide) hn
  unfold shl
  rw [show min n.toNat (IntKind.bits .u64) = n.toNat from Nat.min_eq_left (Nat.le_of_lt hn), IntKind.wrap_u64, Int.one_mul]
  have e : ((2 : Int) ^ n.toNat) = ((2 ^ n.toNat : Nat) : Int) := by simp
  rw [e]
  generalize 2 ^ n.toNat = p at hp
  congr 1
  omega
theorem bit_ok (n : Int) (h0 : 0 ≤ n) (h1 : n < 64) : ok ((2 ^ n.toNat : Nat) : Int) := by
  have hp : 2 ^ n.toNat < 18446744073709551616 := Nat.pow_lt_pow_right (by decide) (by omega : n.toNat < 64)
  generalize 2 ^ n.toNat = q at hp ⊢
  exact ⟨by omega, by omega⟩
theorem bit_tb (n b : Nat) : tb ((2 ^ n : Nat) : Int) b = decide (n = b) := by
  show Nat.testBit (Int.toNat _) b = _
  rw [Int.toNat_natCast, Nat.testBit_two_pow]
theorem with_some (out n : Int) (h0 : 0 ≤ n) (h1 : n < 64) : bits_With.f out n = some (Go.bits .or .u64 out ((2 ^ n.toNat : Nat) : Int)) := by
  unfold bits_With.f
  rw [bit_some n h0 h1]
  rfl
theorem of_one (k : Nat) (hk : 2 ≤ k) (n : Int) (h0 : 0 ≤ n) (h1 : n < 64) : bits_Of.f k [n] = some ((2 ^ n.toNat : Nat) : Int) := by
  obtain ⟨k, rfl⟩ : ∃ j, k = j + 2 := ⟨k - 2, by omega⟩
  have e : rd [n] 0 = n := rfl
  have w1 : wrap64 (0 + 1) = 1 := by unfold wrap64; omega
  unfold bits_Of.f bits_Of.l0 bits_Of.l0
  simp only [List.length_cons, List.length_nil]
  rw [if_pos (by omega), if_pos (by omega), if_pos (by omega), e, bit_some n h0 h1, Option.bind_some, w1, if_neg (by omega), or_nat ok_zero (bit_ok n h0 h1)]
  have hp : Int.toNat ((2 ^ n.toNat : Nat) : Int) = 2 ^ n.toNat := Int.toNat_natCast _
  rw [hp]
  simp

/-! ### rows -/
section
variable (nT nS : Int) (es : List Bool)
def rowB (fs : List Int) (behind : Int) (b : Nat) : List Int → Bool
  | [] => tb behind b
  | s :: l => if nT ≤ s ∨ s < -nS then false else if 0 ≤ s then decide (s.toNat = b) else tb (rd fs (-1 - s)) b || (rdOf false es (-1 - s) && rowB fs behind b l)

theorem rowF_bits (hT : nT ≤ 60) (fs : List Int) (behind : Int) (hfs : ∀ i, ok (rd fs i)) (hb : ok behind) : ∀ (l : List Int) (out : Int), ok out →
    ∃ q, rowF nT nS es fs behind l out = some q ∧ ok q ∧ ∀ b, tb q b = (tb out b || rowB nT nS es fs behind b l)
  | [], out, ho => ⟨_, rfl, or_ok ho hb, fun b => or_tb ho hb b⟩
  | s :: l, out, ho => by
    by_cases h1 : nT ≤ s ∨ s < -nS
    · refine ⟨out, by unfold rowF; rw [if_pos h1], ho, fun b => ?_⟩
      unfold rowB; rw [if_pos h1, Bool.or_false]
    · by_cases h2 : 0 ≤ s
      · refine ⟨_, by unfold rowF; rw [if_neg h1, if_pos h2]; exact with_some out s h2 (by omega), or_ok ho (bit_ok s h2 (by omega)), fun b => ?_⟩
        rw [or_tb ho (bit_ok s h2 (by omega)), bit_tb]
        unfold rowB; rw [if_neg h1, if_pos h2]
      · have hu : bits_Union.f out (rd fs (-1 - s)) = some (Go.bits .or .u64 out (rd fs (-1 - s))) := rfl
        have ho2 := or_ok ho (hfs (-1 - s))
        cases he : rdOf false es (-1 - s)
        · refine ⟨_, by unfold rowF; rw [if_neg h1, if_neg h2, hu, Option.bind_some, he, if_neg (by decide)], ho2, fun b => ?_⟩
          rw [or_tb ho (hfs _)]
          unfold rowB; rw [if_neg h1, if_neg h2, he, Bool.false_and, Bool.or_false]
        · obtain ⟨q, q1, q2, q3⟩ := rowF_bits hT fs behind hfs hb l _ ho2
          refine ⟨q, by unfold rowF; rw [if_neg h1, if_neg h2, hu, Option.bind_some, he, if_pos rfl]; exact q1, q2, fun b => ?_⟩
          rw [q3, or_tb ho (hfs _)]
          conv => rhs; unfold rowB
          rw [if_neg h1, if_neg h2, he, Bool.true_and, Bool.or_assoc]

/-- With what a row begins. -/
def rowV (fs : List Int) (behind : Int) (l : List Int) : Int := (rowF nT nS es fs behind l 0).getD 0
theorem rowV_has (hT : nT ≤ 60) (fs : List Int) (behind : Int) (hfs : ∀ i, ok (rd fs i)) (hb : ok behind) (l : List Int) :
    rowF nT nS es fs behind l 0 = some (rowV nT nS es fs behind l) ∧ ok (rowV nT nS es fs behind l) ∧ ∀ b, tb (rowV nT nS es fs behind l) b = rowB nT nS es fs behind b l := by
  obtain ⟨q, q1, q2, q3⟩ := rowF_bits nT nS es hT fs behind hfs hb l 0 ok_zero
  unfold rowV
  rw [q1]
  exact ⟨rfl, q2, fun b => by rw [Option.getD_some, q3, tb_zero, Bool.false_or]⟩
theorem rowB_local (b : Nat) (fs gs : List Int) (u v : Int) (huv : tb u b = tb v b) (h : ∀ i, tb (rd fs i) b = tb (rd gs i) b) : ∀ l, rowB nT nS es fs u b l = rowB nT nS es gs v b l
  | [] => huv
  | s :: l => by unfold rowB; rw [h, rowB_local b fs gs u v huv h l]
end

theorem ok_rd {n : Nat} {xs : List Int} (h : okL n xs) (i : Int) : ok (rd xs i) := by
  unfold rd
  by_cases hi : i.toNat < xs.length
  · have e : xs.getD i.toNat 0 = xs[i.toNat] := by simp [List.getD, hi]
    rw [e]; exact h.2 _ hi
  · have e : xs.getD i.toNat 0 = 0 := by simp [List.getD, List.getElem?_eq_none (Nat.le_of_not_lt hi)]
    rw [e]; exact ok_zero
theorem okL_zero (n : Nat) : okL n (List.replicate n (0 : Int)) := ⟨List.length_replicate, fun i h => by rw [List.getElem_replicate]; exact ok_zero⟩
theorem okL_bool (n : Nat) (xs : List Bool) (h : xs.length = n) : okL n xs := ⟨h, fun _ _ => trivial⟩

/-! ### the steps -/
theorem passG_run {β : Type} [DecidableEq β] (z : β) (more : List β → S45 → β) : ∀ (ps : List S45) (st : List β × Bool), passG z more ps st = runF z (ps.map fun p => (p.f1.toNat, fun xs => more xs p)) st
  | [], _ => rfl
  | p :: ps, st => passG_run z more ps _

theorem growG_ends {β : Type} [DecidableEq β] [Bitty β] (z : β) (more : List β → S45 → β) (ps : List S45) (n : Nat) (xs : List β) (hx : okL n xs)
    (hg : Grows n (ps.map fun p => (p.f1.toNat, fun xs => more xs p))) (hl : Local n (ps.map fun p => (p.f1.toNat, fun xs => more xs p))) (hi : ∀ p ∈ ps, p.f1.toNat < n) (k : Nat) (hk : n + 1 ≤ k) :
    growG z more ps k xs = some (iter (run (ps.map fun p => (p.f1.toNat, fun xs => more xs p))) n xs) := by
  refine grow_ends (growG z more ps) (fun xs => passG z more ps (xs, false)) (run (ps.map fun p => (p.f1.toNat, fun xs => more xs p))) (okL n) (fun k x => rfl) (fun x h => (run_ok _ x hg h).1) (fun x h => ?_) n xs hx (run_stable _ xs hg hl hx) k hk
  rw [passG_run, runF_eq z _ x false hg (fun s hs => ?_) h, Bool.false_or]
  obtain ⟨p, hp, rfl⟩ := List.mem_map.1 hs
  exact hi p hp

/-- What is told by induction of all that grew. -/
theorem least {β : Type} [Bitty β] (z : β) {n : Nat} (ss : List (Nat × (List β → β))) (xs0 : List β) (hg : Grows n ss) (hx : okL n xs0) (C : Nat → Nat → Prop)
    (h0 : ∀ i b, i < n → tb (xs0.getD i z) b = true → C i b) (hs : ∀ s ∈ ss, ∀ xs, okL n xs → (∀ i b, i < n → tb (xs.getD i z) b = true → C i b) → ∀ b, tb (s.2 xs) b = true → C s.1 b) :
    ∀ (m : Nat) i b, i < n → tb ((iter (run ss) m xs0).getD i z) b = true → C i b := fun m => by
  have hall : ∀ xs, okL n xs ∧ (∀ i b, i < n → tb (xs.getD i z) b = true → C i b) → okL n (run ss xs) ∧ (∀ i b, i < n → tb ((run ss xs).getD i z) b = true → C i b) := fun xs hxs =>
    run_inv (fun xs => okL n xs ∧ (∀ i b, i < n → tb (xs.getD i z) b = true → C i b)) ss xs (fun s hs' xs h => ⟨(set_grow h.1 (hg s hs' xs h.1).1 (hg s hs' xs h.1).2).1, fun i b hi hb => by
      have hlen : i < xs.length := by rw [h.1.1]; exact hi
      have e : (xs.set s.1 (s.2 xs)).getD i z = if s.1 = i then s.2 xs else xs[i] := by
        rw [List.getD, List.getElem?_eq_getElem (by rw [List.length_set]; exact hlen), Option.getD_some, List.getElem_set]
      rw [e] at hb
      split at hb
      · rename_i q; subst q; exact hs s hs' xs h.1 h.2 b hb
      · refine h.2 i b hi ?_
        rw [List.getD, List.getElem?_eq_getElem hlen, Option.getD_some]
        exact hb⟩) hxs
  exact (iter_inv (run ss) (fun xs => okL n xs ∧ (∀ i b, i < n → tb (xs.getD i z) b = true → C i b)) hall m xs0 ⟨hx, h0⟩).2

end Go.Proofs.Ytggfiopajogiiaa.P

set_option linter.unusedVariables false
set_option linter.unusedSimpArgs false
namespace Go.Proofs.Ytggfiopajogiiaa.P
open Go.RowKit Go.Proofs.YtggfiopajogiiaaW.PrintWords Go.Proofs.YtggfiopajogiiaaW.PrintLast Go.Proofs.YtggfiopajogiiaaW.PrintMore Bitty

structure Gram (nT nS : Nat) (ps : List S45) : Prop where
  hT : nT ≤ 60
  hS : nS ≤ 60
  srt : ∀ p ∈ ps, 0 ≤ p.f1 ∧ p.f1 < nS
  sym : ∀ p ∈ ps, ∀ s ∈ p.f2, -(nS : Int) ≤ s ∧ s < nT

theorem gram_of {l0 : List S51} {l1 : List S63} {l2 : List ByteArray} {l3 : List S45} {st : Int} (h : validB l0 l1 l2 l3 st = true) (hr : ∀ p ∈ l3, ∀ s ∈ p.f2, -9223372036854775808 ≤ s ∧ s ≤ 9223372036854775807) :
    Gram l0.length l2.length l3 ∧ 0 ≤ st ∧ st < l2.length := by
  have hT := valid_terms h
  obtain ⟨h0, h1, h2⟩ := valid_has h
  simp only [validB, Bool.and_eq_true, Bool.not_eq_true', decide_eq_false_iff_not, List.all_eq_true] at h
  obtain ⟨⟨⟨⟨⟨⟨⟨⟨-, -⟩, -⟩, -⟩, -⟩, h5⟩, -⟩, -⟩, -⟩ := h
  refine ⟨⟨by omega, by omega, fun p hp => (h2 p hp).1, fun p hp s hs => ?_⟩, h1⟩
  have := h5 p hp
  simp only [prodB, Bool.and_eq_true, Bool.not_eq_true', decide_eq_false_iff_not] at this
  obtain ⟨⟨h6, h7⟩, h8⟩ := this
  have h9 : ¬ oddB l0.length l2.length s = true := fun ho => by
    have : p.f2.any (oddB l0.length l2.length) = true := List.any_eq_true.2 ⟨s, hs, ho⟩
    rw [h8] at this; cases this
  have hb := hr p hp s hs
  by_cases hneg : s < 0
  · have h10 := (h2 p hp).2 s hs hneg
    rw [IntWalk.i64_in _ (by omega)] at h10
    omega
  · have hn : decide (0 ≤ s) = true := decide_eq_true (by omega)
    have hy : decide (s < 0) = false := decide_eq_false hneg
    simp only [oddB, hn, hy, Bool.false_and, Bool.or_false, Bool.true_and, Bool.not_eq_true', Bool.not_eq_true, Bool.not_eq_false] at h9
    have h10 : 0 ≤ s ∧ s < l0.length := by simpa [inB] using h9
    omega

theorem wrap_neg {s : Int} (h0 : -60 ≤ s) (h1 : s < 0) : IntKind.i64.wrap (-1 - s) = -1 - s := IntWalk.i64_in _ (by omega)

theorem local_bool {n : Nat} (ss : List (Nat × (List Bool → Bool))) : Local n ss := fun s _ b xs ys hx hy h => by
  have : xs = ys := List.ext_getElem (by rw [hx.1, hy.1]) fun i h1 h2 => h i h1 h2
  rw [this]

section
variable {nT nS : Nat} {ps : List S45} (hG : Gram nT nS ps)
include hG
theorem srt_lt (p : S45) (hp : p ∈ ps) : p.f1.toNat < nS := by have := hG.srt p hp; omega
theorem sym_in (p : S45) (hp : p ∈ ps) (s : Int) (hs : s ∈ p.f2) (hn : s < 0) : IntKind.i64.wrap (-1 - s) = -1 - s ∧ 0 ≤ -1 - s ∧ (-1 - s).toNat < nS := by
  have h1 := hG.sym p hp s hs
  have h2 := hG.hS
  exact ⟨wrap_neg (by omega) hn, by omega, by omega⟩
end

theorem getD_at {β : Type} (z : β) (xs : List β) (i : Nat) (h : i < xs.length) : xs.getD i z = xs[i] := by rw [List.getD, List.getElem?_eq_getElem h, Option.getD_some]

/-! ### Empty, Lives -/
section
variable (term : Bool) {nT nS : Nat} {ps : List S45}
def allS (term : Bool) (ps : List S45) : List (Nat × (List Bool → Bool)) := ps.map fun p => (p.f1.toNat, fun xs => moreB term xs p)
def allR (term : Bool) (nS : Nat) (ps : List S45) : List Bool := iter (run (allS term ps)) nS (List.replicate nS false)
theorem allS_grows : Grows nS (allS term ps) := fun s hs xs hx => ⟨trivial, fun h b hb => by
  obtain ⟨p, hp, rfl⟩ := List.mem_map.1 hs
  have hb' : xs[p.f1.toNat] = true := hb
  show moreB term xs p = true
  unfold moreB
  split
  · show xs.getD p.f1.toNat false = true
    rw [getD_at false xs _ h]; exact hb'
  · rfl⟩
theorem allR_len : (allR term nS ps).length = nS := (iter_inv (run (allS term ps)) (okL nS) (fun x h => (run_ok _ x (allS_grows term) h).1) nS _ (okL_bool _ _ List.length_replicate)).1
theorem allR_still : run (allS term ps) (allR term nS ps) = allR term nS ps := run_stable _ _ (allS_grows term) (local_bool _) (okL_bool _ _ List.length_replicate)
variable (hG : Gram nT nS ps)
include hG
theorem allR_is (k : Nat) (hk : nS + 1 ≤ k) : growG false (moreB term) ps k (List.replicate nS false) = some (allR term nS ps) :=
  growG_ends false (moreB term) ps nS _ (okL_bool _ _ List.length_replicate) (allS_grows term) (local_bool _) (srt_lt hG) k hk
theorem allR_closed (p : S45) (hp : p ∈ ps) (h : ∀ s ∈ p.f2, (0 ≤ s → term = true) ∧ (s < 0 → rdOf false (allR term nS ps) (-1 - s) = true)) : rdOf false (allR term nS ps) p.f1 = true := by
  have hlen : (allR term nS ps).length = nS := allR_len term
  have h1 := run_still _ _ (allS_grows term) (okL_bool _ _ hlen) (allR_still term) (p.f1.toNat, fun xs => moreB term xs p) (List.mem_map.2 ⟨p, hp, rfl⟩)
  have hlt : p.f1.toNat < (allR term nS ps).length := by rw [hlen]; exact srt_lt hG p hp
  have h2 := still_at h1 hlt
  show (allR term nS ps).getD p.f1.toNat false = true
  rw [getD_at false _ _ hlt, h2]
  show moreB term (allR term nS ps) p = true
  unfold moreB
  rw [if_neg]
  intro ha
  obtain ⟨s, hs, hbad⟩ := List.any_eq_true.1 ha
  have h3 := h s hs
  by_cases hn : s < 0
  · rw [badB, (sym_in hG p hp s hs hn).1, h3.2 hn, decide_eq_false (by omega : ¬ 0 ≤ s)] at hbad
    simp at hbad
  · rw [badB, h3.1 (by omega), decide_eq_false hn] at hbad
    simp at hbad
/-- By induction: what may be told of all sorts that are so. -/
theorem allR_least (C : Nat → Prop) (h : ∀ p ∈ ps, (∀ s ∈ p.f2, (0 ≤ s → term = true) ∧ (s < 0 → C (-1 - s).toNat)) → C p.f1.toNat) (i : Nat) (hi : i < nS) (hr : (allR term nS ps).getD i false = true) : C i := by
  refine least false (allS term ps) (List.replicate nS false) (allS_grows term) (okL_bool _ _ List.length_replicate) (fun i _ => C i) (fun i b hi hb => ?_) (fun s hs xs hx hxs b hb => ?_) nS i 0 hi hr
  · have e : (List.replicate nS false).getD i false = false := by rw [getD_at false _ i (by rw [List.length_replicate]; exact hi), List.getElem_replicate]
    rw [e] at hb; cases hb
  · obtain ⟨p, hp, rfl⟩ := List.mem_map.1 hs
    have hb' : moreB term xs p = true := hb
    unfold moreB at hb'
    split at hb'
    · exact hxs p.f1.toNat 0 (srt_lt hG p hp) hb'
    · rename_i ha
      refine h p hp fun s hs => ?_
      have hbad : badB term xs s = false := by
        cases q : badB term xs s
        · rfl
        · exact absurd (List.any_eq_true.2 ⟨s, hs, q⟩) ha
      refine ⟨fun h0 => ?_, fun h0 => ?_⟩
      · rw [badB, decide_eq_true h0, decide_eq_false (by omega : ¬ s < 0)] at hbad
        simpa using hbad
      · obtain ⟨e1, e2, e3⟩ := sym_in hG p hp s hs h0
        rw [badB, e1, decide_eq_false (by omega : ¬ 0 ≤ s), decide_eq_true h0] at hbad
        have hbad' : rdOf false xs (-1 - s) = true := by simpa using hbad
        exact hxs _ 0 e3 hbad'
end

/-! ### First -/
section
variable {nT nS : Nat} {es : List Bool} {ps : List S45}
def firS (nT nS : Nat) (es : List Bool) (ps : List S45) : List (Nat × (List Int → Int)) := ps.map fun p => (p.f1.toNat, fun xs => moreS nT nS es xs p)
def firR (nT nS : Nat) (es : List Bool) (ps : List S45) : List Int := iter (run (firS nT nS es ps)) nS (List.replicate nS 0)
theorem moreS_has (hT : nT ≤ 60) (xs : List Int) (hx : okL nS xs) (p : S45) : ok (moreS nT nS es xs p) ∧ ∀ b, tb (moreS nT nS es xs p) b = (tb (rdOf 0 xs p.f1) b || rowB nT nS es xs 0 b p.f2) := by
  obtain ⟨r1, r2, r3⟩ := rowV_has nT nS es (by omega) xs 0 (ok_rd hx) ok_zero p.f2
  have h0 : ok (rdOf 0 xs p.f1) := ok_rd hx p.f1
  have e : moreS nT nS es xs p = Go.bits .or .u64 (rdOf 0 xs p.f1) (rowV nT nS es xs 0 p.f2) := rfl
  rw [e]
  exact ⟨or_ok h0 r2, fun b => by rw [or_tb h0 r2, r3]⟩
theorem firS_grows (hT : nT ≤ 60) : Grows nS (firS nT nS es ps) := fun s hs xs hx => by
  obtain ⟨p, hp, rfl⟩ := List.mem_map.1 hs
  obtain ⟨h1, h2⟩ := moreS_has (es := es) hT xs hx p
  refine ⟨h1, fun h b hb => ?_⟩
  have e : rdOf 0 xs p.f1 = xs[p.f1.toNat] := getD_at 0 xs _ h
  rw [h2, e, hb, Bool.true_or]
theorem rd_local {n b : Nat} {xs ys : List Int} (hx : okL n xs) (hy : okL n ys) (h : ∀ i (h : i < xs.length) (h' : i < ys.length), tb xs[i] b = tb ys[i] b) (i : Int) : tb (rd xs i) b = tb (rd ys i) b := by
  unfold rd
  by_cases hi : i.toNat < n
  · have h1 : i.toNat < xs.length := by rw [hx.1]; exact hi
    have h2 : i.toNat < ys.length := by rw [hy.1]; exact hi
    rw [getD_at 0 xs _ h1, getD_at 0 ys _ h2]; exact h _ h1 h2
  · have h1 : xs.length ≤ i.toNat := by rw [hx.1]; omega
    have h2 : ys.length ≤ i.toNat := by rw [hy.1]; omega
    simp [List.getD, List.getElem?_eq_none h1, List.getElem?_eq_none h2]
theorem firS_local (hT : nT ≤ 60) : Local nS (firS nT nS es ps) := fun s hs b xs ys hx hy h => by
  obtain ⟨p, hp, rfl⟩ := List.mem_map.1 hs
  show tb (moreS nT nS es xs p) b = tb (moreS nT nS es ys p) b
  rw [(moreS_has hT xs hx p).2, (moreS_has hT ys hy p).2, show tb (rdOf 0 xs p.f1) b = tb (rdOf 0 ys p.f1) b from rd_local hx hy h p.f1, rowB_local nT nS es b xs ys 0 0 rfl (rd_local hx hy h)]
variable (hG : Gram nT nS ps)
include hG
theorem firR_is (k : Nat) (hk : nS + 1 ≤ k) : growG (0 : Int) (moreS nT nS es) ps k (List.replicate nS 0) = some (firR nT nS es ps) :=
  growG_ends 0 (moreS nT nS es) ps nS _ (okL_zero nS) (firS_grows hG.hT) (firS_local hG.hT) (srt_lt hG) k hk
theorem firR_ok : okL nS (firR nT nS es ps) := iter_inv (run (firS nT nS es ps)) (okL nS) (fun x h => (run_ok _ x (firS_grows hG.hT) h).1) nS _ (okL_zero nS)
theorem firR_still : run (firS nT nS es ps) (firR nT nS es ps) = firR nT nS es ps := run_stable _ _ (firS_grows hG.hT) (firS_local hG.hT) (okL_zero nS)
theorem firR_closed (p : S45) (hp : p ∈ ps) (b : Nat) (h : rowB nT nS es (firR nT nS es ps) 0 b p.f2 = true) : tb (rd (firR nT nS es ps) p.f1) b = true := by
  have hok : okL nS (firR nT nS es ps) := firR_ok hG
  have h1 := run_still _ _ (firS_grows hG.hT) hok (firR_still hG) (p.f1.toNat, fun xs => moreS nT nS es xs p) (List.mem_map.2 ⟨p, hp, rfl⟩)
  have hlt : p.f1.toNat < (firR nT nS es ps).length := by rw [hok.1]; exact srt_lt hG p hp
  have h2 : (firR nT nS es ps)[p.f1.toNat] = moreS nT nS es (firR nT nS es ps) p := still_at h1 hlt
  show tb ((firR nT nS es ps).getD p.f1.toNat 0) b = true
  rw [getD_at 0 _ _ hlt, h2, (moreS_has hG.hT _ hok p).2, h, Bool.or_true]
theorem firR_least (C : Nat → Nat → Prop) (h : ∀ p ∈ ps, ∀ xs, okL nS xs → (∀ i b, i < nS → tb (xs.getD i 0) b = true → C i b) → ∀ b, rowB nT nS es xs 0 b p.f2 = true → C p.f1.toNat b) (i b : Nat) (hi : i < nS) (hr : tb ((firR nT nS es ps).getD i 0) b = true) : C i b := by
  refine least 0 (firS nT nS es ps) (List.replicate nS 0) (firS_grows hG.hT) (okL_zero nS) C (fun i b hi hb => ?_) (fun s hs xs hx hxs b hb => ?_) nS i b hi hr
  · have e : (List.replicate nS (0 : Int)).getD i 0 = 0 := by rw [getD_at 0 _ i (by rw [List.length_replicate]; exact hi), List.getElem_replicate]
    rw [e, tb_zero] at hb; cases hb
  · obtain ⟨p, hp, rfl⟩ := List.mem_map.1 hs
    have hb' : tb (moreS nT nS es xs p) b = true := hb
    rw [(moreS_has hG.hT xs hx p).2, Bool.or_eq_true] at hb'
    rcases hb' with hb' | hb'
    · exact hxs p.f1.toNat b (srt_lt hG p hp) hb'
    · exact h p hp xs hx hxs b hb'
end

end Go.Proofs.Ytggfiopajogiiaa.P

set_option linter.unusedVariables false
set_option linter.unusedSimpArgs false
namespace Go.Proofs.Ytggfiopajogiiaa.P
open Go.RowKit Go.Proofs.YtggfiopajogiiaaW.PrintWords Go.Proofs.YtggfiopajogiiaaW.PrintLast Go.Proofs.YtggfiopajogiiaaW.PrintMore Bitty

theorem set_getD {β : Type} (z : β) (xs : List β) (i : Nat) : xs.set i (xs.getD i z) = xs := by
  apply List.ext_getElem (by simp)
  intro j h h'
  rw [List.getElem_set]
  split
  · rename_i q; subst q; exact getD_at z xs i h'
  · rfl

section
variable (nT nS : Int) (es : List Bool) (fs : List Int)
def symS (srt : Int) : List Int → List (Nat × (List Int → Int))
  | [] => []
  | s :: l => if 0 ≤ s then symS srt l else ((IntKind.i64.wrap (-1 - s)).toNat, fun out => folMore nT nS es fs srt s l out) :: symS srt l
def folS (ps : List S45) : List (Nat × (List Int → Int)) := ps.flatMap fun p => symS nT nS es fs p.f1 p.f2
theorem runF_append (z : Int) (a b : List (Nat × (List Int → Int))) (st : List Int × Bool) : runF z (a ++ b) st = runF z b (runF z a st) := List.foldl_append
theorem folSym_run (srt : Int) : ∀ (l : List Int) (st : List Int × Bool), folSym nT nS es fs srt l st = runF 0 (symS nT nS es fs srt l) st
  | [], _ => rfl
  | s :: l, st => by
    unfold folSym symS
    rw [folSym_run srt l]
    by_cases h : 0 ≤ s
    · rw [if_pos h, if_pos h]
    · rw [if_neg h, if_neg h]
      show _ = runF 0 (symS nT nS es fs srt l) (if st.1.getD (IntKind.i64.wrap (-1 - s)).toNat 0 = folMore nT nS es fs srt s l st.1 then st else (st.1.set (IntKind.i64.wrap (-1 - s)).toNat (folMore nT nS es fs srt s l st.1), true))
      congr 1
      by_cases e : st.1.getD (IntKind.i64.wrap (-1 - s)).toNat 0 = folMore nT nS es fs srt s l st.1
      · rw [if_pos e, ← e, set_getD]
        have : rdOf 0 st.1 (IntKind.i64.wrap (-1 - s)) = st.1.getD (IntKind.i64.wrap (-1 - s)).toNat 0 := rfl
        rw [this]
        simp
      · rw [if_neg e]
        have : folMore nT nS es fs srt s l st.1 ≠ rdOf 0 st.1 (IntKind.i64.wrap (-1 - s)) := fun q => e q.symm
        rw [decide_eq_true this, Bool.or_true]
theorem folPass_run : ∀ (ps : List S45) (st : List Int × Bool), folPass nT nS es fs ps st = runF 0 (folS nT nS es fs ps) st
  | [], _ => rfl
  | p :: ps, st => by
    have e : folS nT nS es fs (p :: ps) = symS nT nS es fs p.f1 p.f2 ++ folS nT nS es fs ps := by simp [folS]
    rw [e, runF_append, ← folSym_run]
    exact folPass_run ps _
theorem symS_mem (srt : Int) : ∀ (l : List Int) (x : Nat × (List Int → Int)), x ∈ symS nT nS es fs srt l ↔ ∃ a s l', l = a ++ s :: l' ∧ s < 0 ∧ x = ((IntKind.i64.wrap (-1 - s)).toNat, fun out => folMore nT nS es fs srt s l' out)
  | [], x => by simp [symS]
  | s :: l, x => by
    have ih := symS_mem srt l x
    unfold symS
    constructor
    · intro h
      by_cases h0 : 0 ≤ s
      · rw [if_pos h0] at h
        obtain ⟨a, s', l', e, h1, h2⟩ := ih.1 h
        exact ⟨s :: a, s', l', by rw [e]; rfl, h1, h2⟩
      · rw [if_neg h0] at h
        rcases List.mem_cons.1 h with h | h
        · exact ⟨[], s, l, rfl, by omega, h⟩
        · obtain ⟨a, s', l', e, h1, h2⟩ := ih.1 h
          exact ⟨s :: a, s', l', by rw [e]; rfl, h1, h2⟩
    · rintro ⟨a, s', l', e, h1, h2⟩
      cases a with
      | nil =>
        have e1 : s = s' := by simpa using (List.cons.inj e).1
        have e2 : l = l' := (List.cons.inj e).2
        subst e1
        subst e2
        rw [if_neg (by omega), h2]
        exact List.mem_cons_self
      | cons y a =>
        have e2 : l = a ++ s' :: l' := (List.cons.inj e).2
        have h3 := ih.2 ⟨a, s', l', e2, h1, h2⟩
        split
        · exact h3
        · exact List.mem_cons_of_mem _ h3
theorem folS_mem (ps : List S45) (x : Nat × (List Int → Int)) : x ∈ folS nT nS es fs ps ↔ ∃ p ∈ ps, ∃ a s l, p.f2 = a ++ s :: l ∧ s < 0 ∧ x = ((IntKind.i64.wrap (-1 - s)).toNat, fun out => folMore nT nS es fs p.f1 s l out) := by
  simp only [folS, List.mem_flatMap, symS_mem]
end

section
variable {nT nS : Nat} {es : List Bool} {fs : List Int} {ps : List S45} {st : Int}
theorem folMore_has (hT : nT ≤ 60) (hf : okL nS fs) (srt s : Int) (l : List Int) (xs : List Int) (hx : okL nS xs) : ok (folMore nT nS es fs srt s l xs) ∧ ∀ b, tb (folMore nT nS es fs srt s l xs) b = (tb (rd xs (IntKind.i64.wrap (-1 - s))) b || rowB nT nS es fs (rd xs srt) b l) := by
  have h0 : ok (rd xs (IntKind.i64.wrap (-1 - s))) := ok_rd hx _
  have h1 : ok (rd xs srt) := ok_rd hx _
  obtain ⟨r1, r2, r3⟩ := rowV_has nT nS es (by omega) fs (rd xs srt) (ok_rd hf) h1 l
  have e : folMore nT nS es fs srt s l xs = Go.bits .or .u64 (rd xs (IntKind.i64.wrap (-1 - s))) (rowV nT nS es fs (rd xs srt) l) := rfl
  rw [e]
  exact ⟨or_ok h0 r2, fun b => by rw [or_tb h0 r2, r3]⟩
theorem folS_grows (hT : nT ≤ 60) (hf : okL nS fs) : Grows nS (folS nT nS es fs ps) := fun x hx xs hxs => by
  obtain ⟨p, hp, a, s, l, e, hs, rfl⟩ := (folS_mem _ _ _ _ _ _).1 hx
  obtain ⟨h1, h2⟩ := folMore_has (es := es) hT hf p.f1 s l xs hxs
  refine ⟨h1, fun h b hb => ?_⟩
  have e2 : rd xs (IntKind.i64.wrap (-1 - s)) = xs[(IntKind.i64.wrap (-1 - s)).toNat] := getD_at 0 xs _ h
  rw [h2, e2, hb, Bool.true_or]
theorem folS_local (hT : nT ≤ 60) (hf : okL nS fs) : Local nS (folS nT nS es fs ps) := fun x hx b xs ys hxs hys h => by
  obtain ⟨p, hp, a, s, l, e, hs, rfl⟩ := (folS_mem _ _ _ _ _ _).1 hx
  show tb (folMore nT nS es fs p.f1 s l xs) b = tb (folMore nT nS es fs p.f1 s l ys) b
  rw [(folMore_has hT hf p.f1 s l xs hxs).2, (folMore_has hT hf p.f1 s l ys hys).2, rd_local hxs hys h, rowB_local nT nS es b fs fs (rd xs p.f1) (rd ys p.f1) (rd_local hxs hys h p.f1) (fun _ => rfl)]
def fol0 (nS : Nat) (st : Int) : List Int := (List.replicate nS 0).set st.toNat ((2 ^ 63 : Nat) : Int)
def folR (nT nS : Nat) (es : List Bool) (fs : List Int) (ps : List S45) (st : Int) : List Int := iter (run (folS nT nS es fs ps)) nS (fol0 nS st)
theorem fol0_ok : okL nS (fol0 nS st) := by
  refine ⟨by rw [fol0, List.length_set, List.length_replicate], fun i h => ?_⟩
  simp only [fol0, List.getElem_set]
  split
  · exact ⟨by decide, by decide⟩
  · rw [List.getElem_replicate]; exact ok_zero
variable (hG : Gram nT nS ps) (hf : okL nS fs)
include hG hf
theorem folR_is (k : Nat) (hk : nS + 1 ≤ k) : folG nT nS es fs ps k (fol0 nS st) = some (folR nT nS es fs ps st) := by
  have hg : Grows nS (folS nT nS es fs ps) := folS_grows hG.hT hf
  refine grow_ends (folG nT nS es fs ps) (fun xs => folPass nT nS es fs ps (xs, false)) (run (folS nT nS es fs ps)) (okL nS) (fun k x => rfl) (fun x h => (run_ok _ x hg h).1) (fun x h => ?_) nS _ fol0_ok (run_stable _ _ hg (folS_local hG.hT hf) fol0_ok) k hk
  rw [folPass_run, runF_eq 0 _ x false hg (fun s hs => ?_) h, Bool.false_or]
  obtain ⟨p, hp, a, s, l, e, hn, rfl⟩ := (folS_mem _ _ _ _ _ _).1 hs
  have := sym_in hG p hp s (by rw [e]; simp) hn
  show (IntKind.i64.wrap (-1 - s)).toNat < nS
  rw [this.1]; exact this.2.2
theorem folR_ok : okL nS (folR nT nS es fs ps st) := iter_inv (run (folS nT nS es fs ps)) (okL nS) (fun x h => (run_ok _ x (folS_grows hG.hT hf) h).1) nS _ fol0_ok
theorem folR_still : run (folS nT nS es fs ps) (folR nT nS es fs ps st) = folR nT nS es fs ps st := run_stable _ _ (folS_grows hG.hT hf) (folS_local hG.hT hf) fol0_ok
theorem folR_closed (p : S45) (hp : p ∈ ps) (a : List Int) (s : Int) (l : List Int) (e : p.f2 = a ++ s :: l) (hn : s < 0) (b : Nat) (h : rowB nT nS es fs (rd (folR nT nS es fs ps st) p.f1) b l = true) : tb (rd (folR nT nS es fs ps st) (-1 - s)) b = true := by
  have hok : okL nS (folR nT nS es fs ps st) := folR_ok hG hf
  obtain ⟨e1, e2, e3⟩ := sym_in hG p hp s (by rw [e]; simp) hn
  have h1 := run_still _ _ (folS_grows hG.hT hf) hok (folR_still hG hf) ((IntKind.i64.wrap (-1 - s)).toNat, fun out => folMore nT nS es fs p.f1 s l out) ((folS_mem _ _ _ _ _ _).2 ⟨p, hp, a, s, l, e, hn, rfl⟩)
  have hlt : (IntKind.i64.wrap (-1 - s)).toNat < (folR nT nS es fs ps st).length := by rw [hok.1, e1]; exact e3
  have h2 : (folR nT nS es fs ps st)[(IntKind.i64.wrap (-1 - s)).toNat] = folMore nT nS es fs p.f1 s l (folR nT nS es fs ps st) := still_at h1 hlt
  have e4 : rd (folR nT nS es fs ps st) (-1 - s) = (folR nT nS es fs ps st)[(IntKind.i64.wrap (-1 - s)).toNat] := by
    rw [← getD_at 0 _ _ hlt, e1]; rfl
  rw [e4, h2, (folMore_has hG.hT hf p.f1 s l _ hok).2, h, Bool.or_true]
theorem folR_start (h0 : 0 ≤ st) (h1 : st < nS) : tb (rd (folR nT nS es fs ps st) st) 63 = true := by
  have hle : okL nS (folR nT nS es fs ps st) ∧ leL (fol0 nS st) (folR nT nS es fs ps st) :=
    iter_inv (run (folS nT nS es fs ps)) (fun x => okL nS x ∧ leL (fol0 nS st) x) (fun x h => ⟨(run_ok _ x (folS_grows hG.hT hf) h.1).1, leL_trans h.2 (run_ok _ x (folS_grows hG.hT hf) h.1).2⟩) nS _ ⟨fol0_ok, leL_refl _⟩
  have q1 : st.toNat < (fol0 nS st).length := by rw [fol0_ok.1]; omega
  have q2 : st.toNat < (folR nT nS es fs ps st).length := by rw [hle.1.1]; omega
  have := hle.2.2 st.toNat q1 q2 63
  have e : rd (folR nT nS es fs ps st) st = (folR nT nS es fs ps st)[st.toNat] := getD_at 0 _ _ q2
  rw [e]
  refine this ?_
  have e3 : (fol0 nS st)[st.toNat] = ((2 ^ 63 : Nat) : Int) := by simp [fol0]
  rw [e3, bit_tb]; rfl
theorem folR_least (C : Nat → Nat → Prop) (h0 : 0 ≤ st) (h1 : st < nS) (hC : C st.toNat 63)
    (h : ∀ p ∈ ps, ∀ a s l, p.f2 = a ++ s :: l → s < 0 → ∀ xs, okL nS xs → (∀ i b, i < nS → tb (xs.getD i 0) b = true → C i b) → ∀ b, rowB nT nS es fs (rd xs p.f1) b l = true → C (-1 - s).toNat b)
    (i b : Nat) (hi : i < nS) (hr : tb ((folR nT nS es fs ps st).getD i 0) b = true) : C i b := by
  refine least 0 (folS nT nS es fs ps) (fol0 nS st) (folS_grows hG.hT hf) fol0_ok C (fun i b hi hb => ?_) (fun x hx xs hxs hc b hb => ?_) nS i b hi hr
  · rw [getD_at 0 _ i (by rw [fol0_ok.1]; exact hi)] at hb
    simp only [fol0, List.getElem_set] at hb
    split at hb
    · rename_i e
      rw [bit_tb] at hb
      have : 63 = b := by simpa using hb
      rw [← this, ← e]; exact hC
    · rw [List.getElem_replicate, tb_zero] at hb; cases hb
  · obtain ⟨p, hp, a, s, l, e, hn, rfl⟩ := (folS_mem _ _ _ _ _ _).1 hx
    obtain ⟨e1, e2, e3⟩ := sym_in hG p hp s (by rw [e]; simp) hn
    have hb' : tb (folMore nT nS es fs p.f1 s l xs) b = true := hb
    rw [(folMore_has hG.hT hf p.f1 s l xs hxs).2, Bool.or_eq_true, e1] at hb'
    show C (IntKind.i64.wrap (-1 - s)).toNat b
    rw [e1]
    rcases hb' with hb' | hb'
    · exact hc _ b e3 hb'
    · exact h p hp a s l e hn xs hxs hc b hb'
end

end Go.Proofs.Ytggfiopajogiiaa.P

set_option linter.unusedVariables false
set_option linter.unusedSimpArgs false
namespace Go.Proofs.Ytggfiopajogiiaa.P
open Go.RowKit Go.Proofs.YtggfiopajogiiaaW.PrintWords Go.Proofs.YtggfiopajogiiaaW.PrintLast Go.Proofs.YtggfiopajogiiaaW.PrintMore Bitty

/-- A grammar that is in order, with its parts' numbers within what numbers there are. -/
structure Order (l0 : List S51) (l1 : List S63) (l2 : List ByteArray) (l3 : List S45) (st : Int) : Prop where
  valid : validB l0 l1 l2 l3 st = true
  gram : Gram l0.length l2.length l3
  lo : 0 ≤ st
  hi : st < l2.length
theorem order_of {l0 : List S51} {l1 : List S63} {l2 : List ByteArray} {l3 : List S45} {st : Int} (h : validB l0 l1 l2 l3 st = true) (hr : ∀ p ∈ l3, ∀ s ∈ p.f2, -9223372036854775808 ≤ s ∧ s ≤ 9223372036854775807) : Order l0 l1 l2 l3 st :=
  ⟨h, (gram_of h hr).1, (gram_of h hr).2.1, (gram_of h hr).2.2⟩

/-- May sorts be empty? -/
def eR (l2 : List ByteArray) (l3 : List S45) : List Bool := allR false l2.length l3
/-- Do they live? -/
def lR (l2 : List ByteArray) (l3 : List S45) : List Bool := allR true l2.length l3
theorem eR_len (l2 : List ByteArray) (l3 : List S45) : (eR l2 l3).length = l2.length := allR_len false
theorem lR_len (l2 : List ByteArray) (l3 : List S45) : (lR l2 l3).length = l2.length := allR_len true
/-- With what do they begin? -/
def fR (l0 : List S51) (l2 : List ByteArray) (l3 : List S45) : List Int := firR l0.length l2.length (eR l2 l3) l3
/-- What follows them? -/
def wR (l0 : List S51) (l2 : List ByteArray) (l3 : List S45) (st : Int) : List Int := folR l0.length l2.length (eR l2 l3) (fR l0 l2 l3) l3 st
/-- With what does a row begin? -/
def oR (l0 : List S51) (l2 : List ByteArray) (l3 : List S45) (l : List Int) (behind : Int) : Int := rowV l0.length l2.length (eR l2 l3) (fR l0 l2 l3) behind l

section
variable {l0 : List S51} {l1 : List S63} {l2 : List ByteArray} {l3 : List S45} {st : Int} (h : Order l0 l1 l2 l3 st)
include h
theorem Empty_is (k : Nat) (hk : 61 ≤ k) : sets_Empty.f k l0 l1 l2 l3 st = some (eR l2 l3) := by
  have := h.gram.hS
  unfold sets_Empty.f sets_all.f
  rw [if_pos h.valid, allR_is false h.gram k (by omega)]
  rfl
theorem Lives_is (k : Nat) (hk : 61 ≤ k) : sets_Lives.f k l0 l1 l2 l3 st = some (lR l2 l3) := by
  have := h.gram.hS
  unfold sets_Lives.f sets_all.f
  rw [if_pos h.valid, allR_is true h.gram k (by omega)]
  rfl
theorem First_is (k : Nat) (hk : 61 ≤ k) : sets_First.f k l0 l1 l2 l3 st = some (fR l0 l2 l3) := by
  have := h.gram.hS
  unfold sets_First.f
  rw [if_pos h.valid, Empty_is h k hk, Option.bind_some, firR_is h.gram k (by omega)]
  rfl
theorem fR_ok : okL l2.length (fR l0 l2 l3) := firR_ok h.gram
theorem wR_ok : okL l2.length (wR l0 l2 l3 st) := folR_ok h.gram (fR_ok h)
theorem oR_has (l : List Int) (behind : Int) (hb : ok behind) : rowF l0.length l2.length (eR l2 l3) (fR l0 l2 l3) behind l 0 = some (oR l0 l2 l3 l behind) ∧ ok (oR l0 l2 l3 l behind) ∧
    ∀ b, tb (oR l0 l2 l3 l behind) b = rowB l0.length l2.length (eR l2 l3) (fR l0 l2 l3) behind b l :=
  rowV_has _ _ _ (by have := h.gram.hT; omega) _ _ (ok_rd (fR_ok h)) hb l
theorem Of_is (l : List Int) (behind : Int) (hb : ok behind) (k : Nat) (hk : 61 ≤ k) : sets_Of.f k l0 l1 l2 l3 st l behind = some (oR l0 l2 l3 l behind) := by
  have := h.gram.hS
  unfold sets_Of.f
  rw [if_pos h.valid, Empty_is h k hk, Option.bind_some, firR_is h.gram k (by omega), Option.bind_some]
  exact (oR_has h l behind hb).1
theorem Follow_is (k : Nat) (hk : 61 ≤ k) : sets_Follow.f k l0 l1 l2 l3 st = some (wR l0 l2 l3 st) := by
  have := h.gram.hS
  unfold sets_Follow.f
  rw [if_pos h.valid, Empty_is h k hk, Option.bind_some, firR_is h.gram k (by omega), Option.bind_some, of_one k (by omega) 63 (by omega) (by omega), Option.bind_some]
  exact folR_is h.gram (fR_ok h) k (by omega)
end

section
variable {l0 : List S51} {l1 : List S63} {l2 : List ByteArray} {l3 : List S45} {st : Int} (h : validB l0 l1 l2 l3 st = false)
include h
theorem Empty_not (k : Nat) : sets_Empty.f k l0 l1 l2 l3 st = some [] := by
  unfold sets_Empty.f sets_all.f; rw [h]; rfl
theorem Lives_not (k : Nat) : sets_Lives.f k l0 l1 l2 l3 st = some [] := by
  unfold sets_Lives.f sets_all.f; rw [h]; rfl
theorem First_not (k : Nat) : sets_First.f k l0 l1 l2 l3 st = some [] := by
  unfold sets_First.f; rw [h]; rfl
theorem Of_not (l : List Int) (behind : Int) (k : Nat) : sets_Of.f k l0 l1 l2 l3 st l behind = some 0 := by
  unfold sets_Of.f; rw [h]; rfl
theorem Follow_not (k : Nat) : sets_Follow.f k l0 l1 l2 l3 st = some [] := by
  unfold sets_Follow.f; rw [h]; rfl
end

/-! ### rows -/
section
variable {l0 : List S51} {l1 : List S63} {l2 : List ByteArray} {l3 : List S45} {st : Int} (h : Order l0 l1 l2 l3 st)
include h
theorem oR_nil (behind : Int) (hb : ok behind) : oR l0 l2 l3 [] behind = behind := Bitty.ext (oR_has h [] behind hb).2.1 hb fun b => by rw [(oR_has h [] behind hb).2.2]; rfl
theorem rowB_app (l m : List Int) (behind : Int) (hb : ok behind) (b : Nat) : rowB l0.length l2.length (eR l2 l3) (fR l0 l2 l3) behind b (l ++ m) = rowB l0.length l2.length (eR l2 l3) (fR l0 l2 l3) (oR l0 l2 l3 m behind) b l := by
  induction l with
  | nil => exact ((oR_has h m behind hb).2.2 b).symm
  | cons s l ih =>
    show rowB _ _ _ _ _ b (s :: (l ++ m)) = _
    unfold rowB
    rw [ih]
theorem oR_app (l m : List Int) (behind : Int) (hb : ok behind) : oR l0 l2 l3 (l ++ m) behind = oR l0 l2 l3 l (oR l0 l2 l3 m behind) :=
  Bitty.ext (oR_has h _ behind hb).2.1 (oR_has h l _ (oR_has h m behind hb).2.1).2.1 fun b => by
    rw [(oR_has h _ behind hb).2.2, (oR_has h l _ (oR_has h m behind hb).2.1).2.2, rowB_app h l m behind hb]
theorem oR_term (t : Int) (h0 : 0 ≤ t) (h1 : t < l0.length) (l : List Int) (behind : Int) (hb : ok behind) : oR l0 l2 l3 (t :: l) behind = ((2 ^ t.toNat : Nat) : Int) := by
  have hT := h.gram.hT
  refine Bitty.ext (oR_has h _ behind hb).2.1 (bit_ok t h0 (by omega)) fun b => ?_
  rw [(oR_has h _ behind hb).2.2, bit_tb]
  unfold rowB
  rw [if_neg (by omega), if_pos h0]
end

end Go.Proofs.Ytggfiopajogiiaa.P

set_option linter.unusedVariables false
set_option linter.unusedSimpArgs false
namespace Go.Proofs.Ytggfiopajogiiaa.P
open Go.RowKit Go.Proofs.YtggfiopajogiiaaW.PrintWords Go.Proofs.YtggfiopajogiiaaW.PrintLast Go.Proofs.YtggfiopajogiiaaW.PrintMore Bitty

/-- A row all of whose symbols may be empty or begin with something: it may be empty, or begins with something. -/
theorem row_begins (l0 : List S51) (l2 : List ByteArray) (l3 : List S45) : ∀ (l : List Int), (∀ s ∈ l, -(l2.length : Int) ≤ s ∧ s < l0.length) → (∀ s ∈ l, s < 0 → rdOf false (eR l2 l3) (-1 - s) = true ∨ ∃ b, tb (rd (fR l0 l2 l3) (-1 - s)) b = true) →
    (∀ s ∈ l, s < 0 ∧ rdOf false (eR l2 l3) (-1 - s) = true) ∨ ∃ b, rowB l0.length l2.length (eR l2 l3) (fR l0 l2 l3) 0 b l = true
  | [], _, _ => .inl (by simp)
  | s :: l, hr, hc => by
    have h1 := hr s (by simp)
    have hno : ¬ ((l0.length : Int) ≤ s ∨ s < -(l2.length : Int)) := by omega
    by_cases h0 : 0 ≤ s
    · exact .inr ⟨s.toNat, by unfold rowB; rw [if_neg hno, if_pos h0]; simp⟩
    · rcases hc s (by simp) (by omega) with he | ⟨b, hb⟩
      · rcases row_begins l0 l2 l3 l (fun t ht => hr t (by simp [ht])) (fun t ht => hc t (by simp [ht])) with h2 | ⟨b, hb⟩
        · refine .inl fun t ht => ?_
          rcases List.mem_cons.1 ht with rfl | ht
          · exact ⟨by omega, he⟩
          · exact h2 t ht
        · exact .inr ⟨b, by unfold rowB; rw [if_neg hno, if_neg h0, he, hb]; simp⟩
      · exact .inr ⟨b, by unfold rowB; rw [if_neg hno, if_neg h0, hb]; simp⟩

section
variable {l0 : List S51} {l1 : List S63} {l2 : List ByteArray} {l3 : List S45} {st : Int} (h : Order l0 l1 l2 l3 st)
include h
theorem empty_lives (i : Nat) (hi : i < l2.length) (he : (eR l2 l3).getD i false = true) : (lR l2 l3).getD i false = true :=
  allR_least false h.gram (fun i => (lR l2 l3).getD i false = true) (fun p hp hs => allR_closed true h.gram p hp fun s hs' => ⟨fun _ => rfl, (hs s hs').2⟩) i hi he

theorem lives_begins (i : Nat) (hi : i < l2.length) (hl : (lR l2 l3).getD i false = true) : (eR l2 l3).getD i false = true ∨ ∃ b, tb ((fR l0 l2 l3).getD i 0) b = true := by
  refine allR_least true h.gram (fun i => (eR l2 l3).getD i false = true ∨ ∃ b, tb ((fR l0 l2 l3).getD i 0) b = true) (fun p hp hs => ?_) i hi hl
  rcases row_begins l0 l2 l3 p.f2 (h.gram.sym p hp) (fun s hs' hn => (hs s hs').2 hn) with h2 | ⟨b, hb⟩
  · exact .inl (allR_closed false h.gram p hp fun s hs' => ⟨fun h0 => by have := (h2 s hs').1; omega, fun _ => (h2 s hs').2⟩)
  · exact .inr ⟨b, firR_closed h.gram p hp b hb⟩
end

end Go.Proofs.Ytggfiopajogiiaa.P

set_option linter.unusedVariables false
set_option linter.unusedSimpArgs false
namespace Go.Proofs.Ytggfiopajogiiaa.P
open Go.RowKit Go.Proofs.YtggfiopajogiiaaW.PrintWords Go.Proofs.YtggfiopajogiiaaW.PrintLast Go.Proofs.YtggfiopajogiiaaW.PrintMore Bitty

theorem rowB_mono (nT nS : Int) (es es' : List Bool) (fs fs' : List Int) (u v : Int) (b : Nat) (he : ∀ i, rdOf false es i = true → rdOf false es' i = true) (hf : ∀ i, tb (rd fs i) b = true → tb (rd fs' i) b = true) (hu : tb u b = true → tb v b = true) :
    ∀ l, rowB nT nS es fs u b l = true → rowB nT nS es' fs' v b l = true
  | [], h => hu h
  | s :: l, h => by
    unfold rowB at h ⊢
    by_cases h1 : nT ≤ s ∨ s < -nS
    · rw [if_pos h1] at h; cases h
    · rw [if_neg h1] at h ⊢
      by_cases h2 : 0 ≤ s
      · rw [if_pos h2] at h ⊢; exact h
      · rw [if_neg h2] at h ⊢
        rw [Bool.or_eq_true, Bool.and_eq_true] at h ⊢
        rcases h with h | ⟨h3, h4⟩
        · exact .inl (hf _ h)
        · exact .inr ⟨he _ h3, rowB_mono nT nS es es' fs fs' u v b he hf hu l h4⟩

/-- What is so of each sort's number that there is, is so of each number. -/
theorem rdOf_of {n : Nat} {xs ys : List Bool} (hx : xs.length = n) (h : ∀ i, i < n → xs.getD i false = true → ys.getD i false = true) (i : Int) (hi : rdOf false xs i = true) : rdOf false ys i = true := by
  have hi' : xs.getD i.toNat false = true := hi
  by_cases hlt : i.toNat < n
  · exact h _ hlt hi'
  · rw [List.getD, List.getElem?_eq_none (by omega)] at hi'; cases hi'
theorem rd_of {n b : Nat} {xs ys : List Int} (hx : okL n xs) (h : ∀ i, i < n → tb (xs.getD i 0) b = true → tb (ys.getD i 0) b = true) (i : Int) (hi : tb (rd xs i) b = true) : tb (rd ys i) b = true := by
  have hi' : tb (xs.getD i.toNat 0) b = true := hi
  by_cases hlt : i.toNat < n
  · exact h _ hlt hi'
  · rw [List.getD, List.getElem?_eq_none (by rw [hx.1]; omega)] at hi'
    have : tb (0 : Int) b = true := hi'
    rw [tb_zero] at this; cases this

section
variable {l0 : List S51} {l1 l1' : List S63} {l2 : List ByteArray} {l3 l3' : List S45} {st : Int} (h : Order l0 l1 l2 l3 st) (h' : Order l0 l1' l2 l3' st) (hsub : ∀ p ∈ l3, p ∈ l3')
include h h' hsub
theorem eR_mono (i : Nat) (hi : i < l2.length) (he : (eR l2 l3).getD i false = true) : (eR l2 l3').getD i false = true :=
  allR_least false h.gram (fun i => (eR l2 l3').getD i false = true) (fun p hp hs => allR_closed false h'.gram p (hsub p hp) hs) i hi he
theorem lR_mono (i : Nat) (hi : i < l2.length) (he : (lR l2 l3).getD i false = true) : (lR l2 l3').getD i false = true :=
  allR_least true h.gram (fun i => (lR l2 l3').getD i false = true) (fun p hp hs => allR_closed true h'.gram p (hsub p hp) hs) i hi he
theorem fR_mono (i b : Nat) (hi : i < l2.length) (hb : tb ((fR l0 l2 l3).getD i 0) b = true) : tb ((fR l0 l2 l3').getD i 0) b = true :=
  firR_least h.gram (fun i b => tb ((fR l0 l2 l3').getD i 0) b = true) (fun p hp xs hx hxs b hb =>
    firR_closed h'.gram p (hsub p hp) b (rowB_mono _ _ _ _ _ _ _ _ b (rdOf_of (eR_len l2 l3) (fun i hi => eR_mono h h' hsub i hi)) (rd_of hx (fun i hi => hxs i b hi)) id p.f2 hb)) i b hi hb
theorem wR_mono (i b : Nat) (hi : i < l2.length) (hb : tb ((wR l0 l2 l3 st).getD i 0) b = true) : tb ((wR l0 l2 l3' st).getD i 0) b = true :=
  folR_least h.gram (fR_ok h) (fun i b => tb ((wR l0 l2 l3' st).getD i 0) b = true) h.lo h.hi (folR_start h'.gram (fR_ok h') h.lo h.hi) (fun p hp a s l e hn xs hx hxs b hb =>
    folR_closed h'.gram (fR_ok h') p (hsub p hp) a s l e hn b (rowB_mono _ _ _ _ _ _ _ _ b (rdOf_of (eR_len l2 l3) (fun i hi => eR_mono h h' hsub i hi)) (rd_of (fR_ok h) (fun i hi => fR_mono h h' hsub i b hi)) (rd_of hx (fun i hi => hxs i b hi) p.f1) l hb)) i b hi hb
end

end Go.Proofs.Ytggfiopajogiiaa.P
