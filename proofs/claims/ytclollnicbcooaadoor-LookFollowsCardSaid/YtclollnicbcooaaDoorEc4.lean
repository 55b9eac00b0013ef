/- Texts of this claim put together: SKn, Lw, SFollow, Lf, Open, Types. -/
import Derived.Test.YtclollnicbcooaaDoorEc3
import Derived.Laws.Bits64b
import Derived.IntWalk
import Derived.Test.YtclollnicbcooaaDoorEc2
import Derived.Deep.RegionHeld3
import Derived.WalkMore
import Derived.Test.YtclollnicbcooaaDoorEc0
import Derived.Test.YtclollnicbcooaaDoorEc1
import Derived.Deep.Slices
import Derived.OpenShut
import Derived.ShutString
import Derived.ProofKit
section
set_option linter.unusedVariables false
set_option linter.unusedSimpArgs false
namespace Go.Proofs.YtclollnicbcooaaDoor.P
open Go.RowKit Go.Proofs.YtclollnicbcooaaDoorW.PrintWords

def iter {α : Type} (F : α → α) : Nat → α → α
 | 0, x => x
 | n + 1, x => iter F n (F x)

theorem iter_succ {α : Type} (F : α → α) : ∀ (n : Nat) (x : α), iter F (n + 1) x = F (iter F n x)
 | 0, _ => rfl
 | n + 1, x => iter_succ F n (F x)

theorem iter_fixed {α : Type} (F : α → α) {x : α} (h : F x = x) : ∀ n, iter F n x = x
 | 0 => rfl
 | n + 1 => by show iter F n (F x) = x; rw [h]; exact iter_fixed F h n

theorem iter_inv {α : Type} (F : α → α) (I : α → Prop) (h : ∀ x, I x → I (F x)) : ∀ (n : Nat) (x : α), I x → I (iter F n x)
 | 0, _, hx => hx
 | n + 1, x, hx => iter_inv F I h n (F x) (h x hx)

theorem count_le_of : ∀ (xs ys : List Bool), xs.length = ys.length → (∀ i, xs.getD i false = true → ys.getD i false = true) → xs.count true ≤ ys.count true ∧ (xs.count true = ys.count true → xs = ys)
 | [], [], _, _ => ⟨Nat.le_refl _, fun _ => rfl⟩
 | x :: xs, y :: ys, hl, h => by
  have ih := count_le_of xs ys (by simpa using hl) (fun i => by have := h (i + 1); simpa using this)
  have h0 := h 0
  simp only [List.getD_cons_zero] at h0
  cases x <;> cases y
  ·simpa using ih
  ·simp only [List.count_cons]
   refine ⟨by have := ih.1; simp; omega, fun e => ?_⟩
   have := ih.1
   simp at e
   omega
  ·simp at h0
  ·simpa using ih
 | [], _ :: _, hl, _ => by simp at hl
 | _ :: _, [], hl, _ => by simp at hl

/-- A growing row of n bits that, once it stands, stands for ever, stands from its n-th state on. -/
theorem seq_stable (c : Nat → List Bool) (n : Nat) (hl : ∀ k, (c k).length = n) (hg : ∀ k i, (c k).getD i false = true → (c (k + 1)).getD i false = true) (hs : ∀ k, c k = c (k + 1) → c (k + 1) = c (k + 2)) : c n = c (n + 1) := by
 have h1 : ∀ k, (∃ j, j < k ∧ c j = c (j + 1)) ∨ k ≤ (c k).count true := by
  intro k
  induction k with
  | zero => exact .inr (Nat.zero_le _)
  | succ k ih =>
   rcases ih with ⟨j, hj, e⟩ | ih
   ·exact .inl ⟨j, by omega, e⟩
   ·by_cases e : c k = c (k + 1)
    ·exact .inl ⟨k, by omega, e⟩
    ·have := count_le_of (c k) (c (k + 1)) (by rw [hl, hl]) (hg k)
     have h2 : (c k).count true ≠ (c (k + 1)).count true := fun q => e (this.2 q)
     exact .inr (by omega)
 rcases h1 (n + 1) with ⟨j, hj, e⟩ | h
 ·have h2 : ∀ i, c (j + i) = c (j + i + 1) := by
   intro i
   induction i with
   | zero => exact e
   | succ i ih => exact hs _ ih
  have := h2 (n - j)
  rwa [show j + (n - j) = n by omega] at this
 ·have := List.count_le_length (a := true) (l := c (n + 1))
  rw [hl] at this
  omega

section
variable {β : Type}
/-- One round: each step puts a new set at its place. -/
def run (ss : List (Nat × (List β → β))) (xs : List β) : List β := ss.foldl (fun xs s => xs.set s.1 (s.2 xs)) xs
theorem run_cons (s : Nat × (List β → β)) (ss : List (Nat × (List β → β))) (xs : List β) : run (s :: ss) xs = run ss (xs.set s.1 (s.2 xs)) := rfl
theorem still_at {xs : List β} {i : Nat} {v : β} (h : xs.set i v = xs) (hi : i < xs.length) : xs[i] = v := by
 have : (xs.set i v)[i]'(by rw [List.length_set]; exact hi) = v := by simp
 rw [← this]; congr 1; exact h.symm
/-- An invariant of each step is one of a round. -/
theorem run_inv (I : List β → Prop) : ∀ (ss : List (Nat × (List β → β))) (xs : List β), (∀ s ∈ ss, ∀ xs, I xs → I (xs.set s.1 (s.2 xs))) → I xs → I (run ss xs)
 | [], xs, _, hx => hx
 | s :: ss, xs, hg, hx => run_inv I ss _ (fun t ht => hg t (by simp [ht])) (hg s (by simp) xs hx)
end

class Bitty (β : Type) where
 tb : β → Nat → Bool
 ok : β → Prop
 ext : ∀ {x y : β}, ok x → ok y → (∀ b, tb x b = tb y b) → x = y
open Bitty

instance : Bitty Bool where
 tb x _ := x
 ok _ := True
 ext := fun _ _ h => h 0

section
variable {β : Type} [Bitty β]
def leB (x y : β) : Prop := ∀ b, tb x b = true → tb y b = true
theorem leB_refl (x : β) : leB x x := fun _ h => h
theorem leB_trans {x y z : β} (h1 : leB x y) (h2 : leB y z) : leB x z := fun b h => h2 b (h1 b h)
theorem leB_antisymm {x y : β} (hx : ok x) (hy : ok y) (h1 : leB x y) (h2 : leB y x) : x = y := ext hx hy fun b => by
 cases h : tb x b
 ·cases h' : tb y b
  ·rfl
  ·rw [h2 b h'] at h; exact h.symm
 ·exact (h1 b h).symm
/-- A row of n sets. -/
def okL (n : Nat) (xs : List β) : Prop := xs.length = n ∧ ∀ i (h : i < xs.length), ok xs[i]
def leL (xs ys : List β) : Prop := xs.length = ys.length ∧ ∀ i (h : i < xs.length) (h' : i < ys.length), leB xs[i] ys[i]
theorem leL_refl (xs : List β) : leL xs xs := ⟨rfl, fun _ _ _ => leB_refl _⟩
theorem leL_trans {xs ys zs : List β} (h1 : leL xs ys) (h2 : leL ys zs) : leL xs zs := ⟨h1.1.trans h2.1, fun i h h' => leB_trans (h1.2 i h (by rw [← h1.1]; exact h)) (h2.2 i (by rw [← h1.1]; exact h) h')⟩
theorem leL_antisymm {n : Nat} {xs ys : List β} (hx : okL n xs) (hy : okL n ys) (h1 : leL xs ys) (h2 : leL ys xs) : xs = ys :=
 List.ext_getElem h1.1 fun i h h' => leB_antisymm (hx.2 i h) (hy.2 i h') (h1.2 i h h') (h2.2 i h' h)

/-- Steps that only grow. -/
def Grows (n : Nat) (ss : List (Nat × (List β → β))) : Prop := ∀ s ∈ ss, ∀ xs : List β, okL n xs → ok (s.2 xs) ∧ ∀ h : s.1 < xs.length, leB xs[s.1] (s.2 xs)
theorem set_grow {n : Nat} {xs : List β} {i : Nat} {v : β} (hx : okL n xs) (hv : ok v) (h : ∀ h : i < xs.length, leB xs[i] v) : okL n (xs.set i v) ∧ leL xs (xs.set i v) := by
 refine ⟨⟨by rw [List.length_set]; exact hx.1, fun j hj => ?_⟩, by rw [List.length_set], fun j hj hj' => ?_⟩
 ·rw [List.getElem_set]
  split
  ·exact hv
  ·exact hx.2 _ _
 ·rw [List.getElem_set]
  split
  ·rename_i e; subst e; exact h hj
  ·exact leB_refl _
theorem run_ok {n : Nat} : ∀ (ss : List (Nat × (List β → β))) (xs : List β), Grows n ss → okL n xs → okL n (run ss xs) ∧ leL xs (run ss xs)
 | [], xs, _, hx => ⟨hx, leL_refl _⟩
 | s :: ss, xs, hg, hx => by
  have h1 := set_grow hx (hg s (by simp) xs hx).1 (hg s (by simp) xs hx).2
  have h2 := run_ok ss _ (fun t ht => hg t (by simp [ht])) h1.1
  exact ⟨h2.1, leL_trans h1.2 h2.2⟩
/-- Where a round changes nothing, no step does. -/
theorem run_still {n : Nat} : ∀ (ss : List (Nat × (List β → β))) (xs : List β), Grows n ss → okL n xs → run ss xs = xs → ∀ s ∈ ss, xs.set s.1 (s.2 xs) = xs
 | [], xs, _, hx, _, s, hs => by simp at hs
 | t :: ss, xs, hg, hx, he, s, hs => by
  have h1 := set_grow hx (hg t (by simp) xs hx).1 (hg t (by simp) xs hx).2
  have h2 := run_ok ss _ (fun t ht => hg t (by simp [ht])) h1.1
  rw [run_cons] at he
  rw [he] at h2
  have h3 := leL_antisymm h1.1 hx h2.2 h1.2
  rw [h3] at he
  rcases List.mem_cons.1 hs with rfl | hs
  ·exact h3
  ·exact run_still ss xs (fun t ht => hg t (by simp [ht])) hx he s hs
/-- A round that tells whether something changed. -/
def runF (z : β) [DecidableEq β] (ss : List (Nat × (List β → β))) (st : List β × Bool) : List β × Bool := ss.foldl (fun st s => if st.1.getD s.1 z = s.2 st.1 then st else (st.1.set s.1 (s.2 st.1), true)) st
theorem runF_eq {n : Nat} (z : β) [DecidableEq β] : ∀ (ss : List (Nat × (List β → β))) (xs : List β) (c : Bool), Grows n ss → (∀ s ∈ ss, s.1 < n) → okL n xs → runF z ss (xs, c) = (run ss xs, c || decide (run ss xs ≠ xs))
 | [], xs, c, _, _, _ => by simp [runF, run]
 | s :: ss, xs, c, hg, hi, hx => by
  have h1 := set_grow hx (hg s (by simp) xs hx).1 (hg s (by simp) xs hx).2
  have h2 := run_ok ss _ (fun t ht => hg t (by simp [ht])) h1.1
  have hlt : s.1 < xs.length := by rw [hx.1]; exact hi s (by simp)
  rw [run_cons]
  by_cases e : xs.getD s.1 z = s.2 xs
  ·have e2 : xs.set s.1 (s.2 xs) = xs := by
    rw [← e]
    apply List.ext_getElem (by simp)
    intro j h h'
    rw [List.getElem_set]
    split
    ·rename_i q; subst q; simp [List.getD, h']
    ·rfl
   rw [e2]
   show runF z ss (if xs.getD s.1 z = s.2 xs then (xs, c) else _) = _
   rw [if_pos e]
   exact runF_eq z ss xs c (fun t ht => hg t (by simp [ht])) (fun t ht => hi t (by simp [ht])) hx
  ·show runF z ss (if xs.getD s.1 z = s.2 xs then (xs, c) else (xs.set s.1 (s.2 xs), true)) = _
   rw [if_neg e, runF_eq z ss _ true (fun t ht => hg t (by simp [ht])) (fun t ht => hi t (by simp [ht])) h1.1]
   have h3 : run ss (xs.set s.1 (s.2 xs)) ≠ xs := fun q => by
    rw [q] at h2
    have h4 := leL_antisymm h1.1 hx h2.2 h1.2
    have := still_at h4 hlt
    exact e (by rw [← this]; simp [List.getD, hlt])
   rw [decide_eq_true h3]
   simp
/-- Bit by bit: what a step puts has, at a bit, what the row has at that bit to do with alone. -/
def Local (n : Nat) (ss : List (Nat × (List β → β))) : Prop := ∀ s ∈ ss, ∀ (b : Nat) (xs ys : List β), okL n xs → okL n ys → (∀ i (h : i < xs.length) (h' : i < ys.length), tb xs[i] b = tb ys[i] b) → tb (s.2 xs) b = tb (s.2 ys) b
theorem run_local {n : Nat} (b : Nat) : ∀ (ss : List (Nat × (List β → β))) (xs ys : List β), Grows n ss → Local n ss → okL n xs → okL n ys → (∀ i (h : i < xs.length) (h' : i < ys.length), tb xs[i] b = tb ys[i] b) →
  ∀ i (h : i < (run ss xs).length) (h' : i < (run ss ys).length), tb (run ss xs)[i] b = tb (run ss ys)[i] b
 | [], _, _, _, _, _, _, he => he
 | s :: ss, xs, ys, hg, hl, hx, hy, he => by
  have h1 := set_grow hx (hg s (by simp) xs hx).1 (hg s (by simp) xs hx).2
  have h2 := set_grow hy (hg s (by simp) ys hy).1 (hg s (by simp) ys hy).2
  refine run_local b ss (xs.set s.1 (s.2 xs)) (ys.set s.1 (s.2 ys)) (fun t ht => hg t (by simp [ht])) (fun t ht => hl t (by simp [ht])) h1.1 h2.1 fun i h h' => ?_
  rw [List.getElem_set, List.getElem_set]
  split
  ·exact hl s (by simp) b xs ys hx hy he
  ·exact he i _ _
/-- After n rounds a row of n sets stands still. -/
theorem run_stable {n : Nat} (ss : List (Nat × (List β → β))) (xs : List β) (hg : Grows n ss) (hl : Local n ss) (hx : okL n xs) : run ss (iter (run ss) n xs) = iter (run ss) n xs := by
 have hk : ∀ k, okL n (iter (run ss) k xs) := fun k => iter_inv (run ss) (okL n) (fun x h => (run_ok ss x hg h).1) k xs hx
 rw [← iter_succ (run ss) n xs]
 refine (List.ext_getElem (by rw [(hk n).1, (hk (n + 1)).1]) fun i h h' => ext ((hk n).2 i h) ((hk (n + 1)).2 i h') fun b => ?_).symm
 have hc := seq_stable (fun k => (iter (run ss) k xs).map (fun x => tb x b)) n (fun k => by rw [List.length_map]; exact (hk k).1) (fun k j hj => ?_) (fun k he => ?_)
 ·have hc2 : ((iter (run ss) n xs).map (fun x => tb x b))[i]'(by simpa using h) = ((iter (run ss) (n + 1) xs).map (fun x => tb x b))[i]'(by simpa using h') := by congr 1
  simpa using hc2
 ·have h3 := (run_ok ss _ hg (hk k)).2
  rw [iter_succ]
  by_cases hjn : j < n
  ·have q1 : j < (iter (run ss) k xs).length := by rw [(hk k).1]; exact hjn
   have q2 : j < (run ss (iter (run ss) k xs)).length := by rw [← h3.1]; exact q1
   simp only [List.getD, List.getElem?_map, List.getElem?_eq_getElem q1, List.getElem?_eq_getElem q2, Option.map_some, Option.getD_some] at hj ⊢
   exact h3.2 j q1 q2 b hj
  ·have q1 : (iter (run ss) k xs).length ≤ j := by rw [(hk k).1]; omega
   simp [List.getD, List.getElem?_eq_none q1] at hj
 ·rw [iter_succ _ (k + 1), iter_succ _ k]
  have q : ∀ i (h : i < (iter (run ss) k xs).length) (h' : i < (iter (run ss) (k + 1) xs).length), tb (iter (run ss) k xs)[i] b = tb (iter (run ss) (k + 1) xs)[i] b := fun i h h' => by
   have : ((iter (run ss) k xs).map (fun x => tb x b))[i]'(by simpa using h) = ((iter (run ss) (k + 1) xs).map (fun x => tb x b))[i]'(by simpa using h') := by congr 1
   simpa using this
  have q2 := run_local b ss _ _ hg hl (hk k) (hk (k + 1)) q
  rw [iter_succ _ k] at q2
  refine List.ext_getElem ?_ fun i h h' => ?_
  ·simp only [List.length_map]
   rw [← iter_succ (run ss), ← iter_succ (run ss), (hk _).1, (hk _).1]
  ·simpa using q2 i (by simpa using h) (by simpa using h')
end

/-- A function that goes on till its round changes nothing comes to where that stands still. -/
theorem grow_ends {α : Type} [DecidableEq α] (g : Nat → α → Option α) (pass : α → α × Bool) (F : α → α) (I : α → Prop) (hg : ∀ k x, g (k + 1) x = if (pass x).2 = true then g k (pass x).1 else some (pass x).1) (hI : ∀ x, I x → I (F x))
  (hp : ∀ x, I x → pass x = (F x, decide (F x ≠ x))) : ∀ (m : Nat) (x : α), I x → F (iter F m x) = iter F m x → ∀ k, m + 1 ≤ k → g k x = some (iter F m x)
 | m, x, hx, hs, 0, hk => by omega
 | 0, x, hx, hs, k + 1, hk => by
  have hs' : F x = x := hs
  rw [hg, hp x hx, hs']
  simp [iter]
 | m + 1, x, hx, hs, k + 1, hk => by
  rw [hg, hp x hx]
  by_cases e : F x = x
  ·rw [iter_fixed F e, e]; simp
  ·rw [decide_eq_true e, if_pos rfl]
   exact grow_ends g pass F I hg hI hp m (F x) (hI x hx) hs k (by omega)

end Go.Proofs.YtclollnicbcooaaDoor.P

set_option linter.unusedVariables false
set_option linter.unusedSimpArgs false
namespace Go.Proofs.YtclollnicbcooaaDoor.P
open Go.RowKit Go.Proofs.YtclollnicbcooaaDoorW.PrintWords Go.Proofs.YtclollnicbcooaaDoorW.PrintLast Go.Proofs.YtclollnicbcooaaDoorW.PrintMore Bitty

/-! ### sets of numbers below 64 -/
instance : Bitty Int where
 tb x b := x.toNat.testBit b
 ok x := 0 ≤ x ∧ x < 18446744073709551616
 ext := fun {x y} hx hy h => by
  have := Nat.eq_of_testBit_eq h
  omega

theorem ok_zero : ok (0 : Int) := ⟨by omega, by omega⟩
theorem tb_zero (b : Nat) : tb (0 : Int) b = false := Nat.zero_testBit b
theorem or_nat {x y : Int} (hx : ok x) (hy : ok y) : Go.bits .or .u64 x y = ((x.toNat ||| y.toNat : Nat) : Int) := by
 have h1 : x = ((x.toNat : Nat) : Int) := by have := hx.1; omega
 have h2 : y = ((y.toNat : Nat) : Int) := by have := hy.1; omega
 have h3 := hx.2
 have h4 := hy.2
 generalize x.toNat = a at *
 generalize y.toNat = b at *
 subst h1
 subst h2
 exact bits_or_u64_nat a b (by omega) (by omega)
theorem or_ok {x y : Int} (hx : ok x) (hy : ok y) : ok (Go.bits .or .u64 x y) := by
 rw [or_nat hx hy]
 have h3 := hx.2
 have h4 := hy.2
 have := Nat.or_lt_two_pow (n := 64) (x := x.toNat) (y := y.toNat) (by omega) (by omega)
 exact ⟨by omega, by omega⟩
theorem or_tb {x y : Int} (hx : ok x) (hy : ok y) (b : Nat) : tb (Go.bits .or .u64 x y) b = (tb x b || tb y b) := by
 rw [or_nat hx hy]
 show Nat.testBit (Int.toNat _) b = _
 rw [Int.toNat_natCast, Nat.testBit_or]
 rfl
theorem bit_some (n : Int) (h0 : 0 ≤ n) (h1 : n < 64) : bits_bit.f n = some ((2 ^ n.toNat : Nat) : Int) := by
 unfold bits_bit.f
 rw [if_neg (by omega), if_neg (by omega), if_pos h0]
 have hn : n.toNat < 64 := by omega
 have hp : 2 ^ n.toNat < 18446744073709551616 := Nat.pow_lt_pow_right (by decide) hn
 unfold shl
 rw [show min n.toNat (IntKind.bits .u64) = n.toNat from Nat.min_eq_left (Nat.le_of_lt hn), IntKind.wrap_u64, Int.one_mul]
 have e : ((2 : Int) ^ n.toNat) = ((2 ^ n.toNat : Nat) : Int) := by simp
 rw [e]
 generalize 2 ^ n.toNat = p at hp
 congr 1
 omega
theorem bit_ok (n : Int) (h0 : 0 ≤ n) (h1 : n < 64) : ok ((2 ^ n.toNat : Nat) : Int) := by
 have hp : 2 ^ n.toNat < 18446744073709551616 := Nat.pow_lt_pow_right (by decide) (by omega : n.toNat < 64)
 generalize 2 ^ n.toNat = q at hp ⊢
 exact ⟨by omega, by omega⟩
theorem bit_tb (n b : Nat) : tb ((2 ^ n : Nat) : Int) b = decide (n = b) := by
 show Nat.testBit (Int.toNat _) b = _
 rw [Int.toNat_natCast, Nat.testBit_two_pow]
theorem with_some (out n : Int) (h0 : 0 ≤ n) (h1 : n < 64) : bits_With.f out n = some (Go.bits .or .u64 out ((2 ^ n.toNat : Nat) : Int)) := by
 unfold bits_With.f
 rw [bit_some n h0 h1]
 rfl
theorem of_one (k : Nat) (hk : 2 ≤ k) (n : Int) (h0 : 0 ≤ n) (h1 : n < 64) : bits_Of.f k [n] = some ((2 ^ n.toNat : Nat) : Int) := by
 obtain ⟨k, rfl⟩ : ∃ j, k = j + 2 := ⟨k - 2, by omega⟩
 have e : rd [n] 0 = n := rfl
 have w1 : wrap64 (0 + 1) = 1 := by unfold wrap64; omega
 unfold bits_Of.f bits_Of.l0 bits_Of.l0
 simp only [List.length_cons, List.length_nil]
 rw [if_pos (by omega), if_pos (by omega), if_pos (by omega), e, bit_some n h0 h1, Option.bind_some, w1, if_neg (by omega), or_nat ok_zero (bit_ok n h0 h1)]
 have hp : Int.toNat ((2 ^ n.toNat : Nat) : Int) = 2 ^ n.toNat := Int.toNat_natCast _
 rw [hp]
 simp

/-! ### rows -/
section
variable (nT nS : Int) (es : List Bool)
def rowB (fs : List Int) (behind : Int) (b : Nat) : List Int → Bool
 | [] => tb behind b
 | s :: l => if nT ≤ s ∨ s < -nS then false else if 0 ≤ s then decide (s.toNat = b) else tb (rd fs (-1 - s)) b || (rdOf false es (-1 - s) && rowB fs behind b l)

theorem rowF_bits (hT : nT ≤ 60) (fs : List Int) (behind : Int) (hfs : ∀ i, ok (rd fs i)) (hb : ok behind) : ∀ (l : List Int) (out : Int), ok out →
  ∃ q, rowF nT nS es fs behind l out = some q ∧ ok q ∧ ∀ b, tb q b = (tb out b || rowB nT nS es fs behind b l)
 | [], out, ho => ⟨_, rfl, or_ok ho hb, fun b => or_tb ho hb b⟩
 | s :: l, out, ho => by
  by_cases h1 : nT ≤ s ∨ s < -nS
  ·refine ⟨out, by unfold rowF; rw [if_pos h1], ho, fun b => ?_⟩
   unfold rowB; rw [if_pos h1, Bool.or_false]
  ·by_cases h2 : 0 ≤ s
   ·refine ⟨_, by unfold rowF; rw [if_neg h1, if_pos h2]; exact with_some out s h2 (by omega), or_ok ho (bit_ok s h2 (by omega)), fun b => ?_⟩
    rw [or_tb ho (bit_ok s h2 (by omega)), bit_tb]
    unfold rowB; rw [if_neg h1, if_pos h2]
   ·have hu : bits_Union.f out (rd fs (-1 - s)) = some (Go.bits .or .u64 out (rd fs (-1 - s))) := rfl
    have ho2 := or_ok ho (hfs (-1 - s))
    cases he : rdOf false es (-1 - s)
    ·refine ⟨_, by unfold rowF; rw [if_neg h1, if_neg h2, hu, Option.bind_some, he, if_neg (by decide)], ho2, fun b => ?_⟩
     rw [or_tb ho (hfs _)]
     unfold rowB; rw [if_neg h1, if_neg h2, he, Bool.false_and, Bool.or_false]
    ·obtain ⟨q, q1, q2, q3⟩ := rowF_bits hT fs behind hfs hb l _ ho2
     refine ⟨q, by unfold rowF; rw [if_neg h1, if_neg h2, hu, Option.bind_some, he, if_pos rfl]; exact q1, q2, fun b => ?_⟩
     rw [q3, or_tb ho (hfs _)]
     conv => rhs; unfold rowB
     rw [if_neg h1, if_neg h2, he, Bool.true_and, Bool.or_assoc]

/-- With what a row begins. -/
def rowV (fs : List Int) (behind : Int) (l : List Int) : Int := (rowF nT nS es fs behind l 0).getD 0
theorem rowV_has (hT : nT ≤ 60) (fs : List Int) (behind : Int) (hfs : ∀ i, ok (rd fs i)) (hb : ok behind) (l : List Int) :
  rowF nT nS es fs behind l 0 = some (rowV nT nS es fs behind l) ∧ ok (rowV nT nS es fs behind l) ∧ ∀ b, tb (rowV nT nS es fs behind l) b = rowB nT nS es fs behind b l := by
 obtain ⟨q, q1, q2, q3⟩ := rowF_bits nT nS es hT fs behind hfs hb l 0 ok_zero
 unfold rowV
 rw [q1]
 exact ⟨rfl, q2, fun b => by rw [Option.getD_some, q3, tb_zero, Bool.false_or]⟩
theorem rowB_local (b : Nat) (fs gs : List Int) (u v : Int) (huv : tb u b = tb v b) (h : ∀ i, tb (rd fs i) b = tb (rd gs i) b) : ∀ l, rowB nT nS es fs u b l = rowB nT nS es gs v b l
 | [] => huv
 | s :: l => by unfold rowB; rw [h, rowB_local b fs gs u v huv h l]
end

theorem ok_rd {n : Nat} {xs : List Int} (h : okL n xs) (i : Int) : ok (rd xs i) := by
 unfold rd
 by_cases hi : i.toNat < xs.length
 ·have e : xs.getD i.toNat 0 = xs[i.toNat] := by simp [List.getD, hi]
  rw [e]; exact h.2 _ hi
 ·have e : xs.getD i.toNat 0 = 0 := by simp [List.getD, List.getElem?_eq_none (Nat.le_of_not_lt hi)]
  rw [e]; exact ok_zero
theorem okL_zero (n : Nat) : okL n (List.replicate n (0 : Int)) := ⟨List.length_replicate, fun i h => by rw [List.getElem_replicate]; exact ok_zero⟩
theorem okL_bool (n : Nat) (xs : List Bool) (h : xs.length = n) : okL n xs := ⟨h, fun _ _ => trivial⟩

/-! ### the steps -/
theorem passG_run {β : Type} [DecidableEq β] (z : β) (more : List β → S64 → β) : ∀ (ps : List S64) (st : List β × Bool), passG z more ps st = runF z (ps.map fun p => (p.f1.toNat, fun xs => more xs p)) st
 | [], _ => rfl
 | p :: ps, st => passG_run z more ps _

theorem growG_ends {β : Type} [DecidableEq β] [Bitty β] (z : β) (more : List β → S64 → β) (ps : List S64) (n : Nat) (xs : List β) (hx : okL n xs)
  (hg : Grows n (ps.map fun p => (p.f1.toNat, fun xs => more xs p))) (hl : Local n (ps.map fun p => (p.f1.toNat, fun xs => more xs p))) (hi : ∀ p ∈ ps, p.f1.toNat < n) (k : Nat) (hk : n + 1 ≤ k) :
  growG z more ps k xs = some (iter (run (ps.map fun p => (p.f1.toNat, fun xs => more xs p))) n xs) := by
 refine grow_ends (growG z more ps) (fun xs => passG z more ps (xs, false)) (run (ps.map fun p => (p.f1.toNat, fun xs => more xs p))) (okL n) (fun k x => rfl) (fun x h => (run_ok _ x hg h).1) (fun x h => ?_) n xs hx (run_stable _ xs hg hl hx) k hk
 rw [passG_run, runF_eq z _ x false hg (fun s hs => ?_) h, Bool.false_or]
 obtain ⟨p, hp, rfl⟩ := List.mem_map.1 hs
 exact hi p hp

/-- What is told by induction of all that grew. -/
theorem least {β : Type} [Bitty β] (z : β) {n : Nat} (ss : List (Nat × (List β → β))) (xs0 : List β) (hg : Grows n ss) (hx : okL n xs0) (C : Nat → Nat → Prop)
  (h0 : ∀ i b, i < n → tb (xs0.getD i z) b = true → C i b) (hs : ∀ s ∈ ss, ∀ xs, okL n xs → (∀ i b, i < n → tb (xs.getD i z) b = true → C i b) → ∀ b, tb (s.2 xs) b = true → C s.1 b) :
  ∀ (m : Nat) i b, i < n → tb ((iter (run ss) m xs0).getD i z) b = true → C i b := fun m => by
 have hall : ∀ xs, okL n xs ∧ (∀ i b, i < n → tb (xs.getD i z) b = true → C i b) → okL n (run ss xs) ∧ (∀ i b, i < n → tb ((run ss xs).getD i z) b = true → C i b) := fun xs hxs =>
  run_inv (fun xs => okL n xs ∧ (∀ i b, i < n → tb (xs.getD i z) b = true → C i b)) ss xs (fun s hs' xs h => ⟨(set_grow h.1 (hg s hs' xs h.1).1 (hg s hs' xs h.1).2).1, fun i b hi hb => by
   have hlen : i < xs.length := by rw [h.1.1]; exact hi
   have e : (xs.set s.1 (s.2 xs)).getD i z = if s.1 = i then s.2 xs else xs[i] := by
    rw [List.getD, List.getElem?_eq_getElem (by rw [List.length_set]; exact hlen), Option.getD_some, List.getElem_set]
   rw [e] at hb
   split at hb
   ·rename_i q; subst q; exact hs s hs' xs h.1 h.2 b hb
   ·refine h.2 i b hi ?_
    rw [List.getD, List.getElem?_eq_getElem hlen, Option.getD_some]
    exact hb⟩) hxs
 exact (iter_inv (run ss) (fun xs => okL n xs ∧ (∀ i b, i < n → tb (xs.getD i z) b = true → C i b)) hall m xs0 ⟨hx, h0⟩).2

end Go.Proofs.YtclollnicbcooaaDoor.P

set_option linter.unusedVariables false
set_option linter.unusedSimpArgs false
namespace Go.Proofs.YtclollnicbcooaaDoor.P
open Go.RowKit Go.Proofs.YtclollnicbcooaaDoorW.PrintWords Go.Proofs.YtclollnicbcooaaDoorW.PrintLast Go.Proofs.YtclollnicbcooaaDoorW.PrintMore Bitty

structure Gram (nT nS : Nat) (ps : List S64) : Prop where
 hT : nT ≤ 60
 hS : nS ≤ 60
 srt : ∀ p ∈ ps, 0 ≤ p.f1 ∧ p.f1 < nS
 sym : ∀ p ∈ ps, ∀ s ∈ p.f2, -(nS : Int) ≤ s ∧ s < nT

theorem gram_of {l0 : List S82} {l1 : List S101} {l2 : List ByteArray} {l3 : List S64} {st : Int} (h : validB l0 l1 l2 l3 st = true) (hr : ∀ p ∈ l3, ∀ s ∈ p.f2, -9223372036854775808 ≤ s ∧ s ≤ 9223372036854775807) :
  Gram l0.length l2.length l3 ∧ 0 ≤ st ∧ st < l2.length := by
 have hT := valid_terms h
 obtain ⟨h0, h1, h2⟩ := valid_has h
 simp only [validB, Bool.and_eq_true, Bool.not_eq_true', decide_eq_false_iff_not, List.all_eq_true] at h
 obtain ⟨⟨⟨⟨⟨⟨⟨⟨-, -⟩, -⟩, -⟩, -⟩, h5⟩, -⟩, -⟩, -⟩ := h
 refine ⟨⟨by omega, by omega, fun p hp => (h2 p hp).1, fun p hp s hs => ?_⟩, h1⟩
 have := h5 p hp
 simp only [prodB, Bool.and_eq_true, Bool.not_eq_true', decide_eq_false_iff_not] at this
 obtain ⟨⟨h6, h7⟩, h8⟩ := this
 have h9 : ¬ oddB l0.length l2.length s = true := fun ho => by
  have : p.f2.any (oddB l0.length l2.length) = true := List.any_eq_true.2 ⟨s, hs, ho⟩
  rw [h8] at this; cases this
 have hb := hr p hp s hs
 by_cases hneg : s < 0
 ·have h10 := (h2 p hp).2 s hs hneg
  rw [IntWalk.i64_in _ (by omega)] at h10
  omega
 ·have hn : decide (0 ≤ s) = true := decide_eq_true (by omega)
  have hy : decide (s < 0) = false := decide_eq_false hneg
  simp only [oddB, hn, hy, Bool.false_and, Bool.or_false, Bool.true_and, Bool.not_eq_true', Bool.not_eq_true, Bool.not_eq_false] at h9
  have h10 : 0 ≤ s ∧ s < l0.length := by simpa [inB] using h9
  omega

theorem wrap_neg {s : Int} (h0 : -60 ≤ s) (h1 : s < 0) : IntKind.i64.wrap (-1 - s) = -1 - s := IntWalk.i64_in _ (by omega)

theorem local_bool {n : Nat} (ss : List (Nat × (List Bool → Bool))) : Local n ss := fun s _ b xs ys hx hy h => by
 have : xs = ys := List.ext_getElem (by rw [hx.1, hy.1]) fun i h1 h2 => h i h1 h2
 rw [this]

section
variable {nT nS : Nat} {ps : List S64} (hG : Gram nT nS ps)
include hG
theorem srt_lt (p : S64) (hp : p ∈ ps) : p.f1.toNat < nS := by have := hG.srt p hp; omega
theorem sym_in (p : S64) (hp : p ∈ ps) (s : Int) (hs : s ∈ p.f2) (hn : s < 0) : IntKind.i64.wrap (-1 - s) = -1 - s ∧ 0 ≤ -1 - s ∧ (-1 - s).toNat < nS := by
 have h1 := hG.sym p hp s hs
 have h2 := hG.hS
 exact ⟨wrap_neg (by omega) hn, by omega, by omega⟩
end

theorem getD_at {β : Type} (z : β) (xs : List β) (i : Nat) (h : i < xs.length) : xs.getD i z = xs[i] := by rw [List.getD, List.getElem?_eq_getElem h, Option.getD_some]

/-! ### Empty, Lives -/
section
variable (term : Bool) {nT nS : Nat} {ps : List S64}
def allS (term : Bool) (ps : List S64) : List (Nat × (List Bool → Bool)) := ps.map fun p => (p.f1.toNat, fun xs => moreB term xs p)
def allR (term : Bool) (nS : Nat) (ps : List S64) : List Bool := iter (run (allS term ps)) nS (List.replicate nS false)
theorem allS_grows : Grows nS (allS term ps) := fun s hs xs hx => ⟨trivial, fun h b hb => by
 obtain ⟨p, hp, rfl⟩ := List.mem_map.1 hs
 have hb' : xs[p.f1.toNat] = true := hb
 show moreB term xs p = true
 unfold moreB
 split
 ·show xs.getD p.f1.toNat false = true
  rw [getD_at false xs _ h]; exact hb'
 ·rfl⟩
variable (hG : Gram nT nS ps)
include hG
theorem allR_is (k : Nat) (hk : nS + 1 ≤ k) : growG false (moreB term) ps k (List.replicate nS false) = some (allR term nS ps) :=
 growG_ends false (moreB term) ps nS _ (okL_bool _ _ List.length_replicate) (allS_grows term) (local_bool _) (srt_lt hG) k hk
end

/-! ### First -/
section
variable {nT nS : Nat} {es : List Bool} {ps : List S64}
def firS (nT nS : Nat) (es : List Bool) (ps : List S64) : List (Nat × (List Int → Int)) := ps.map fun p => (p.f1.toNat, fun xs => moreS nT nS es xs p)
def firR (nT nS : Nat) (es : List Bool) (ps : List S64) : List Int := iter (run (firS nT nS es ps)) nS (List.replicate nS 0)
theorem moreS_has (hT : nT ≤ 60) (xs : List Int) (hx : okL nS xs) (p : S64) : ok (moreS nT nS es xs p) ∧ ∀ b, tb (moreS nT nS es xs p) b = (tb (rdOf 0 xs p.f1) b || rowB nT nS es xs 0 b p.f2) := by
 obtain ⟨r1, r2, r3⟩ := rowV_has nT nS es (by omega) xs 0 (ok_rd hx) ok_zero p.f2
 have h0 : ok (rdOf 0 xs p.f1) := ok_rd hx p.f1
 have e : moreS nT nS es xs p = Go.bits .or .u64 (rdOf 0 xs p.f1) (rowV nT nS es xs 0 p.f2) := rfl
 rw [e]
 exact ⟨or_ok h0 r2, fun b => by rw [or_tb h0 r2, r3]⟩
theorem firS_grows (hT : nT ≤ 60) : Grows nS (firS nT nS es ps) := fun s hs xs hx => by
 obtain ⟨p, hp, rfl⟩ := List.mem_map.1 hs
 obtain ⟨h1, h2⟩ := moreS_has (es := es) hT xs hx p
 refine ⟨h1, fun h b hb => ?_⟩
 have e : rdOf 0 xs p.f1 = xs[p.f1.toNat] := getD_at 0 xs _ h
 rw [h2, e, hb, Bool.true_or]
theorem rd_local {n b : Nat} {xs ys : List Int} (hx : okL n xs) (hy : okL n ys) (h : ∀ i (h : i < xs.length) (h' : i < ys.length), tb xs[i] b = tb ys[i] b) (i : Int) : tb (rd xs i) b = tb (rd ys i) b := by
 unfold rd
 by_cases hi : i.toNat < n
 ·have h1 : i.toNat < xs.length := by rw [hx.1]; exact hi
  have h2 : i.toNat < ys.length := by rw [hy.1]; exact hi
  rw [getD_at 0 xs _ h1, getD_at 0 ys _ h2]; exact h _ h1 h2
 ·have h1 : xs.length ≤ i.toNat := by rw [hx.1]; omega
  have h2 : ys.length ≤ i.toNat := by rw [hy.1]; omega
  simp [List.getD, List.getElem?_eq_none h1, List.getElem?_eq_none h2]
theorem firS_local (hT : nT ≤ 60) : Local nS (firS nT nS es ps) := fun s hs b xs ys hx hy h => by
 obtain ⟨p, hp, rfl⟩ := List.mem_map.1 hs
 show tb (moreS nT nS es xs p) b = tb (moreS nT nS es ys p) b
 rw [(moreS_has hT xs hx p).2, (moreS_has hT ys hy p).2, show tb (rdOf 0 xs p.f1) b = tb (rdOf 0 ys p.f1) b from rd_local hx hy h p.f1, rowB_local nT nS es b xs ys 0 0 rfl (rd_local hx hy h)]
variable (hG : Gram nT nS ps)
include hG
theorem firR_is (k : Nat) (hk : nS + 1 ≤ k) : growG (0 : Int) (moreS nT nS es) ps k (List.replicate nS 0) = some (firR nT nS es ps) :=
 growG_ends 0 (moreS nT nS es) ps nS _ (okL_zero nS) (firS_grows hG.hT) (firS_local hG.hT) (srt_lt hG) k hk
theorem firR_ok : okL nS (firR nT nS es ps) := iter_inv (run (firS nT nS es ps)) (okL nS) (fun x h => (run_ok _ x (firS_grows hG.hT) h).1) nS _ (okL_zero nS)
end

end Go.Proofs.YtclollnicbcooaaDoor.P

set_option linter.unusedVariables false
set_option linter.unusedSimpArgs false
namespace Go.Proofs.YtclollnicbcooaaDoor.P
open Go.RowKit Go.Proofs.YtclollnicbcooaaDoorW.PrintWords Go.Proofs.YtclollnicbcooaaDoorW.PrintLast Go.Proofs.YtclollnicbcooaaDoorW.PrintMore Bitty

theorem set_getD {β : Type} (z : β) (xs : List β) (i : Nat) : xs.set i (xs.getD i z) = xs := by
 apply List.ext_getElem (by simp)
 intro j h h'
 rw [List.getElem_set]
 split
 ·rename_i q; subst q; exact getD_at z xs i h'
 ·rfl

section
variable (nT nS : Int) (es : List Bool) (fs : List Int)
def symS (srt : Int) : List Int → List (Nat × (List Int → Int))
 | [] => []
 | s :: l => if 0 ≤ s then symS srt l else ((IntKind.i64.wrap (-1 - s)).toNat, fun out => folMore nT nS es fs srt s l out) :: symS srt l
def folS (ps : List S64) : List (Nat × (List Int → Int)) := ps.flatMap fun p => symS nT nS es fs p.f1 p.f2
theorem runF_append (z : Int) (a b : List (Nat × (List Int → Int))) (st : List Int × Bool) : runF z (a ++ b) st = runF z b (runF z a st) := List.foldl_append
theorem folSym_run (srt : Int) : ∀ (l : List Int) (st : List Int × Bool), folSym nT nS es fs srt l st = runF 0 (symS nT nS es fs srt l) st
 | [], _ => rfl
 | s :: l, st => by
  unfold folSym symS
  rw [folSym_run srt l]
  by_cases h : 0 ≤ s
  ·rw [if_pos h, if_pos h]
  ·rw [if_neg h, if_neg h]
   show _ = runF 0 (symS nT nS es fs srt l) (if st.1.getD (IntKind.i64.wrap (-1 - s)).toNat 0 = folMore nT nS es fs srt s l st.1 then st else (st.1.set (IntKind.i64.wrap (-1 - s)).toNat (folMore nT nS es fs srt s l st.1), true))
   congr 1
   by_cases e : st.1.getD (IntKind.i64.wrap (-1 - s)).toNat 0 = folMore nT nS es fs srt s l st.1
   ·rw [if_pos e, ← e, set_getD]
    have : rdOf 0 st.1 (IntKind.i64.wrap (-1 - s)) = st.1.getD (IntKind.i64.wrap (-1 - s)).toNat 0 := rfl
    rw [this]
    simp
   ·rw [if_neg e]
    have : folMore nT nS es fs srt s l st.1 ≠ rdOf 0 st.1 (IntKind.i64.wrap (-1 - s)) := fun q => e q.symm
    rw [decide_eq_true this, Bool.or_true]
theorem folPass_run : ∀ (ps : List S64) (st : List Int × Bool), folPass nT nS es fs ps st = runF 0 (folS nT nS es fs ps) st
 | [], _ => rfl
 | p :: ps, st => by
  have e : folS nT nS es fs (p :: ps) = symS nT nS es fs p.f1 p.f2 ++ folS nT nS es fs ps := by simp [folS]
  rw [e, runF_append, ← folSym_run]
  exact folPass_run ps _
theorem symS_mem (srt : Int) : ∀ (l : List Int) (x : Nat × (List Int → Int)), x ∈ symS nT nS es fs srt l ↔ ∃ a s l', l = a ++ s :: l' ∧ s < 0 ∧ x = ((IntKind.i64.wrap (-1 - s)).toNat, fun out => folMore nT nS es fs srt s l' out)
 | [], x => by simp [symS]
 | s :: l, x => by
  have ih := symS_mem srt l x
  unfold symS
  constructor
  ·intro h
   by_cases h0 : 0 ≤ s
   ·rw [if_pos h0] at h
    obtain ⟨a, s', l', e, h1, h2⟩ := ih.1 h
    exact ⟨s :: a, s', l', by rw [e]; rfl, h1, h2⟩
   ·rw [if_neg h0] at h
    rcases List.mem_cons.1 h with h | h
    ·exact ⟨[], s, l, rfl, by omega, h⟩
    ·obtain ⟨a, s', l', e, h1, h2⟩ := ih.1 h
     exact ⟨s :: a, s', l', by rw [e]; rfl, h1, h2⟩
  ·rintro ⟨a, s', l', e, h1, h2⟩
   cases a with
   | nil =>
    have e1 : s = s' := by simpa using (List.cons.inj e).1
    have e2 : l = l' := (List.cons.inj e).2
    subst e1
    subst e2
    rw [if_neg (by omega), h2]
    exact List.mem_cons_self
   | cons y a =>
    have e2 : l = a ++ s' :: l' := (List.cons.inj e).2
    have h3 := ih.2 ⟨a, s', l', e2, h1, h2⟩
    split
    ·exact h3
    ·exact List.mem_cons_of_mem _ h3
theorem folS_mem (ps : List S64) (x : Nat × (List Int → Int)) : x ∈ folS nT nS es fs ps ↔ ∃ p ∈ ps, ∃ a s l, p.f2 = a ++ s :: l ∧ s < 0 ∧ x = ((IntKind.i64.wrap (-1 - s)).toNat, fun out => folMore nT nS es fs p.f1 s l out) := by
 simp only [folS, List.mem_flatMap, symS_mem]
end

section
variable {nT nS : Nat} {es : List Bool} {fs : List Int} {ps : List S64} {st : Int}
theorem folMore_has (hT : nT ≤ 60) (hf : okL nS fs) (srt s : Int) (l : List Int) (xs : List Int) (hx : okL nS xs) : ok (folMore nT nS es fs srt s l xs) ∧ ∀ b, tb (folMore nT nS es fs srt s l xs) b = (tb (rd xs (IntKind.i64.wrap (-1 - s))) b || rowB nT nS es fs (rd xs srt) b l) := by
 have h0 : ok (rd xs (IntKind.i64.wrap (-1 - s))) := ok_rd hx _
 have h1 : ok (rd xs srt) := ok_rd hx _
 obtain ⟨r1, r2, r3⟩ := rowV_has nT nS es (by omega) fs (rd xs srt) (ok_rd hf) h1 l
 have e : folMore nT nS es fs srt s l xs = Go.bits .or .u64 (rd xs (IntKind.i64.wrap (-1 - s))) (rowV nT nS es fs (rd xs srt) l) := rfl
 rw [e]
 exact ⟨or_ok h0 r2, fun b => by rw [or_tb h0 r2, r3]⟩
theorem folS_grows (hT : nT ≤ 60) (hf : okL nS fs) : Grows nS (folS nT nS es fs ps) := fun x hx xs hxs => by
 obtain ⟨p, hp, a, s, l, e, hs, rfl⟩ := (folS_mem _ _ _ _ _ _).1 hx
 obtain ⟨h1, h2⟩ := folMore_has (es := es) hT hf p.f1 s l xs hxs
 refine ⟨h1, fun h b hb => ?_⟩
 have e2 : rd xs (IntKind.i64.wrap (-1 - s)) = xs[(IntKind.i64.wrap (-1 - s)).toNat] := getD_at 0 xs _ h
 rw [h2, e2, hb, Bool.true_or]
theorem folS_local (hT : nT ≤ 60) (hf : okL nS fs) : Local nS (folS nT nS es fs ps) := fun x hx b xs ys hxs hys h => by
 obtain ⟨p, hp, a, s, l, e, hs, rfl⟩ := (folS_mem _ _ _ _ _ _).1 hx
 show tb (folMore nT nS es fs p.f1 s l xs) b = tb (folMore nT nS es fs p.f1 s l ys) b
 rw [(folMore_has hT hf p.f1 s l xs hxs).2, (folMore_has hT hf p.f1 s l ys hys).2, rd_local hxs hys h, rowB_local nT nS es b fs fs (rd xs p.f1) (rd ys p.f1) (rd_local hxs hys h p.f1) (fun _ => rfl)]
def fol0 (nS : Nat) (st : Int) : List Int := (List.replicate nS 0).set st.toNat ((2 ^ 63 : Nat) : Int)
def folR (nT nS : Nat) (es : List Bool) (fs : List Int) (ps : List S64) (st : Int) : List Int := iter (run (folS nT nS es fs ps)) nS (fol0 nS st)
theorem fol0_ok : okL nS (fol0 nS st) := by
 refine ⟨by rw [fol0, List.length_set, List.length_replicate], fun i h => ?_⟩
 simp only [fol0, List.getElem_set]
 split
 ·exact ⟨by decide, by decide⟩
 ·rw [List.getElem_replicate]; exact ok_zero
variable (hG : Gram nT nS ps) (hf : okL nS fs)
include hG hf
theorem folR_is (k : Nat) (hk : nS + 1 ≤ k) : folG nT nS es fs ps k (fol0 nS st) = some (folR nT nS es fs ps st) := by
 have hg : Grows nS (folS nT nS es fs ps) := folS_grows hG.hT hf
 refine grow_ends (folG nT nS es fs ps) (fun xs => folPass nT nS es fs ps (xs, false)) (run (folS nT nS es fs ps)) (okL nS) (fun k x => rfl) (fun x h => (run_ok _ x hg h).1) (fun x h => ?_) nS _ fol0_ok (run_stable _ _ hg (folS_local hG.hT hf) fol0_ok) k hk
 rw [folPass_run, runF_eq 0 _ x false hg (fun s hs => ?_) h, Bool.false_or]
 obtain ⟨p, hp, a, s, l, e, hn, rfl⟩ := (folS_mem _ _ _ _ _ _).1 hs
 have := sym_in hG p hp s (by rw [e]; simp) hn
 show (IntKind.i64.wrap (-1 - s)).toNat < nS
 rw [this.1]; exact this.2.2
theorem folR_ok : okL nS (folR nT nS es fs ps st) := iter_inv (run (folS nT nS es fs ps)) (okL nS) (fun x h => (run_ok _ x (folS_grows hG.hT hf) h).1) nS _ fol0_ok
theorem folR_still : run (folS nT nS es fs ps) (folR nT nS es fs ps st) = folR nT nS es fs ps st := run_stable _ _ (folS_grows hG.hT hf) (folS_local hG.hT hf) fol0_ok
theorem folR_closed (p : S64) (hp : p ∈ ps) (a : List Int) (s : Int) (l : List Int) (e : p.f2 = a ++ s :: l) (hn : s < 0) (b : Nat) (h : rowB nT nS es fs (rd (folR nT nS es fs ps st) p.f1) b l = true) : tb (rd (folR nT nS es fs ps st) (-1 - s)) b = true := by
 have hok : okL nS (folR nT nS es fs ps st) := folR_ok hG hf
 obtain ⟨e1, e2, e3⟩ := sym_in hG p hp s (by rw [e]; simp) hn
 have h1 := run_still _ _ (folS_grows hG.hT hf) hok (folR_still hG hf) ((IntKind.i64.wrap (-1 - s)).toNat, fun out => folMore nT nS es fs p.f1 s l out) ((folS_mem _ _ _ _ _ _).2 ⟨p, hp, a, s, l, e, hn, rfl⟩)
 have hlt : (IntKind.i64.wrap (-1 - s)).toNat < (folR nT nS es fs ps st).length := by rw [hok.1, e1]; exact e3
 have h2 : (folR nT nS es fs ps st)[(IntKind.i64.wrap (-1 - s)).toNat] = folMore nT nS es fs p.f1 s l (folR nT nS es fs ps st) := still_at h1 hlt
 have e4 : rd (folR nT nS es fs ps st) (-1 - s) = (folR nT nS es fs ps st)[(IntKind.i64.wrap (-1 - s)).toNat] := by
  rw [← getD_at 0 _ _ hlt, e1]; rfl
 rw [e4, h2, (folMore_has hG.hT hf p.f1 s l _ hok).2, h, Bool.or_true]
theorem folR_start (h0 : 0 ≤ st) (h1 : st < nS) : tb (rd (folR nT nS es fs ps st) st) 63 = true := by
 have hle : okL nS (folR nT nS es fs ps st) ∧ leL (fol0 nS st) (folR nT nS es fs ps st) :=
  iter_inv (run (folS nT nS es fs ps)) (fun x => okL nS x ∧ leL (fol0 nS st) x) (fun x h => ⟨(run_ok _ x (folS_grows hG.hT hf) h.1).1, leL_trans h.2 (run_ok _ x (folS_grows hG.hT hf) h.1).2⟩) nS _ ⟨fol0_ok, leL_refl _⟩
 have q1 : st.toNat < (fol0 nS st).length := by rw [fol0_ok.1]; omega
 have q2 : st.toNat < (folR nT nS es fs ps st).length := by rw [hle.1.1]; omega
 have := hle.2.2 st.toNat q1 q2 63
 have e : rd (folR nT nS es fs ps st) st = (folR nT nS es fs ps st)[st.toNat] := getD_at 0 _ _ q2
 rw [e]
 refine this ?_
 have e3 : (fol0 nS st)[st.toNat] = ((2 ^ 63 : Nat) : Int) := by simp [fol0]
 rw [e3, bit_tb]; rfl
end

end Go.Proofs.YtclollnicbcooaaDoor.P

set_option linter.unusedVariables false
set_option linter.unusedSimpArgs false
namespace Go.Proofs.YtclollnicbcooaaDoor.P
open Go.RowKit Go.Proofs.YtclollnicbcooaaDoorW.PrintWords Go.Proofs.YtclollnicbcooaaDoorW.PrintLast Go.Proofs.YtclollnicbcooaaDoorW.PrintMore Bitty

/-- A grammar that is in order, with its parts' numbers within what numbers there are. -/
structure Order (l0 : List S82) (l1 : List S101) (l2 : List ByteArray) (l3 : List S64) (st : Int) : Prop where
 valid : validB l0 l1 l2 l3 st = true
 gram : Gram l0.length l2.length l3
 lo : 0 ≤ st
 hi : st < l2.length
theorem order_of {l0 : List S82} {l1 : List S101} {l2 : List ByteArray} {l3 : List S64} {st : Int} (h : validB l0 l1 l2 l3 st = true) (hr : ∀ p ∈ l3, ∀ s ∈ p.f2, -9223372036854775808 ≤ s ∧ s ≤ 9223372036854775807) : Order l0 l1 l2 l3 st :=
 ⟨h, (gram_of h hr).1, (gram_of h hr).2.1, (gram_of h hr).2.2⟩

/-- May sorts be empty? -/
def eR (l2 : List ByteArray) (l3 : List S64) : List Bool := allR false l2.length l3
/-- Do they live? -/
def lR (l2 : List ByteArray) (l3 : List S64) : List Bool := allR true l2.length l3
/-- With what do they begin? -/
def fR (l0 : List S82) (l2 : List ByteArray) (l3 : List S64) : List Int := firR l0.length l2.length (eR l2 l3) l3
/-- What follows them? -/
def wR (l0 : List S82) (l2 : List ByteArray) (l3 : List S64) (st : Int) : List Int := folR l0.length l2.length (eR l2 l3) (fR l0 l2 l3) l3 st
/-- With what does a row begin? -/
def oR (l0 : List S82) (l2 : List ByteArray) (l3 : List S64) (l : List Int) (behind : Int) : Int := rowV l0.length l2.length (eR l2 l3) (fR l0 l2 l3) behind l

section
variable {l0 : List S82} {l1 : List S101} {l2 : List ByteArray} {l3 : List S64} {st : Int} (h : Order l0 l1 l2 l3 st)
include h
theorem Empty_is (k : Nat) (hk : 61 ≤ k) : sets_Empty.f k l0 l1 l2 l3 st = some (eR l2 l3) := by
 have := h.gram.hS
 unfold sets_Empty.f sets_all.f
 rw [if_pos h.valid, allR_is false h.gram k (by omega)]
 rfl
theorem fR_ok : okL l2.length (fR l0 l2 l3) := firR_ok h.gram
theorem wR_ok : okL l2.length (wR l0 l2 l3 st) := folR_ok h.gram (fR_ok h)
theorem oR_has (l : List Int) (behind : Int) (hb : ok behind) : rowF l0.length l2.length (eR l2 l3) (fR l0 l2 l3) behind l 0 = some (oR l0 l2 l3 l behind) ∧ ok (oR l0 l2 l3 l behind) ∧
  ∀ b, tb (oR l0 l2 l3 l behind) b = rowB l0.length l2.length (eR l2 l3) (fR l0 l2 l3) behind b l :=
 rowV_has _ _ _ (by have := h.gram.hT; omega) _ _ (ok_rd (fR_ok h)) hb l
theorem Of_is (l : List Int) (behind : Int) (hb : ok behind) (k : Nat) (hk : 61 ≤ k) : sets_Of.f k l0 l1 l2 l3 st l behind = some (oR l0 l2 l3 l behind) := by
 have := h.gram.hS
 unfold sets_Of.f
 rw [if_pos h.valid, Empty_is h k hk, Option.bind_some, firR_is h.gram k (by omega), Option.bind_some]
 exact (oR_has h l behind hb).1
theorem Follow_is (k : Nat) (hk : 61 ≤ k) : sets_Follow.f k l0 l1 l2 l3 st = some (wR l0 l2 l3 st) := by
 have := h.gram.hS
 unfold sets_Follow.f
 rw [if_pos h.valid, Empty_is h k hk, Option.bind_some, firR_is h.gram k (by omega), Option.bind_some, of_one k (by omega) 63 (by omega) (by omega), Option.bind_some]
 exact folR_is h.gram (fR_ok h) k (by omega)
end

section
variable {l0 : List S82} {l1 : List S101} {l2 : List ByteArray} {l3 : List S64} {st : Int} (h : validB l0 l1 l2 l3 st = false)
include h
end

/-! ### rows -/
section
variable {l0 : List S82} {l1 : List S101} {l2 : List ByteArray} {l3 : List S64} {st : Int} (h : Order l0 l1 l2 l3 st)
include h
theorem oR_nil (behind : Int) (hb : ok behind) : oR l0 l2 l3 [] behind = behind := Bitty.ext (oR_has h [] behind hb).2.1 hb fun b => by rw [(oR_has h [] behind hb).2.2]; rfl
end

end Go.Proofs.YtclollnicbcooaaDoor.P

set_option linter.unusedVariables false
set_option linter.unusedSimpArgs false
namespace Go.Proofs.YtclollnicbcooaaDoor.P
open Go.RowKit Go.Proofs.YtclollnicbcooaaDoorW.PrintWords Go.Proofs.YtclollnicbcooaaDoorW.PrintLast Go.Proofs.YtclollnicbcooaaDoorW.PrintMore Bitty

section
variable {l0 : List S82} {l1 : List S101} {l2 : List ByteArray} {l3 : List S64} {st : Int} (h : Order l0 l1 l2 l3 st)
include h
end

end Go.Proofs.YtclollnicbcooaaDoor.P

set_option linter.unusedVariables false
set_option linter.unusedSimpArgs false
namespace Go.Proofs.YtclollnicbcooaaDoor.P
open Go.RowKit Go.Proofs.YtclollnicbcooaaDoorW.PrintWords Go.Proofs.YtclollnicbcooaaDoorW.PrintLast Go.Proofs.YtclollnicbcooaaDoorW.PrintMore Bitty

theorem rowB_mono (nT nS : Int) (es es' : List Bool) (fs fs' : List Int) (u v : Int) (b : Nat) (he : ∀ i, rdOf false es i = true → rdOf false es' i = true) (hf : ∀ i, tb (rd fs i) b = true → tb (rd fs' i) b = true) (hu : tb u b = true → tb v b = true) :
  ∀ l, rowB nT nS es fs u b l = true → rowB nT nS es' fs' v b l = true
 | [], h => hu h
 | s :: l, h => by
  unfold rowB at h ⊢
  by_cases h1 : nT ≤ s ∨ s < -nS
  ·rw [if_pos h1] at h; cases h
  ·rw [if_neg h1] at h ⊢
   by_cases h2 : 0 ≤ s
   ·rw [if_pos h2] at h ⊢; exact h
   ·rw [if_neg h2] at h ⊢
    rw [Bool.or_eq_true, Bool.and_eq_true] at h ⊢
    rcases h with h | ⟨h3, h4⟩
    ·exact .inl (hf _ h)
    ·exact .inr ⟨he _ h3, rowB_mono nT nS es es' fs fs' u v b he hf hu l h4⟩

section
variable {l0 : List S82} {l1 l1' : List S101} {l2 : List ByteArray} {l3 l3' : List S64} {st : Int} (h : Order l0 l1 l2 l3 st) (h' : Order l0 l1' l2 l3' st) (hsub : ∀ p ∈ l3, p ∈ l3')
include h h' hsub
end

end Go.Proofs.YtclollnicbcooaaDoor.P
end

section
set_option linter.unusedVariables false
set_option linter.unusedSimpArgs false
namespace Go.Proofs.YtclollnicbcooaaDoor.P
open Go.RowKit Go.Lib Go.Sort Go.Proofs.YtclollnicbcooaaDoorW.PrintWords Go.Proofs.YtclollnicbcooaaDoorW.PrintLast Go.Proofs.YtclollnicbcooaaDoorW.PrintMore St Base
attribute [local go_sem] Oper.semAt_some

theorem e_range : ∀ p ∈ e3, ∀ s ∈ p.f2, -9223372036854775808 ≤ s ∧ s ≤ 9223372036854775807 := by
 intro p hp s hs
 unfold e3 at hp
 have := List.mem_singleton.1 hp
 subst this
 have := List.mem_singleton.1 hs
 omega
theorem e_row0 : risen (closedL (gr 0 e3) [(-1, 0)]) = [(-1, 0), (0, 0)] := by
 rw [risen_c]
 kernel_rfl
theorem e_row1 : risen (closedL (gr 0 e3) [(0, 1)]) = [(0, 1)] := by
 rw [risen_c]
 kernel_rfl
theorem e_sg : Sg (gr 0 e3) [(-1, 0)] 0 = [(0, 1)] := by
 rw [Sg_c]
 kernel_rfl
theorem e_follow : wR e0 e2 e3 0 = [9223372036854775808] := by kernel_rfl
theorem e_close1 : states_Close.f e0 [] e2 e3 0 [⟨0, 1⟩] = some [⟨0, 1⟩] := by
 unfold states_Close.f inst_Valid.f states_closed.f
 rw [e_valid, Option.bind_some, if_pos rfl, if_pos ⟨rfl, e_okP, Nat.le_of_ble_eq_true rfl, rfl⟩, risen_c]
 kernel_rfl
theorem e_close2 : states_Close.f e0 [] e2 e3 0 [⟨0, 0⟩] = some [⟨0, 0⟩] := by
 unfold states_Close.f inst_Valid.f states_closed.f
 rw [e_valid, Option.bind_some, if_pos rfl, if_pos ⟨rfl, e_okP, Nat.le_of_ble_eq_true rfl, rfl⟩, risen_c]
 kernel_rfl
theorem done_one (k : Nat) (hk : 3 ≤ k) : look_Done.f k e0 [] e2 e3 0 [⟨0, 1⟩] [9223372036854775808] = some [0] := by
 obtain ⟨k, rfl⟩ : ∃ j, k = j + 3 := ⟨k - 3, by omega⟩
 have h1 : states_Behind.f e0 [] e2 e3 0 0 1 = some (0, false) := by kernel_rfl
 have h2 := e_close1
 unfold look_Done.f
 rw [look_Done.l0, if_pos (by decide), if_pos (by decide), if_pos (by decide)]
 show ((states_Behind.f e0 [] e2 e3 0 0 1).bind fun bt => ((states_Close.f e0 [] e2 e3 0 [⟨0, 1⟩]).bind fun t => _)) = _
 rw [h1, Option.bind_some, h2, Option.bind_some]
 kernel_rfl
theorem done_two (k : Nat) (hk : 4 ≤ k) (a b : Int) : look_Done.f k e0 [] e2 e3 0 [⟨-1, 0⟩, ⟨0, 0⟩] [a, b] = some [] := by
 obtain ⟨k, rfl⟩ : ∃ j, k = j + 4 := ⟨k - 4, by omega⟩
 have h1 : states_Behind.f e0 [] e2 e3 0 (-1) 0 = some (-1, true) := by kernel_rfl
 have h3 : states_Behind.f e0 [] e2 e3 0 0 0 = some (0, true) := by kernel_rfl
 have h2 := e_close
 have h4 := e_close2
 have w1 : wrap64 (0 + 1) = 1 := by unfold wrap64; omega
 unfold look_Done.f
 show look_Done.l0 (k + 4) [] 2 0 e0 [] e2 e3 0 [⟨-1, 0⟩, ⟨0, 0⟩] [a, b] = _
 rw [look_Done.l0, if_pos (by decide), if_pos (by decide), if_pos (by decide)]
 show ((states_Behind.f e0 [] e2 e3 0 (-1) 0).bind fun bt => ((states_Close.f e0 [] e2 e3 0 [⟨-1, 0⟩]).bind fun t => _)) = _
 rw [h1, Option.bind_some, h2, Option.bind_some, if_pos rfl, w1]
 rw [look_Done.l0, if_pos (by decide), if_pos (by decide), if_pos (by decide)]
 show ((states_Behind.f e0 [] e2 e3 0 0 0).bind fun bt => ((states_Close.f e0 [] e2 e3 0 [⟨0, 0⟩]).bind fun t => _)) = _
 rw [h3, Option.bind_some, h4, Option.bind_some]
 kernel_rfl
/-- Rows as the example wants them. -/
def workRows (R : List S74) : Prop := R.length = 3 ∧ (rd_T74 R 0).f0.map toI = [(-1, 0), (0, 0)] ∧ (rd_T74 R 0).f1.length = 2 ∧ (rd_T74 R 1).f0.map toI = [(0, 1)] ∧ (rd_T74 R 1).f1 = [9223372036854775808]
instance (R : List S74) : Decidable (workRows R) := by unfold workRows; infer_instance
def syntagmlaw15_works.f (k : Nat) : Option Bool := (look_All.f k e0 [] e2 e3 0).bind fun b => if 10 ≤ k ∧ b.2 = 0 ∧ workRows b.1 then some true else none
theorem toI_of {l : List S37} {m : List Itm} (h : l.map toI = m) : l = m.map ofI := by rw [← h, map_ofI_toI]
theorem all_e {n : Nat} {W : World} (h : Ge n W) (hG : GTab W) {k : Nat} {R : List S74} (hA : look_All.f k e0 [] e2 e3 0 = some (R, 0)) : Calls Tryd.prog 28 #[aE n] W fun e w' => ∃ A c, e = .returned (.tuple #[.slice A R.length c, .int .i64 0]) ∧ (R.length ≤ c ∧ Kd.C k74 w' A R.length R) ∧ Below W.heap.size W w' := by
 refine (look_All.calls k _ 1 e0 none 0 [] _ 1 e2 _ 1 e3 0 R 0 W hG h.r0 (Nat.le_refl _) (Kd.C_nil _ _) (Nat.le_refl _) h.r1 (Nat.le_refl _) h.r3 (Nat.le_refl _) hA).mono ?_
 rintro e w' ⟨v0, rfl, h0, hb⟩
 obtain ⟨A, c, rfl, l0, r0⟩ := Kd.S_reads h0
 exact ⟨A, c, rfl, ⟨l0, r0⟩, hb⟩
theorem done_e {n : Nat} {W : World} (h : Ge n W) {k : Nat} {A A' : Option Addr} {c c' : Nat} {l : List S37} {m r : List Int} (h0 : Kd.C k37 W A l.length l) (hc : l.length ≤ c) (h1 : Kd.C (Kd.int .u64) W A' m.length m) (hc1 : m.length ≤ c') (hq : look_Done.f k e0 [] e2 e3 0 l m = some r) : Calls Tryd.prog 46 #[aE n, .agg #[.slice A l.length c, .slice A' m.length c']] W fun e w' => ∃ A c, e = .returned (.slice A r.length c) ∧ (r.length ≤ c ∧ Kd.C (Kd.int .i64) w' A r.length r) ∧ Below W.heap.size W w' := by
 refine (look_Done.calls k _ 1 e0 none 0 [] _ 1 e2 _ 1 e3 0 A c l A' c' m r W h.r0 (Nat.le_refl _) (Kd.C_nil _ _) (Nat.le_refl _) h.r1 (Nat.le_refl _) h.r3 (Nat.le_refl _) h0 hc h1 hc1 hq).mono ?_
 rintro e w' ⟨v0, rfl, h0, hb⟩
 obtain ⟨A, c, rfl, l0, r0⟩ := Kd.R_reads h0
 exact ⟨A, c, rfl, ⟨l0, r0⟩, hb⟩
theorem ahead_e {n : Nat} {W : World} (h : Ge n W) (hG : GTab W) {k : Nat} {R : List S74} {A A' : Option Addr} {c c' : Nat} (h0 : 3 ≤ c ∧ Kd.C (Kd.slice 37 k37) W A 3 kE) (h1 : 3 ≤ c' ∧ Kd.C (Kd.slice 3 (Kd.int .i64)) W A' 3 nE) (hq : look_All.f k e0 [] e2 e3 0 = some (R, 0)) (h3 : R.length = 3) : Calls Tryd.prog 47 #[aE n, .agg #[.slice A 3 c, .slice A' 3 c']] W fun e w' => ∃ A c, e = .returned (.slice A 3 c) ∧ Below W.heap.size W w' := by
 have hA : look_Ahead.f k e0 [] e2 e3 0 kE nE = some R := by
  unfold look_All.f at hq
  unfold look_Ahead.f
  rw [e_build, Option.bind_some] at hq ⊢
  rw [if_pos rfl] at hq
  rw [if_pos ⟨rfl, rfl, rfl⟩]
  obtain ⟨x, hx, hx2⟩ := Option.map_eq_some_iff.1 hq
  injection hx2 with hx2 _
  rw [← hx2]
  exact hx
 refine (look_Ahead.calls k _ 1 e0 none 0 [] _ 1 e2 _ 1 e3 0 A c kE A' c' nE R W hG h.r0 (Nat.le_refl _) (Kd.C_nil _ _) (Nat.le_refl _) h.r1 (Nat.le_refl _) h.r3 (Nat.le_refl _) h0.2 h0.1 h1.2 h1.1 hA).mono ?_
 rintro e w' ⟨v0, rfl, h0, hb⟩
 obtain ⟨A, c, rfl, l0, r0⟩ := Kd.S_reads h0
 exact ⟨A, c, by rw [h3], hb⟩
set_option maxHeartbeats 8000000 in
set_option maxRecDepth 100000 in
theorem looks_walk (k : Nat) (R : List S74) (w : World) (hG : GTab w) (hA : look_All.f k e0 [] e2 e3 0 = some (R, 0)) (hk : 10 ≤ k) (hR : workRows R) : Calls Tryd.prog 27 #[] w fun e w' => e = .returned (.bool true) ∧ Below w.heap.size w w' := by
 have hu82 := Tryd.underlying82
 have hu64 := Tryd.underlying64
 have hu27 := Tryd.underlying27
 have hu49 := Tryd.underlying49
 have hu37 := Tryd.underlying37
 have hu74 := Tryd.underlying74
 have HG := Aside0.mk hG
 have HA := Aside0.mk hA
 have HK := Aside0.mk hk
 obtain ⟨hR3, hR0, hR1, hR2, hR4⟩ := hR
 have HR3 := Aside0.mk hR3
 have HR0 := Aside0.mk (toI_of hR0)
 obtain ⟨va, vb, hab⟩ : ∃ a b, (rd_T74 R 0).f1 = [a, b] := by
  match h : (rd_T74 R 0).f1, hR1 with
  | [a, b], _ => exact ⟨a, b, rfl⟩
 have HR1 := Aside0.mk hab
 have HR2 := Aside0.mk (toI_of hR2)
 have HR4 := Aside0.mk hR4
 clear hG hA hk hR0 hR1 hR2 hR3 hR4 hab
 go_enter Tryd.func27, Tryd.ntmps27
 go_upto_region 2 with fail
 have GE1 := Aside0.mk (Ge.start w)
 have HB1 := Aside0.mk (below_alloc (below_alloc (below_alloc (below_alloc (below_alloc (Below.refl w.heap.size w) (Obj.cells #[.string ⟨#[97]⟩, .string ⟨#[]⟩, .bool false, .int .i64 0] 82)) (Obj.cells #[.string ⟨#[83]⟩] 9)) (Obj.cells #[.int .i64 0] 29)) (Obj.cells #[.string ⟨#[112]⟩, .int .i64 0, .slice (some ⟨w.heap.size + 1 + 1, 0, none⟩) 1 1, .int .i64 0] 64)) (Obj.cells #[.slice (some ⟨w.heap.size, 0, none⟩) 1 1, .slice none 0 0, .slice (some ⟨w.heap.size + 1, 0, none⟩) 1 1, .slice (some ⟨w.heap.size + 1 + 1 + 1, 0, none⟩) 1 1, .int .i64 0] 27))
 generalize ((((w.alloc (Obj.cells #[.string ⟨#[97]⟩, .string ⟨#[]⟩, .bool false, .int .i64 0] 82)).alloc (Obj.cells #[.string ⟨#[83]⟩] 9)).alloc (Obj.cells #[.int .i64 0] 29)).alloc (Obj.cells #[.string ⟨#[112]⟩, .int .i64 0, .slice (some ⟨w.heap.size + 1 + 1, 0, none⟩) 1 1, .int .i64 0] 64)).alloc (Obj.cells #[.slice (some ⟨w.heap.size, 0, none⟩) 1 1, .slice none 0 0, .slice (some ⟨w.heap.size + 1, 0, none⟩) 1 1, .slice (some ⟨w.heap.size + 1 + 1 + 1, 0, none⟩) 1 1, .int .i64 0] 27) = W1 at *
 obtain ⟨n, hn⟩ : ∃ n, n = w.heap.size := ⟨_, rfl⟩
 obtain ⟨y0, y1, y2, y3, y4⟩ := five5 GE1.out.c4
 go_upto_region 3 with (go_at_call 28; (with_reducible refine (all_e GE1.out (GTab.below HG.out HB1.out) HA.out).mono ?_); rintro e w2 ⟨A, c, rfl, hk, hb⟩; have HB2 := Aside0.mk (below_step HB1.out hb); have GE2 := Aside0.mk (Ge.below GE1.out hb); have HL2 := Aside0.mk hk; clear hk hb)
 clear y0 y1 y2 y3 y4
 rw [HR3.out] at HL2 ⊢
 obtain ⟨ad, P0, p0, P1, p1, rfl, x0, x1, xl0, xC0, xl1, xC1⟩ := at_T74 HL2.out.2 0 (by omega) (by omega)
 obtain ⟨ad', Q0, q0, Q1, q1, ee, z0, z1, zl0, zC0, zl1, zC1⟩ := at_T74 HL2.out.2 1 (by omega) (by omega)
 injection ee with ee
 subst ee
 rw [HR0.out] at x0 xl0 xC0
 rw [HR1.out] at x1 xl1 xC1
 rw [HR2.out] at z0 zl0 zC0
 rw [HR4.out] at z1 zl1 zC1
 have x0' : w2.cell? ad = some (.slice P0 2 p0) := by
  have e : ad.add ((0 : Int).toNat * 2) = ad := add_none ad
  rw [e] at x0; exact x0
 have x1' : w2.cell? ⟨ad.block, ad.off + 1, none⟩ = some (.slice P1 2 p1) := by
  have e : ad.add ((0 : Int).toNat * 2) = ad := add_none ad
  rw [e] at x1; exact x1
 have ea : ad.add ((1 : Int).toNat * 2) = ⟨ad.block, ad.off + 2, none⟩ := by
  have h0 := add_field ad 0 2 (by omega)
  have h1 : ad.add 0 = ad := add_none ad
  rw [h1] at h0
  exact h0
 rw [ea] at z0 z1
 have z0' : w2.cell? ⟨ad.block, ad.off + 2, none⟩ = some (.slice Q0 1 q0) := z0
 have z1' : w2.cell? ⟨ad.block, ad.off + 3, none⟩ = some (.slice Q1 1 q1) := z1
 obtain ⟨aq, cs, eq1, _, hcK, hcell⟩ := Kd.C_get zC1 0 (0 : Int) (by omega) (by decide)
 have z2 : w2.cell? aq = some (.int .u64 9223372036854775808) := by
  have e : aq.add ((0 : Int).toNat * 1 + 0) = aq := add_none aq
  have hcs : cs = [.int .u64 9223372036854775808] := hcK
  have := hcell 0 (.int .u64 9223372036854775808) (by rw [hcs]; rfl)
  rw [← e]; exact this
 subst eq1
 have XX := Aside0.mk (And.intro x0' (And.intro x1' (And.intro z0' (And.intro z1' z2))))
 have XC0 := Aside0.mk xC0
 have XC1 := Aside0.mk xC1
 have ZC0 := Aside0.mk zC0
 have ZC1 := Aside0.mk zC1
 have XL := Aside0.mk (show 2 ≤ p0 ∧ 2 ≤ p1 ∧ 1 ≤ q0 ∧ 1 ≤ q1 from ⟨xl0, xl1, zl0, zl1⟩)
 clear x0 x1 z0 z1 x0' x1' z0' z1' z2 xC0 xC1 zC0 zC1 xl0 xl1 zl0 zl1 hcell hcK
 obtain ⟨y0, y1, y2, y3, y4⟩ := five5 GE2.out.c4
 obtain ⟨x0, x1, z0, z1, z2⟩ := XX.out
 go_upto_region 5 with fail
 have HX := Aside0.mk fun (W' : World) (hb : RowKit.Below w2.heap.size w2 W') => show W'.cell? ad = some (.slice P0 2 p0) ∧ W'.cell? ⟨ad.block, ad.off + 1, none⟩ = some (.slice P1 2 p1) ∧ W'.cell? ⟨ad.block, ad.off + 2, none⟩ = some (.slice Q0 1 q0) ∧ W'.cell? ⟨ad.block, ad.off + 3, none⟩ = some (.slice (some aq) 1 q1) ∧ W'.cell? aq = some (.int .u64 9223372036854775808) from
  ⟨(hb.cell (World.block_lt_of_cell? _ _ XX.out.1)).trans XX.out.1, (hb.cell (World.block_lt_of_cell? _ _ XX.out.2.1)).trans XX.out.2.1, (hb.cell (World.block_lt_of_cell? _ _ XX.out.2.2.1)).trans XX.out.2.2.1, (hb.cell (World.block_lt_of_cell? _ _ XX.out.2.2.2.1)).trans XX.out.2.2.2.1, (hb.cell (World.block_lt_of_cell? _ _ XX.out.2.2.2.2)).trans XX.out.2.2.2.2⟩
 have HD5 := Aside0.mk fun (W' : World) (hb : RowKit.Below w2.heap.size w2 W') => done_e (Ge.below GE2.out hb) (Kd.C_below ZC0.out hb) XL.out.2.2.1 (Kd.C_below ZC1.out hb) XL.out.2.2.2 (done_one k (by have := HK.out; omega))
 go_region_held3 (fun w' => w'.cell? ⟨w.heap.size + 1 + 1 + 1 + 1, 0, none⟩ = some (.slice (some ⟨w.heap.size, 0, none⟩) 1 1) ∧ w'.cell? ⟨w.heap.size + 1 + 1 + 1 + 1, 1, none⟩ = some (.slice none 0 0) ∧ w'.cell? ⟨w.heap.size + 1 + 1 + 1 + 1, 2, none⟩ = some (.slice (some ⟨w.heap.size + 1, 0, none⟩) 1 1) ∧ w'.cell? ⟨w.heap.size + 1 + 1 + 1 + 1, 3, none⟩ = some (.slice (some ⟨w.heap.size + 1 + 1 + 1, 0, none⟩) 1 1) ∧ w'.cell? ⟨w.heap.size + 1 + 1 + 1 + 1, 4, none⟩ = some (.int .i64 0) ∧ w'.cell? ⟨ad.block, ad.off + 2, none⟩ = some (.slice Q0 1 q0) ∧ w'.cell? ⟨ad.block, ad.off + 3, none⟩ = some (.slice (some aq) 1 q1)) (go_keep)
  (first | (go_at_call 46; refine (HD5.out _ (by repeat (first | exact RowKit.Below.refl _ _ | apply below_drew1))).mono ?_; rintro e w3 ⟨A3, c3, rfl, h3, hb3⟩; have hbb := below_step (w := w2) (by repeat (first | exact RowKit.Below.refl _ _ | apply below_drew1)) hb3; have GE3 := Aside0.mk (Ge.below GE2.out hbb); obtain ⟨y0, y1, y2, y3, y4⟩ := five5 GE3.out.c4; obtain ⟨x0, x1, z0, z1, z2⟩ := HX.out w3 hbb; have HB3 := Aside0.mk hbb; have HD3 := Aside0.mk h3; clear hb3 hbb h3))
 have HB4 := Aside0.mk (below_step HB2.out HB3.out)
 go_upto_region 7 with (go_at_call 23; (with_reducible refine (build_e GE3.out (GTab.below HG.out HB4.out)).mono ?_); rintro e w4 ⟨A4, c4, A5, c5, rfl, hk4, hn4, hb4⟩; have HBB4 := Aside0.mk hb4; have HK4 := Aside0.mk hk4; have HN4 := Aside0.mk hn4; clear hk4 hn4 hb4)
 clear y0 y1 y2 y3 y4 x0 x1 z0 z1 z2
 have BA := Aside0.mk (blk_new w4 (Obj.cells #[.slice A4 3 c4, .slice A5 3 c5] 49))
 have HA4 := Aside0.mk (below_step HBB4.out (below_alloc (RowKit.Below.refl w4.heap.size w4) (Obj.cells #[.slice A4 3 c4, .slice A5 3 c5] 49)))
 have HK5 := Aside0.mk (And.intro HK4.out.1 (Kd.C_below HK4.out.2 (below_alloc (RowKit.Below.refl w4.heap.size w4) (Obj.cells #[.slice A4 3 c4, .slice A5 3 c5] 49))))
 have HN5 := Aside0.mk (And.intro HN4.out.1 (Kd.C_below HN4.out.2 (below_alloc (RowKit.Below.refl w4.heap.size w4) (Obj.cells #[.slice A4 3 c4, .slice A5 3 c5] 49))))
 generalize w4.alloc (Obj.cells #[.slice A4 3 c4, .slice A5 3 c5] 49) = w5 at *
 generalize w4.heap.size = ab at *
 have HB5 := Aside0.mk (below_step HB3.out HA4.out)
 have HBW := Aside0.mk (below_step HB2.out HB5.out)
 have GE5 := Aside0.mk (Ge.below GE3.out HA4.out)
 obtain ⟨adn, cs3, ed3, _, hcK3, hcell3⟩ := Kd.C_get HD3.out.2 0 (0 : Int) (by omega) (by decide)
 have d0 : w5.cell? adn = some (.int .i64 0) := by
  have e : adn.add ((0 : Int).toNat * 1 + 0) = adn := add_none adn
  have hcs : cs3 = [.int .i64 0] := hcK3
  have := hcell3 0 (.int .i64 0) (by rw [hcs]; rfl)
  have h2 : w3.cell? adn = some (.int .i64 0) := by rw [← e]; exact this
  exact (HA4.out.cell (World.block_lt_of_cell? _ _ h2)).trans h2
 subst ed3
 have hR3 := HR3.out
 have HDD := Aside0.mk d0
 clear hcK3 hcell3 d0
 have HQ := Aside0.mk fun (W' : World) (hb : RowKit.Below w5.heap.size w5 W') => And.intro (Ge.below GE5.out hb) (And.intro (HX.out W' (below_step HB5.out hb)) (And.intro (blk_below BA.out hb) ((hb.cell (World.block_lt_of_cell? _ _ HDD.out)).trans HDD.out)))
 have HAH := Aside0.mk fun (W' : World) (hb : RowKit.Below w5.heap.size w5 W') => ahead_e (Ge.below GE5.out hb) (GTab.below HG.out (below_step HBW.out hb)) (And.intro HK5.out.1 (Kd.C_below HK5.out.2 hb)) (And.intro HN5.out.1 (Kd.C_below HN5.out.2 hb)) HA.out HR3.out
 have HDO := Aside0.mk fun (W' : World) (hb : RowKit.Below w5.heap.size w5 W') => done_e (Ge.below GE5.out hb) (Kd.C_below XC0.out (below_step HB5.out hb)) XL.out.1 (Kd.C_below XC1.out (below_step HB5.out hb)) XL.out.2.1 (done_two k (by have := HK.out; omega) va vb)
 obtain ⟨hGE, ⟨x0, x1, z0, z1, z2⟩, hBA, d0⟩ := HQ.out w5 (RowKit.Below.refl _ _)
 obtain ⟨y0, y1, y2, y3, y4⟩ := five5 hGE.c4
 have a0 : w5.cell? ⟨ab, 0, none⟩ = some (.slice A4 3 c4) := blk_cell hBA 0
 have a1 : w5.cell? ⟨ab, 1, none⟩ = some (.slice A5 3 c5) := blk_cell hBA 1
 clear hGE hBA hR3
 go_region_held3 (fun w' => w'.cell? ⟨w.heap.size + 1 + 1 + 1 + 1, 0, none⟩ = some (.slice (some ⟨w.heap.size, 0, none⟩) 1 1) ∧ w'.cell? ⟨w.heap.size + 1 + 1 + 1 + 1, 1, none⟩ = some (.slice none 0 0) ∧ w'.cell? ⟨w.heap.size + 1 + 1 + 1 + 1, 2, none⟩ = some (.slice (some ⟨w.heap.size + 1, 0, none⟩) 1 1) ∧ w'.cell? ⟨w.heap.size + 1 + 1 + 1 + 1, 3, none⟩ = some (.slice (some ⟨w.heap.size + 1 + 1 + 1, 0, none⟩) 1 1) ∧ w'.cell? ⟨w.heap.size + 1 + 1 + 1 + 1, 4, none⟩ = some (.int .i64 0) ∧ w'.cell? ad = some (.slice P0 2 p0) ∧ w'.cell? ⟨ad.block, ad.off + 1, none⟩ = some (.slice P1 2 p1) ∧ w'.cell? ⟨ad.block, ad.off + 3, none⟩ = some (.slice (some aq) 1 q1) ∧ w'.cell? aq = some (.int .u64 9223372036854775808) ∧ w'.cell? adn = some (.int .i64 0) ∧ w'.cell? ⟨ab, 0, none⟩ = some (.slice A4 3 c4) ∧ w'.cell? ⟨ab, 1, none⟩ = some (.slice A5 3 c5)) (go_keep)
  (first | (go_at_call 47; refine (HAH.out _ (by repeat (first | exact RowKit.Below.refl _ _ | apply below_drew1))).mono ?_; rintro e w6 ⟨A6, c6, rfl, hb6⟩; have hbb := below_step (w := w5) (by repeat (first | exact RowKit.Below.refl _ _ | apply below_drew1)) hb6; have HB6 := Aside0.mk hbb; obtain ⟨hGE, ⟨x0, x1, z0, z1, z2⟩, hBA, d0⟩ := HQ.out w6 hbb; obtain ⟨y0, y1, y2, y3, y4⟩ := five5 hGE.c4; have a0 := blk_cell hBA 0; have a1 := blk_cell hBA 1; clear hGE hBA hbb hb6) | (go_at_call 46; refine (HDO.out _ (by repeat (first | exact HB6.out | exact RowKit.Below.refl _ _ | apply below_drew1))).mono ?_; rintro e w7 ⟨A7, c7, rfl, h7, hb7⟩; have hbb := below_step (w := w5) (by repeat (first | exact HB6.out | exact RowKit.Below.refl _ _ | apply below_drew1)) hb7; have HB7 := Aside0.mk hbb; obtain ⟨hGE, ⟨x0, x1, z0, z1, z2⟩, hBA, d0⟩ := HQ.out w7 hbb; obtain ⟨y0, y1, y2, y3, y4⟩ := five5 hGE.c4; have a0 := blk_cell hBA 0; have a1 := blk_cell hBA 1; clear hGE hBA hbb hb7 h7))
 go_wp2_with fail
 go_ret
 exact ⟨rfl, below_step HBW.out HB7.out⟩
theorem syntagmlaw15_works.calls (k : Nat) (r : Bool) (w : World) (hG : GTab w) (hT : r = true) (h : syntagmlaw15_works.f k = some r) :
  Calls Tryd.prog 27 #[] w fun e w' => e = .returned (.bool r) ∧ Below w.heap.size w w' := by
 unfold syntagmlaw15_works.f at h
 obtain ⟨⟨R, e⟩, hb, h⟩ := Option.bind_eq_some_iff.1 h
 split at h
 ·rename_i hq
  subst hT
  obtain ⟨hk, he, hR⟩ := hq
  simp only at he hR
  subst he
  exact looks_walk k R w hG hb hk hR
 ·cases h
end Go.Proofs.YtclollnicbcooaaDoor.P
end

section
set_option linter.unusedVariables false
set_option linter.unusedSimpArgs false
namespace Go.Proofs.YtclollnicbcooaaDoor.P
open Go.Proofs.YtclollnicbcooaaDoor.Base Go.RowKit Go.Proofs.YtclollnicbcooaaDoorW.PrintWords Go.Proofs.YtclollnicbcooaaDoorW.PrintLast Go.Proofs.YtclollnicbcooaaDoorW.PrintMore

theorem C_oneI (w : World) (x : Int) : Kd.C (Kd.int .i64) (w.alloc (.cells #[.int .i64 x] 3)) (some ⟨w.heap.size, 0, none⟩) 1 [x] := by
 have h : Kd.R (Kd.int .i64) 3 (w.alloc (.cells #[.int .i64 x] 3)) w.heap.size (fun _ => True) (.slice (some ⟨w.heap.size, 0, none⟩) 1 1) [x] :=
  Kd.R_of_own (enc := fun x => Value.int .i64 x) ⟨by simp [encs], .inr ⟨w.heap.size, 1, #[.int .i64 x], by simp, Nat.le_refl _, blk_new w _, by simp, by simp [maxLen], by simp, by simp [encs]⟩⟩ (fun _ _ => trivial)
 exact (Kd.R_reads' h).2.2

theorem wp_scope_inner {P : Program} {Q : Exit → Act → World → Prop} {a : Act} {w : World} {c rest : Code} (l : Nat) (J : Nat → Act → World → Prop) (hf : findLabel c l = some (Code.skip.seq rest))
  (first : (∀ n a w, J n a w → rest.wp P (Exit.jump l (fun a w => ∃ n, J n a w) Q) a w) → c.wp P (Exit.jump l (fun a w => ∃ n, J n a w) Q) a w)
  (pass : ∀ n a w, J n a w → rest.wp P (Exit.jump l (fun a' w' => ∃ m, m < n ∧ J m a' w') Q) a w) : (Code.scope c).wp P Q a w :=
 wp_scope_ghost (rest := Code.skip.seq rest) l J hf (first fun n a w hj => Code.wp_mono (Exit.jump_imp fun _ _ ⟨m, _, hj⟩ => ⟨m, hj⟩) (pass n a w hj)) fun n a w hj => wp_seq (wp_skip (pass n a w hj))

/-- What Follow's loop reads, in the world behind 'known'. -/
structure FolF (w w3 : World) (gb tb nT nS : Nat) (l3 : List S64) (A0 A2 A3 E F : Option Addr) (c0 c2 c3 dE cF : Nat) (es : List Bool) (fs : List Int) : Prop where
 below : Below w.heap.size w w3
 prods : w3.cell? ⟨gb, 3, none⟩ = some (.slice A3 l3.length c3)
 reads : Kd.C k64 w3 A3 l3.length l3
 t0 : w3.cell? ⟨tb, 0, none⟩ = some (.slice A0 nT c0)
 t2 : w3.cell? ⟨tb, 2, none⟩ = some (.slice A2 nS c2)
 t5 : w3.cell? ⟨tb, 5, none⟩ = some (.slice E nS dE)
 t6 : w3.cell? ⟨tb, 6, none⟩ = some (.slice F nS cF)
 empty : Kd.C Kd.bool w3 E nS es
 first : Kd.C (Kd.int .u64) w3 F nS fs

set_option maxHeartbeats 8000000 in
set_option maxRecDepth 100000 in
set_option maxRecDepth 100000 in
theorem sets_Follow.calls (k : Nat) (A0 : Option Addr) (c0 : Nat) (l0 : List S82) (A1 : Option Addr) (c1 : Nat) (l1 : List S101) (A2 : Option Addr) (c2 : Nat) (l2 : List ByteArray) (A3 : Option Addr) (c3 : Nat) (l3 : List S64) (st : Int) (r : List Int) (w : World)
  (hr0 : Kd.C k82 w A0 l0.length l0) (hc0 : l0.length ≤ c0) (hr1 : Kd.C k101 w A1 l1.length l1) (hc1 : l1.length ≤ c1) (hr2 : Kd.C Kd.string w A2 l2.length l2) (hc2 : l2.length ≤ c2) (hr3 : Kd.C k64 w A3 l3.length l3) (hc3 : l3.length ≤ c3)
  (h : sets_Follow.f k l0 l1 l2 l3 st = some r) :
  Calls Tryd.prog 32 #[.agg #[.slice A0 l0.length c0, .slice A1 l1.length c1, .slice A2 l2.length c2, .slice A3 l3.length c3, .int .i64 st]] w fun e w' => ∃ v0_ : Value, e = .returned v0_ ∧ Kd.R (Kd.int .u64) 76 w' w.heap.size (fun _ => True) v0_ r ∧ Below w.heap.size w w' := by
 have HB : Aside0 (Below w.heap.size w (w.alloc (Obj.cells #[.slice A0 l0.length c0, .slice A1 l1.length c1, .slice A2 l2.length c2, .slice A3 l3.length c3, .int .i64 st] 27))) := ⟨below_alloc (Below.refl _ _) _⟩
 have hsz : Aside0 (w.heap.size < (w.alloc (Obj.cells #[.slice A0 l0.length c0, .slice A1 l1.length c1, .slice A2 l2.length c2, .slice A3 l3.length c3, .int .i64 st] 27)).heap.size) := ⟨by simp⟩
 have r0 := Kd.C_below hr0 HB.out
 have r1 := Kd.C_below hr1 HB.out
 have r2 := Kd.C_below hr2 HB.out
 have r3 := Kd.C_below hr3 HB.out
 have hu27 := Tryd.underlying27
 have hu138 := Tryd.underlying138
 have hu64 := Tryd.underlying64
 unfold sets_Follow.f at h
 cases hv : validB l0 l1 l2 l3 st
 ·have hkn := Aside0.mk (known_nil A0 c0 l0 A1 c1 l1 A2 c2 l2 A3 c3 l3 st (w.alloc (Obj.cells #[.slice A0 l0.length c0, .slice A1 l1.length c1, .slice A2 l2.length c2, .slice A3 l3.length c3, .int .i64 st] 27)) r0 r1 r2 r3 hv)
  have hr : Aside0 (([] : List Int) = r) := ⟨by rw [hv] at h; simpa using h⟩
  clear hr0 hr1 hr2 hr3 r0 r1 r2 r3 hv h
  go_enter Tryd.func32, Tryd.ntmps32
  go_wp2
  go_step3
  go_wp2_with (go_at_call 51; refine hkn.out.mono ?_; rintro e w3 ⟨rfl, hb3⟩; replace hb3 := Aside0.mk hb3)
  rw [Exit.noGoto_ret]
  go_ret
  exact ⟨_, rfl, by rw [← hr.out]; exact Kd.R_nil _ _ _ _ _, below_step HB.out hb3.out⟩
 ·rw [if_pos hv] at h
  obtain ⟨es, he, h⟩ := Option.bind_eq_some_iff.1 h
  obtain ⟨fs, hf, h⟩ := Option.bind_eq_some_iff.1 h
  obtain ⟨eo, ho, h⟩ := Option.bind_eq_some_iff.1 h
  have hkn := Aside0.mk (known_calls k A0 c0 l0 A1 c1 l1 A2 c2 l2 A3 c3 l3 st es fs (w.alloc (Obj.cells #[.slice A0 l0.length c0, .slice A1 l1.length c1, .slice A2 l2.length c2, .slice A3 l3.length c3, .int .i64 st] 27)) r0 hc0 r1 hc1 r2 hc2 r3 hc3 hv he (Empty_len hv he) hf (fun p hp => ⟨((valid_has hv).2.2 p hp).1, fun xs => rowF_total _ _ (valid_terms hv) _ _ _ _ _⟩))
  have hvh := Aside0.mk (valid_has hv)
  have hT := Aside0.mk (valid_terms hv)
  have HH := Aside0.mk h
  have HO := Aside0.mk ho
  have h60 : (l2.length : Int) ≤ 60 := by have := (valid_has hv).1; omega
  have hst0 : (0 ≤ st) = True := eq_true (valid_has hv).2.1.1
  have hst1 : (st < (l2.length : Int)) = True := eq_true (valid_has hv).2.1.2
  have hpos : Aside0 (0 < l2.length) := ⟨by have := (valid_has hv).2.1; omega⟩
  have X3 := Aside0.mk r3
  have f2 : (w.alloc (Obj.cells #[.slice A0 l0.length c0, .slice A1 l1.length c1, .slice A2 l2.length c2, .slice A3 l3.length c3, .int .i64 st] 27)).cell? ⟨w.heap.size, 2, none⟩ = some (.slice A2 l2.length c2) := by go_simp
  have f3 : (w.alloc (Obj.cells #[.slice A0 l0.length c0, .slice A1 l1.length c1, .slice A2 l2.length c2, .slice A3 l3.length c3, .int .i64 st] 27)).cell? ⟨w.heap.size, 3, none⟩ = some (.slice A3 l3.length c3) := by go_simp
  have f4 : (w.alloc (Obj.cells #[.slice A0 l0.length c0, .slice A1 l1.length c1, .slice A2 l2.length c2, .slice A3 l3.length c3, .int .i64 st] 27)).cell? ⟨w.heap.size, 4, none⟩ = some (.int .i64 st) := by go_simp
  replace f2 := Aside0.mk f2
  replace f3 := Aside0.mk f3
  replace f4 := Aside0.mk f4
  clear hr0 hr1 hr2 hr3 r0 r1 r2 r3 hv h he hf ho
  go_enter Tryd.func32, Tryd.ntmps32
  go_wp2
  obtain ⟨gb, hgb⟩ : ∃ gb, w.heap.size = gb := ⟨_, rfl⟩
  have HGB := Aside0.mk hgb
  clear hgb
  obtain ⟨vg, hvg⟩ : ∃ vg : Value, vg = .agg #[.slice A0 l0.length c0, .slice A1 l1.length c1, .slice A2 l2.length c2, .slice A3 l3.length c3, .int .i64 st] := ⟨_, rfl⟩
  rw [← hvg]
  clear hvg
  refine wp_scope_inner 0 (fun n a wr => ∃ (w3 : World) (tb G cap dE G2 cap2 : Nat) (E : Option Addr) (xs : List Int) (u5 u6 u7 u8 u9 u10 u11 u12 u13 u14 u15 u16 u17 u18 u19 u20 u21 u22 u23 u24 u25 u26 u27 u28 u29 u30 u31 u32 u33 u34 u35 u36 u37 u38 u39 u40 u41 u42 u43 u44 u45 u46 u47 u48 u49 u50 u51 u52 u53 u54 u55 u56 u57 u58 u59 u60 u61 u62 u63 u64 u65 u66 u67 u68 u69 u70 u71 u72 u73 u74 u75 u76 u77 u78 : Value), a = { tmps := #[vg, .pointer (some ⟨w.heap.size, 0, none⟩), .slice none 0 0, .pointer (some ⟨tb, 0, none⟩), .slice (some ⟨G2, 0, none⟩) l2.length cap2, u5, u6, u7, u8, u9, u10, u11, u12, u13, u14, u15, u16, u17, u18, u19, u20, u21, u22, u23, u24, u25, u26, u27, u28, u29, u30, u31, u32, u33, u34, u35, u36, u37, u38, u39, u40, u41, u42, u43, u44, u45, u46, u47, u48, u49, u50, u51, u52, u53, u54, u55, u56, u57, u58, u59, u60, u61, u62, u63, u64, u65, u66, u67, u68, u69, u70, u71, u72, u73, u74, u75, u76, u77, u78], defers := [] } ∧ Aside0 (FolF w w3 w.heap.size tb l0.length l2.length l3 A0 A2 A3 E (some ⟨G, 0, none⟩) c0 c2 c3 dE cap es fs) ∧ Aside0 (w3.heap.size ≤ G2 ∧ Below w3.heap.size w3 wr) ∧ Aside0 (Kd.R (Kd.int .u64) 76 wr w.heap.size (fun _ => True) (.slice (some ⟨G2, 0, none⟩) l2.length cap2) xs) ∧ Aside0 (folG l0.length l2.length es fs l3 n xs = some r)) rfl ?first ?pass
  case first =>
   intro hpass
   go_hide hQ
   rw [hQ] at hpass
   replace hpass := Aside0.mk hpass
   replace hQ := Aside0.mk hQ
   go_upto_region 5 with (first | (go_at_call 51; refine hkn.out.mono ?_; rintro e w3 ⟨tb, G, cap, dE, E, rfl, y0, y2, y5, y6, hE, hR, hb3⟩; have F2 := pw_cell_below hb3 f2.out; replace hb3 := Aside0.mk hb3; replace hR := Aside0.mk hR; replace hE := Aside0.mk hE; replace y0 := Aside0.mk y0; replace y2 := Aside0.mk y2; replace y5 := Aside0.mk y5; replace y6 := Aside0.mk y6) | ((with_reducible refine gate_dst (N := 18) rfl ?_); refine Kd.R_make (w0 := w3) (Kd.int .u64) w3.heap.size 76 rfl (N := 18) rfl 72 _ _ rfl (l2.length : Int) rfl rfl Tryd.underlying72 (.int .u64 0) 8 info76 rfl (by decide) (by omega) 0 (ok := fun _ => True) (okp := fun _ => True) rfl (fun _ hk => hk) trivial (by omega) (by omega) (Below.refl _ _) (Nat.le_refl _) ?_; intro v1 w4 ho4 hb4 hg4 hnew4; rw [Int.toNat_natCast] at ho4; obtain ⟨G2, cap2, hv1, hGb, hGs, hGc⟩ := Kd.R_form ho4 (by rw [List.length_replicate]; exact hpos.out); rw [List.length_replicate] at hv1; subst hv1; replace ho4 := Aside0.mk ho4; replace hb4 := Aside0.mk hb4; replace hGb := Aside0.mk (And.intro hGb hGs); clear hg4 hnew4 hGs hGc))
   have F43 := pw_cell_below hb3.out f4.out
   have F4 := pw_cell_below hb4.out F43
   obtain ⟨o, ho⟩ : ∃ o, rdOf 0 (List.replicate l2.length (0 : Int)) st = o := ⟨_, rfl⟩
   have hc := Kd.R_celln 0 ho4.out st (of_eq_true hst0) (of_eq_true hst1)
   rw [ho] at hc
   obtain ⟨hc1, hc2⟩ := hc
   have hgn : Aside0 (w.heap.size < w3.heap.size) := ⟨Nat.lt_of_lt_of_le hsz.out hb3.out.size⟩
   have hgG : ¬ w.heap.size = G2 := by have := hgn.out; have := hGb.out.1; omega
   have n1 := World.new_ne w4 _ F4
   have n2 := World.new_ne w4 _ hc1
   have hlt2 : G2 < w4.heap.size := hGb.out.2
   clear F2
   go_cut [19] from 20 to 24 (fun s19 wr => s19 = .slice (some ⟨G2, 0, none⟩) l2.length cap2 ∧ Aside0 (Kd.R (Kd.int .u64) 76 wr w3.heap.size (fun _ => True) (.slice (some ⟨G2, 0, none⟩) l2.length cap2) ((List.replicate l2.length 0).set st.toNat eo)) ∧ Aside0 (Below w3.heap.size w3 wr))
   case first =>
    go_region_held3 (fun w' => w'.cell? ⟨w.heap.size, 4, none⟩ = some (.int .i64 st)) (first | (go_keep; done) | exact pw_cell_below (w := w3) (by repeat (first | exact hb4.out | apply below_alloc | apply pw_below_drewN | apply below_drew | refine Below.setCell ?_ hGb.out.1 _)) F43)
     (first | (go_at_call 31; refine (bits_Of.calls k _ _ [63] eo _ ?_ ?_ HO.out).mono ?_; (first | exact C_oneI _ _ | exact Kd.C_below (C_oneI _ _) (below_drew (Below.refl _ _))); (exact Nat.le_refl _); rintro e wx ⟨rfl, m, rfl⟩))
    all_goals go_wp2_with fail
    all_goals go_meet
    all_goals exact ⟨rfl, ⟨Kd.R_putn (by (repeat (with_reducible first | apply Kd.R_alloc | apply Kd.R_drewN | apply Kd.R_drew)); exact ho4.out) st eo⟩, ⟨by repeat (first | exact hb4.out | apply below_alloc | apply pw_below_drewN | apply below_drew | refine Below.setCell ?_ hGb.out.1 _)⟩⟩
   case rest =>
    obtain ⟨rfl, hR5, hB5⟩ := hcut
    go_upto_region 6 with fail
    go_step3
    simp only [Exit.then]
    rename_i hKK
    have hFF : Kd.C (Kd.int .u64) w3 (some ⟨G, 0, none⟩) l2.length fs := by have := (Kd.R_reads' hR.out).2.2; rwa [← (Kd.R_reads' hR.out).1] at this
    refine hKK _ _ (hpass.out k _ _ ⟨w3, tb, G, cap, dE, G2, cap2, E, (List.replicate l2.length 0).set st.toNat eo, _, _, _, _, _, _, _, _, _, _, _, _, _, _, _, _, _, _, _, _, _, _, _, _, _, _, _, _, _, _, _, _, _, _, _, _, _, _, _, _, _, _, _, _, _, _, _, _, _, _, _, _, _, _, _, _, _, _, _, _, _, _, _, _, _, _, _, _, _, _, _, _, _, _, rfl, ⟨⟨below_step HB.out hb3.out, pw_cell_below hb3.out f3.out, Kd.C_below X3.out hb3.out, y0.out, y2.out, y5.out, y6.out, hE.out, hFF⟩⟩, ⟨hGb.out.1, hB5.out⟩, ⟨Kd.R_lower hR5.out (Nat.le_of_lt hgn.out)⟩, HH⟩)
  case pass =>
   clear hkn f2 f3 f4 X3 hpos hst0 hst1 HO HH
   rintro n a wq ⟨w3, tb, G, cap, dE, G2, cap2, E, xs, u5, u6, u7, u8, u9, u10, u11, u12, u13, u14, u15, u16, u17, u18, u19, u20, u21, u22, u23, u24, u25, u26, u27, u28, u29, u30, u31, u32, u33, u34, u35, u36, u37, u38, u39, u40, u41, u42, u43, u44, u45, u46, u47, u48, u49, u50, u51, u52, u53, u54, u55, u56, u57, u58, u59, u60, u61, u62, u63, u64, u65, u66, u67, u68, u69, u70, u71, u72, u73, u74, u75, u76, u77, u78, rfl, HFo, HN, HR, HG⟩
   go_hide hQ
   replace hQ := Aside0.mk hQ
   have f3 := pw_cell_below HN.out.2 HFo.out.prods
   go_wp2
   clear f3
   go_loopw [5, 28] (fun v5 v28 wr => ∃ (kk : Nat) (ch : Bool) (ys : List Int), v5 = .bool ch ∧ v28 = .int .i64 kk ∧ kk ≤ l3.length ∧ Aside0 (Kd.R (Kd.int .u64) 76 wr w.heap.size (fun _ => True) (.slice (some ⟨G2, 0, none⟩) l2.length cap2) ys) ∧ Aside0 (Below w3.heap.size w3 wr) ∧ Aside0 (folPass l0.length l2.length es fs l3 (xs, false) = folPass l0.length l2.length es fs (l3.drop kk) (ys, ch))) (fun _ v28 _ => l3.length - (intOf v28).toNat)
   case atStart => exact ⟨0, false, xs, rfl, rfl, Nat.zero_le _, HR, ⟨HN.out.2⟩, ⟨rfl⟩⟩
   case round =>
    obtain ⟨kk, ch, ys, rfl, rfl, hk, HRR, HBB, HP⟩ := hrel
    have hmx : l3.length ≤ 9223372036854775807 := HFo.out.reads.2.1
    by_cases hlt : kk < l3.length
    ·have hltb : decide (kk < l3.length) = true := decide_eq_true (by omega)
     obtain ⟨ad, A4, c4, e4, hx1, hx2, hx3, hx4, hcap, hr4⟩ := at_T64 HFo.out.reads (kk : Int) (by omega) (by omega)
     rw [Int.toNat_natCast] at hx1 hx2 hx3 hx4
     replace hx1 := pw_cell_below HBB.out hx1
     replace hx2 := pw_cell_below HBB.out hx2
     replace hx3 := pw_cell_below HBB.out hx3
     replace hx4 := pw_cell_below HBB.out hx4
     obtain ⟨p, hp⟩ : ∃ p, rd_T64 l3 kk = p := ⟨_, rfl⟩
     rw [hp] at hx1 hx2 hx3 hx4 hr4 hcap
     have hpk : l3[kk] = p := by rw [← hp]; unfold rd_T64; simp [List.getD, hlt]
     have hmem : p ∈ l3 := by rw [← hpk]; exact List.getElem_mem hlt
     have HPK := Aside0.mk hpk
     have hsp := Aside0.mk (hvh.out.2.2 p hmem)
     have HR4 := Aside0.mk hr4
     have HC4 := Aside0.mk hcap
     have hstep : Aside0 (folPass l0.length l2.length es fs l3 (xs, false) = folPass l0.length l2.length es fs (l3.drop (kk + 1)) (folSym l0.length l2.length es fs p.f1 p.f2 (ys, ch))) := ⟨by rw [HP.out, folPass_drop _ _ _ _ _ kk hlt, HPK.out]⟩
     clear hp hpk hr4 hcap hmem
     obtain ⟨nl, hnl⟩ : ∃ nl, p.f2.length = nl := ⟨_, rfl⟩
     obtain ⟨lab, hlab⟩ : ∃ lab, p.f0 = lab := ⟨_, rfl⟩
     obtain ⟨srt, hsrt⟩ : ∃ srt, p.f1 = srt := ⟨_, rfl⟩
     obtain ⟨cls, hcls⟩ : ∃ cls, p.f3 = cls := ⟨_, rfl⟩
     rw [hlab] at hx1
     rw [hsrt] at hx2 hstep hsp
     rw [hnl] at hx3
     rw [hcls] at hx4
     have HNL := Aside0.mk hnl
     clear hlab hnl hcls hsrt
     go_upto_region 10 with fail
     have HZ : Aside0 (Below wr.heap.size wr (wr.alloc (Obj.cells #[.string lab, .int .i64 srt, .slice A4 nl c4, .int .i64 cls] 64))) := ⟨below_alloc (Below.refl _ _) _⟩
     have z1 : (wr.alloc (Obj.cells #[.string lab, .int .i64 srt, .slice A4 nl c4, .int .i64 cls] 64)).cell? ⟨wr.heap.size, 1, none⟩ = some (.int .i64 srt) := by go_simp
     have z2 : (wr.alloc (Obj.cells #[.string lab, .int .i64 srt, .slice A4 nl c4, .int .i64 cls] 64)).cell? ⟨wr.heap.size, 2, none⟩ = some (.slice A4 nl c4) := by go_simp
     generalize wr.alloc (Obj.cells #[.string lab, .int .i64 srt, .slice A4 nl c4, .int .i64 cls] 64) = wz at *
     clear hx1 hx2 hx3 hx4
     have HRZ := Aside0.mk (Kd.R_below HRR.out HZ.out)
     have HBZ : Aside0 (Below w3.heap.size w3 wz) := ⟨HBB.out.trans (HZ.out.mono HBB.out.size)⟩
     have hgy : Aside0 (wr.heap.size ≠ G2) := ⟨by have := Kd.R_lt HRR.out G2 rfl; omega⟩
     have Z1 := Aside0.mk z1
     have Z2 := Aside0.mk z2
     generalize wr.heap.size = gy at z1 z2 hgy Z1 Z2 ⊢
     obtain ⟨wo, rfl⟩ : ∃ wo, wo = wr := ⟨_, rfl⟩
     go_wp2
     clear z1 z2 hltb
     go_loopw [5, 35] (fun v5 v35 wi => ∃ (j : Nat) (c' : Bool) (zs : List Int), v5 = .bool c' ∧ v35 = .int .i64 j ∧ j ≤ nl ∧ Aside0 (Kd.R (Kd.int .u64) 76 wi w.heap.size (fun _ => True) (.slice (some ⟨G2, 0, none⟩) l2.length cap2) zs) ∧ Aside0 (wz.grownBy wi (some G2)) ∧ Aside0 (folSym l0.length l2.length es fs srt p.f2 (ys, ch) = folSym l0.length l2.length es fs srt (p.f2.drop j) (zs, c'))) (fun _ v35 _ => nl - (intOf v35).toNat)
     case atStart => exact ⟨0, ch, ys, rfl, rfl, Nat.zero_le _, HRZ, ⟨World.grownBy.refl _ _⟩, ⟨rfl⟩⟩
     case round =>
      obtain ⟨j, c', zs, rfl, rfl, hj, HRI, HGI, HPI⟩ := hrel
      have hmj : nl ≤ 9223372036854775807 := by have := HR4.out.2.1; rw [HNL.out] at this; exact this
      have HBI : Aside0 (Below w3.heap.size w3 wr) := ⟨below_grownS HBZ.out HGI.out HN.out.1⟩
      by_cases hjl : j < nl
      ·have hjb : decide (j < nl) = true := decide_eq_true (by omega)
       obtain ⟨ad5, e5, hxs⟩ := Kd.at_int (Kd.C_below HR4.out HBI.out) (j : Int) (by omega) (by have := HNL.out; omega)
       rw [Int.toNat_natCast] at hxs
       have hjl2 : j < p.f2.length := by rw [HNL.out]; exact hjl
       have hrk : rd p.f2 (j : Int) = p.f2[j] := by unfold rd; simp [List.getD, hjl2]
       obtain ⟨s, hs⟩ : ∃ s, p.f2[j] = s := ⟨_, rfl⟩
       have hin := hsp.out.2 p.f2[j] (List.getElem_mem hjl2)
       have hst := HPI.out
       rw [folSym_drop _ _ _ _ _ _ j hjl2, hs] at hst
       rw [hrk, hs] at hxs
       rw [hs] at hin
       replace hst := Aside0.mk hst
       clear hrk hs
       subst e5
       by_cases hs0 : 0 ≤ s
       ·have hs0b : decide (0 ≤ s) = true := decide_eq_true hs0
        have hst2 : Aside0 (folSym l0.length l2.length es fs srt p.f2 (ys, ch) = folSym l0.length l2.length es fs srt (p.f2.drop (j + 1)) (zs, c')) := ⟨by have := hst.out; rwa [if_pos hs0] at this⟩
        clear hst
        go_wp2
        exact ⟨⟨j + 1, c', zs, rfl, rfl, by omega, HRI, HGI, hst2⟩, by simp [intOf]; omega⟩
       ·have hs0b : decide (0 ≤ s) = false := decide_eq_false hs0
        obtain ⟨jx, hjx⟩ : ∃ jx, IntKind.i64.wrap (-1 - s) = jx := ⟨_, rfl⟩
        obtain ⟨hj0, hj1⟩ := hin (by omega)
        obtain ⟨m, hm⟩ : ∃ m, folMore l0.length l2.length es fs srt s (p.f2.drop (j + 1)) zs = m := ⟨_, rfl⟩
        obtain ⟨o, ho⟩ : ∃ o, rdOf 0 zs jx = o := ⟨_, rfl⟩
        obtain ⟨o2, ho2⟩ : ∃ o2, rdOf 0 zs srt = o2 := ⟨_, rfl⟩
        have hst2 : Aside0 (folSym l0.length l2.length es fs srt p.f2 (ys, ch) = folSym l0.length l2.length es fs srt (p.f2.drop (j + 1)) (zs.set jx.toNat m, c' || decide (m ≠ o))) := ⟨by have := hst.out; rw [if_neg hs0, hm, hjx, ho] at this; exact this⟩
        have hm2 : Aside0 (∃ q, rowF l0.length l2.length es fs o2 (p.f2.drop (j + 1)) 0 = some q ∧ m = Go.bits .or .u64 o q) := ⟨by
         obtain ⟨q, hq⟩ := rowF_total l0.length l2.length hT.out es fs o2 (p.f2.drop (j + 1)) 0
         refine ⟨q, hq, ?_⟩
         rw [← hm]; unfold folMore; rw [hjx, ho, ho2, hq]; rfl⟩
        clear hst hm
        rw [hjx] at hj0 hj1
        have q0 : (0 ≤ jx) = True := eq_true hj0
        have q1 : (jx < (l2.length : Int)) = True := eq_true hj1
        have q2 : (0 ≤ srt) = True := eq_true hsp.out.1.1
        have q3 : (srt < (l2.length : Int)) = True := eq_true hsp.out.1.2
        have hjj : IntKind.i64.wrap ((j : Int) + 1) = (j : Int) + 1 := IntWalk.i64_in _ (by omega)
        obtain ⟨q, hq1, hq2⟩ := hm2.out
        have hU := Aside0.mk (show bits_Union.f o q = some m by rw [hq2]; rfl)
        have hjl3 : j + 1 ≤ p.f2.length := hjl2
        obtain ⟨T, hTT⟩ : ∃ T, (if c4 = j + 1 then some ad5 else (some ad5).map (·.add ((j + 1) * (Kd.int .i64).sz))) = T := ⟨_, rfl⟩
        have hCd := Kd.C_drop (m := j + 1) HR4.out hjl3 HC4.out
        rw [hTT] at hCd
        have hlen : (p.f2.drop (j + 1)).length = nl - (j + 1) := by rw [List.length_drop, HNL.out]
        have h60n : l2.length ≤ 60 := by omega
        have hrow := fun (w' : World) (hb : Below wr.heap.size wr w') => row_calls tb l0.length l2.length A0 A2 E (some ⟨G, 0, none⟩) c0 c2 dE cap es fs T (c4 - (j + 1)) (p.f2.drop (j + 1)) o2 q w' (Kd.C_below hCd (below_step HBI.out hb)) h60n (pw_cell_below (below_step HBI.out hb) HFo.out.t0) (pw_cell_below (below_step HBI.out hb) HFo.out.t2) (pw_cell_below (below_step HBI.out hb) HFo.out.t5) (pw_cell_below (below_step HBI.out hb) HFo.out.t6) (Kd.C_below HFo.out.empty (below_step HBI.out hb)) (Kd.C_below HFo.out.first (below_step HBI.out hb)) hq1
        rw [hlen] at hrow
        replace hrow := Aside0.mk hrow
        obtain ⟨i41, hi41, hsz⟩ := Option.map_eq_some_iff.1 info29
        have hsl := cut_from (P := Tryd.prog) 62 29 .i64 Tryd.underlying62 hi41 (Kd.int .i64).sz (congrArg (fun z => z.2.1) hsz) (some ad5) nl c4 ((j : Int) + 1) (by omega) (by omega)
        rw [show ((j : Int) + 1).toNat = j + 1 by omega, hTT] at hsl
        have k1 := (Kd.R_celln 0 HRI.out jx hj0 hj1).1
        rw [ho] at k1
        have k2 := (Kd.R_celln 0 HRI.out srt hsp.out.1.1 hsp.out.1.2).1
        rw [ho2] at k2
        have k3 := HGI.out.cell Z1.out (by intro e; injection e with e; exact hgy.out e)
        have k4 := HGI.out.cell Z2.out (by intro e; injection e with e; exact hgy.out e)
        have K1 := Aside0.mk k1
        have K2 := Aside0.mk k2
        have K3 := Aside0.mk k3
        have K4 := Aside0.mk k4
        have HO1 := Aside0.mk ho
        clear k1 k2 k3 k4 hCd hTT hi41 hsz hq1 hq2 ho ho2 hlen hjl2 hjl3
        go_upto_region 14 with fail
        clear hxs
        have k1 := cell_below K1.out
        have k2 := cell_below K2.out
        have k3 := cell_below K3.out
        have k4 := cell_below K4.out
        refine wp_region_below (by kernel_rfl) (by kernel_rfl) ?_
        repeat (refine wpQuiet_step (fun K hK => ?_); go_simp; (first | (refine hK _ ?_; clear hK K) | (apply Exists.intro; refine ⟨fun wc hwc => ?_, hK _ ?_⟩; (first | exact rfl | (first | (go_at_call 53; exact calls_below hwc hwc.size ((hrow.out _ hwc).mono fun _ _ h => ⟨h.1, below_drawn h.2⟩)) | (go_at_call 52; exact calls_below hwc hwc.size ((bits_Union.calls _ _ _ _ hU.out).mono fun _ _ h => ⟨h.1, below_drawn h.2⟩))) | (go_simp; exact rfl)); clear hK K)))
        refine wpQuiet_nil ?_
        intro wq hwq
        clear k1 k2 k3 k4
        have HRQ := Aside0.mk (Kd.R_below HRI.out hwq)
        have HGQ := Aside0.mk (grown_below HGI.out hwq)
        obtain ⟨k5, k6⟩ := Kd.R_celln 0 HRQ.out jx hj0 hj1
        rw [HO1.out] at k5
        have hend : Aside0 (Kd.R (Kd.int .u64) 76 (wq.setCell ⟨G2, jx.toNat, none⟩ (.int .u64 m)) w.heap.size (fun _ => True) (.slice (some ⟨G2, 0, none⟩) l2.length cap2) (zs.set jx.toNat m)) := ⟨Kd.R_putn HRQ.out jx m⟩
        cases c'
        ·by_cases hom : m = o
         ·subst hom
          have hom1 : decide (m = m) = true := by simp
          go_wp2
          exact ⟨⟨_, _, _, _, _, ⟨j + 1, .inl ⟨rfl, rfl, by omega, zs.set jx.toNat m, hend, ⟨grown_put HGQ.out⟩, ⟨by rw [hst2.out]; simp⟩⟩⟩, rfl, rfl, rfl, rfl, rfl⟩, by simp [intOf]; omega⟩
         ·have hom1 : decide (m = o) = false := decide_eq_false hom
          have hom2 : (m != o) = true := by simp [hom]
          go_wp2
          exact ⟨⟨_, _, _, _, _, ⟨j + 1, .inr ⟨rfl, rfl, by omega, zs.set jx.toNat m, hend, ⟨grown_put HGQ.out⟩, ⟨by rw [hst2.out]; simp [hom]⟩⟩⟩, rfl, rfl, rfl, rfl, rfl⟩, by simp [intOf]; omega⟩
        ·go_wp2
         exact ⟨⟨_, _, _, _, _, ⟨j + 1, .inr ⟨rfl, rfl, by omega, zs.set jx.toNat m, hend, ⟨grown_put HGQ.out⟩, ⟨by rw [hst2.out]; simp⟩⟩⟩, rfl, rfl, rfl, rfl, rfl⟩, by simp [intOf]; omega⟩
      ·have hjb : decide (j < nl) = false := decide_eq_false (by omega)
       have HE : Aside0 (folSym l0.length l2.length es fs srt p.f2 (ys, ch) = (zs, c')) := ⟨by rw [HPI.out, List.drop_eq_nil_of_le (by have := HNL.out; omega)]; rfl⟩
       go_wp2
       exact ⟨⟨kk + 1, c', zs, rfl, rfl, by omega, HRI, HBI, ⟨by rw [hstep.out, HE.out]⟩⟩, by simp [intOf]; omega⟩
    ·have hltb : decide (kk < l3.length) = false := decide_eq_false (by omega)
     obtain ⟨n', rfl⟩ : ∃ n', n = n' + 1 := by
      cases n with
      | zero => have := HG.out; cases this
      | succ n' => exact ⟨n', rfl⟩
     have HF : Aside0 (folPass l0.length l2.length es fs l3 (xs, false) = (ys, ch)) := ⟨by rw [HP.out, List.drop_eq_nil_of_le (by omega)]; rfl⟩
     cases ch
     ·have HE : Aside0 (ys = r) := ⟨by have := HG.out; unfold folG at this; rw [HF.out] at this; simpa using this⟩
      go_wp2
      rw [← hQ.out]
      simp only [Exit.jump]
      go_ret
      exact ⟨_, rfl, by rw [← HE.out]; exact HRR.out, HFo.out.below.trans (HBB.out.mono HFo.out.below.size)⟩
     ·have HE : Aside0 (folG l0.length l2.length es fs l3 n' ys = some r) := ⟨by have := HG.out; unfold folG at this; rw [HF.out] at this; simpa using this⟩
      go_wp2
      go_step3
      rw [← hQ.out]
      exact ⟨rfl, n', Nat.lt_succ_self _, w3, tb, G, cap, dE, G2, cap2, E, ys, _, _, _, _, _, _, _, _, _, _, _, _, _, _, _, _, _, _, _, _, _, _, _, _, _, _, _, _, _, _, _, _, _, _, _, _, _, _, _, _, _, _, _, _, _, _, _, _, _, _, _, _, _, _, _, _, _, _, _, _, _, _, _, _, _, _, _, _, _, _, _, _, _, _, rfl, HFo, ⟨HN.out.1, HBB.out⟩, HRR, HE⟩

end Go.Proofs.YtclollnicbcooaaDoor.P
end

section
namespace Go.Proofs.YtclollnicbcooaaDoor.P
open Go.RowKit Go.Proofs.YtclollnicbcooaaDoorW.PrintWords Go.Proofs.YtclollnicbcooaaDoorW.PrintLast Go.Proofs.YtclollnicbcooaaDoorW.PrintMore
attribute [local go_sem] max2_int min2_int max_two min_two max_three min_three max_four min_four   -- for this text's walks alone
set_option linter.unusedVariables false
set_option linter.unusedSimpArgs false

/-! ### syntagmlaw15_LookFollows: function 11 -/
mutual
def syntagmlaw15_LookFollows.l0 : Nat → Bool → List (S74) → List Int → Int → List (S82) → List (S101) → List ByteArray → List (S64) → Int → Option (Bool)
 | 0, _, _, _, _, _, _, _, _, _ => none
 | k + 1, x3, x5, x7, x8, x296000, x296001, x296002, x296003, x296004 => if x8 < (x5.length : Int) then (syntagmlaw15_LookFollows.l1 k x3 x5 x7 x8 0 x296000 x296001 x296002 x296003 x296004) else (some x3)
def syntagmlaw15_LookFollows.l1 : Nat → Bool → List (S74) → List Int → Int → Int → List (S82) → List (S101) → List ByteArray → List (S64) → Int → Option (Bool)
 | 0, _, _, _, _, _, _, _, _, _, _ => none
 | k + 1, x3, x5, x7, x8, x9, x296000, x296001, x296002, x296003, x296004 => if 0 ≤ x8 then (if x8 < (x5.length : Int) then (if x9 < (((rd_T74 x5 x8).f0).length : Int) then (if 0 ≤ x9 then (if ((rd_T37 ((rd_T74 x5 x8).f0) x9).f0) < 0 then (if x9 < (((rd_T74 x5 x8).f1).length : Int) then ((bits_Of.f k (([63] : List Int))).bind fun t313 => (if (rd ((rd_T74 x5 x8).f1) x9) = t313 then (if ((rd_T37 ((rd_T74 x5 x8).f0) x9).f0) ≥ 0 then (if 0 ≤ ((rd_T37 ((rd_T74 x5 x8).f0) x9).f0) then (if ((rd_T37 ((rd_T74 x5 x8).f0) x9).f0) < (x296003.length : Int) then (if 0 ≤ ((rd_T64 x296003 ((rd_T37 ((rd_T74 x5 x8).f0) x9).f0)).f1) then (if ((rd_T64 x296003 ((rd_T37 ((rd_T74 x5 x8).f0) x9).f0)).f1) < (x7.length : Int) then ((bits_In.f (rd ((rd_T74 x5 x8).f1) x9) (rd x7 ((rd_T64 x296003 ((rd_T37 ((rd_T74 x5 x8).f0) x9).f0)).f1))).bind fun t318 => (if t318 = true then (syntagmlaw15_LookFollows.l1 k x3 x5 x7 x8 (wrap64 (x9 + 1)) x296000 x296001 x296002 x296003 x296004) else (some false))) else (none)) else (none)) else (none)) else (none)) else (syntagmlaw15_LookFollows.l1 k x3 x5 x7 x8 (wrap64 (x9 + 1)) x296000 x296001 x296002 x296003 x296004)) else (some false))) else (none)) else (if ((rd_T37 ((rd_T74 x5 x8).f0) x9).f0) ≥ 0 then (if x9 < (((rd_T74 x5 x8).f1).length : Int) then (if 0 ≤ ((rd_T37 ((rd_T74 x5 x8).f0) x9).f0) then (if ((rd_T37 ((rd_T74 x5 x8).f0) x9).f0) < (x296003.length : Int) then (if 0 ≤ ((rd_T64 x296003 ((rd_T37 ((rd_T74 x5 x8).f0) x9).f0)).f1) then (if ((rd_T64 x296003 ((rd_T37 ((rd_T74 x5 x8).f0) x9).f0)).f1) < (x7.length : Int) then ((bits_In.f (rd ((rd_T74 x5 x8).f1) x9) (rd x7 ((rd_T64 x296003 ((rd_T37 ((rd_T74 x5 x8).f0) x9).f0)).f1))).bind fun t323 => (if t323 = true then (syntagmlaw15_LookFollows.l1 k x3 x5 x7 x8 (wrap64 (x9 + 1)) x296000 x296001 x296002 x296003 x296004) else (some false))) else (none)) else (none)) else (none)) else (none)) else (none)) else (syntagmlaw15_LookFollows.l1 k x3 x5 x7 x8 (wrap64 (x9 + 1)) x296000 x296001 x296002 x296003 x296004))) else (none)) else (syntagmlaw15_LookFollows.l0 k x3 x5 x7 (wrap64 (x8 + 1)) x296000 x296001 x296002 x296003 x296004)) else (none)) else (none)
end
def syntagmlaw15_LookFollows.f (k : Nat) (l0_0 : List (S82)) (l0_1 : List (S101)) (l0_2 : List ByteArray) (l0_3 : List (S64)) (a0_4 : Int) : Option (Bool) := (syntagmlaw15_works.f k).bind fun t296 => (if t296 = true then ((syntagmlaw14_Little.f k l0_0 l0_1 l0_2 l0_3 a0_4).bind fun t297 => (if t297 = true then ((look_All.f k l0_0 l0_1 l0_2 l0_3 a0_4).bind fun bt298 => (if bt298.2 = 0 then ((sets_Follow.f k l0_0 l0_1 l0_2 l0_3 a0_4).bind fun t302 => (syntagmlaw15_LookFollows.l0 k t296 bt298.1 t302 0 l0_0 l0_1 l0_2 l0_3 a0_4)) else (some t296))) else (some t296))) else (some false))
def syntagmlaw15_LookFollows.T18 : Bool × List (List Nat × List Nat) := (true, [([], []), ([0], [0]), ([1], [1]), ([2], [2]), ([2], [2]), ([3, 4, 2], [2, 3, 4]), ([5, 2], [2, 5]), ([6, 2], [2, 6]), ([2], [2]), ([7, 8, 2], [2, 7, 8]), ([9, 2], [2, 9]), ([2], [2]), ([11, 2, 2], [2, 11]), ([10, 12, 2], [2, 10, 12]), ([2, 13], [2, 13]), ([14, 12], [14]), ([15], [15]), ([16, 15], [15, 16]), ([17, 15, 15], [15, 17]), ([18], [18]), ([18], [18]), ([19, 20, 18], [18, 19, 20]), ([21, 18], [18, 21]), ([22, 18], [18, 22]), ([18], [18]), ([23, 24, 18], [18, 23, 24]), ([25, 18], [18, 25]), ([18], [18]), ([18], [18]), ([28, 18], [18, 28]), ([18], [18]), ([29, 30, 18], [18, 29, 30]), ([31, 18], [18, 31]), ([32, 18], [18, 32]), ([27, 33, 18], [18, 27, 33]), ([34, 18], [18, 34]), ([26, 35, 18, 18], [18, 26, 35]), ([36, 18], [18, 36]), ([18, 37, 15], [15, 18, 37]), ([15, 38], [15, 38])])
def syntagmlaw15_LookFollows.B18 : List Nat := [0, 1, 3, 7, 7, 31, 63, 127, 7, 511, 1023, 7, 2055, 8191, 16383, 32767, 65535, 131071, 262143, 524287, 524287, 2097151, 4194303, 8388607, 524287, 33554431, 67108863, 524287, 524287, 268959743, 524287, 1879572479, 4027056127, 8322023423, 17046175743, 34226044927, 68719476735, 137438953471, 274877906943, 549755813887]
theorem syntagmlaw15_LookFollows.tab18 : rtab .any (opsOf Tryd.f11 18) = syntagmlaw15_LookFollows.T18 := by kernel_rfl
theorem syntagmlaw15_LookFollows.bits18 : waitsOk syntagmlaw15_LookFollows.T18.2 syntagmlaw15_LookFollows.B18 = true := by kernel_rfl
set_option maxHeartbeats 8000000 in
set_option maxRecDepth 100000 in
theorem syntagmlaw15_LookFollows.calls (k : Nat) (A0_0 : Option Addr) (c0_0 : Nat) (l0_0 : List (S82)) (A0_1 : Option Addr) (c0_1 : Nat) (l0_1 : List (S101)) (A0_2 : Option Addr) (c0_2 : Nat) (l0_2 : List ByteArray) (A0_3 : Option Addr) (c0_3 : Nat) (l0_3 : List (S64)) (a0_4 : Int) (r : Bool) (w : World) (hG : GTab w) (hT : r = true) (hr0_0 : Kd.C k82 w A0_0 l0_0.length l0_0) (hc0_0 : l0_0.length ≤ c0_0) (hr0_1 : Kd.C k101 w A0_1 l0_1.length l0_1) (hc0_1 : l0_1.length ≤ c0_1) (hr0_2 : Kd.C Kd.string w A0_2 l0_2.length l0_2) (hc0_2 : l0_2.length ≤ c0_2) (hr0_3 : Kd.C k64 w A0_3 l0_3.length l0_3) (hc0_3 : l0_3.length ≤ c0_3) (h : syntagmlaw15_LookFollows.f k l0_0 l0_1 l0_2 l0_3 a0_4 = some r) :
  Calls Tryd.prog 11 #[.agg #[.slice A0_0 l0_0.length c0_0, .slice A0_1 l0_1.length c0_1, .slice A0_2 l0_2.length c0_2, .slice A0_3 l0_3.length c0_3, .int .i64 a0_4]] w fun e w' => e = .returned (.bool r) ∧ Below w.heap.size w w' := by
 have hu27 := Tryd.underlying27
 have HG := Aside0.mk hG
 clear hG
 have HT := Aside0.mk hT
 clear hT
 have HR0_0 := Aside0.mk hr0_0
 have HC0_0 := Aside0.mk hc0_0
 clear hr0_0 hc0_0
 have HR0_1 := Aside0.mk hr0_1
 have HC0_1 := Aside0.mk hc0_1
 clear hr0_1 hc0_1
 have HR0_2 := Aside0.mk hr0_2
 have HC0_2 := Aside0.mk hc0_2
 clear hr0_2 hc0_2
 have HR0_3 := Aside0.mk hr0_3
 have HC0_3 := Aside0.mk hc0_3
 clear hr0_3 hc0_3
 have HB := Aside0.mk (Below.refl w.heap.size w)
 have H : ((syntagmlaw15_works.f k).bind fun t296 => (if t296 = true then ((syntagmlaw14_Little.f k l0_0 l0_1 l0_2 l0_3 a0_4).bind fun t297 => (if t297 = true then ((look_All.f k l0_0 l0_1 l0_2 l0_3 a0_4).bind fun bt298 => (if bt298.2 = 0 then ((sets_Follow.f k l0_0 l0_1 l0_2 l0_3 a0_4).bind fun t302 => (syntagmlaw15_LookFollows.l0 k t296 bt298.1 t302 0 l0_0 l0_1 l0_2 l0_3 a0_4)) else (some t296))) else (some t296))) else (some false))) = some r := h
 clear h
 replace H := Option.bind_eq_some_iff.mp H
 obtain ⟨t296, A20, H⟩ := H
 replace H : (if t296 = true then ((syntagmlaw14_Little.f k l0_0 l0_1 l0_2 l0_3 a0_4).bind fun t297 => (if t297 = true then ((look_All.f k l0_0 l0_1 l0_2 l0_3 a0_4).bind fun bt298 => (if bt298.2 = 0 then ((sets_Follow.f k l0_0 l0_1 l0_2 l0_3 a0_4).bind fun t302 => (syntagmlaw15_LookFollows.l0 k t296 bt298.1 t302 0 l0_0 l0_1 l0_2 l0_3 a0_4)) else (some t296))) else (some t296))) else (some false)) = some r := H
 have A2 := Aside0.mk A20
 clear A20
 by_cases c3 : t296 = true
 ·subst c3
  have H1 : ((syntagmlaw14_Little.f k l0_0 l0_1 l0_2 l0_3 a0_4).bind fun t297 => (if t297 = true then ((look_All.f k l0_0 l0_1 l0_2 l0_3 a0_4).bind fun bt298 => (if bt298.2 = 0 then ((sets_Follow.f k l0_0 l0_1 l0_2 l0_3 a0_4).bind fun t302 => (syntagmlaw15_LookFollows.l0 k true bt298.1 t302 0 l0_0 l0_1 l0_2 l0_3 a0_4)) else (some true))) else (some true))) = some r := by rw [if_pos rfl] at H; exact H
  clear H
  have H := H1
  clear H1
  replace H := Option.bind_eq_some_iff.mp H
  obtain ⟨t297, A40, H⟩ := H
  replace H : (if t297 = true then ((look_All.f k l0_0 l0_1 l0_2 l0_3 a0_4).bind fun bt298 => (if bt298.2 = 0 then ((sets_Follow.f k l0_0 l0_1 l0_2 l0_3 a0_4).bind fun t302 => (syntagmlaw15_LookFollows.l0 k true bt298.1 t302 0 l0_0 l0_1 l0_2 l0_3 a0_4)) else (some true))) else (some true)) = some r := H
  have A4 := Aside0.mk A40
  clear A40
  by_cases c5 : t297 = true
  ·subst c5
   have H1 : ((look_All.f k l0_0 l0_1 l0_2 l0_3 a0_4).bind fun bt298 => (if bt298.2 = 0 then ((sets_Follow.f k l0_0 l0_1 l0_2 l0_3 a0_4).bind fun t302 => (syntagmlaw15_LookFollows.l0 k true bt298.1 t302 0 l0_0 l0_1 l0_2 l0_3 a0_4)) else (some true))) = some r := by rw [if_pos rfl] at H; exact H
   clear H
   have H := H1
   clear H1
   replace H := Option.bind_eq_some_iff.mp H
   obtain ⟨⟨t298, t301⟩, A60, H⟩ := H
   replace H : (if t301 = 0 then ((sets_Follow.f k l0_0 l0_1 l0_2 l0_3 a0_4).bind fun t302 => (syntagmlaw15_LookFollows.l0 k true t298 t302 0 l0_0 l0_1 l0_2 l0_3 a0_4)) else (some true)) = some r := H
   have A6 := Aside0.mk A60
   clear A60
   by_cases c7 : t301 = 0
   ·rw [if_pos c7] at H
    have c7b0 : (t301 == 0) = true := beq_iff_eq.mpr c7
    have c7b1 : (t301 != 0) = false := bne_eq_false_iff_eq.mpr c7
    clear c7
    replace H := Option.bind_eq_some_iff.mp H
    obtain ⟨t302, A80, H⟩ := H
    replace H : (syntagmlaw15_LookFollows.l0 k true t298 t302 0 l0_0 l0_1 l0_2 l0_3 a0_4) = some r := H
    have A8 := Aside0.mk A80
    clear A80
    have H' := Aside0.mk H
    clear H
    go_enter Tryd.func11, Tryd.ntmps11
    go_wp2_with (first | ((with_reducible refine gate_dst (N := 1) rfl ?_); (try (refine gate_guard (by rfl) ?_; dsimp only)); refine box_event ?hg (N := 1) ?hd (cs := #[.slice A0_0 l0_0.length c0_0, .slice A0_1 l0_1.length c0_1, .slice A0_2 l0_2.length c0_2, .slice A0_3 l0_3.length c0_3, .int .i64 a0_4]) (t := 27) ?hr ?_; (case hd => rfl); (case hg => rfl); (case hr => first | (go_simp; done) | (go_simp; rfl)); intro gb295 hg w9 hbox hb; have n0_ := Aside0.mk (below_step (by repeat (first | (with_reducible first | exact HB.out | apply below_alloc | apply pw_below_drewN | apply below_drew1) | exact HB.out)) hb); have n1_ := Aside0.mk (hbox); have n2_ := Aside0.mk ((by rw [hg]; exact (below_size (by repeat (first | (with_reducible first | exact HB.out | apply below_alloc | apply pw_below_drewN | apply below_drew1) | exact HB.out))) : w.heap.size ≤ gb295)); have n3_ := Aside0.mk ((by rw [hg]; exact (below_size (by repeat (first | (with_reducible first | exact HB.out | apply below_alloc | apply pw_below_drewN | apply below_drew1) | exact HB.out))) : w.heap.size ≤ gb295)); clear HB; have HB := n0_; have BK295 := n1_; have GW295 := n2_; have GE295 := n3_; clear n0_ n1_ n2_ n3_; clear hb hbox hg) | ((with_reducible refine gate_callee (f := 27) rfl ?_); refine goesL_ (some 11) rfl rfl Tryd.func27 (by kernel_rfl) rfl #[] rfl (by (try simp only [List.map_toArray, List.map_cons, List.map_nil]); first | done | rfl | (simp only [List.length_drop, List.length_take]; rfl)) ?_; (with_reducible refine (syntagmlaw15_works.calls k  true _ ?side1 ?side2 A2.out).mono ?_); (case side1 => exact GTab.below HG.out (by repeat (first | (with_reducible first | exact HB.out | apply below_alloc | apply pw_below_drewN | apply below_drew1 | refine below_set ?_ GE295.out) | exact HB.out))); (case side2 => rfl); rintro e w10 ⟨rfl, hb⟩; refine ⟨_, rfl, ?_⟩; have n0_ := Aside0.mk (blk_below (g := gb295) (o := .cells #[.slice A0_0 l0_0.length c0_0, .slice A0_1 l0_1.length c0_1, .slice A0_2 l0_2.length c0_2, .slice A0_3 l0_3.length c0_3, .int .i64 a0_4] 27 (0, 0)) (by (with_reducible repeat (first | refine blk_drewN ?_ _ | refine blk_drew ?_ | refine blk_alloc ?_ _)); exact BK295.out) hb); have n1_ := Aside0.mk (below_step (by repeat (first | (with_reducible first | exact HB.out | apply below_alloc | apply pw_below_drewN | apply below_drew1 | refine below_set ?_ GE295.out) | exact HB.out)) hb); clear BK295; clear HB; have BK295 := n0_; have HB := n1_; clear n0_ n1_; (try clear hb); (try clear hb2); (try clear hk); (try clear hi); have hcz11_0 : w10.cell? ⟨gb295, 0, none⟩ = some (.slice A0_0 l0_0.length c0_0) := (blk_cell BK295.out 0).trans rfl; have hcz11_1 : w10.cell? ⟨gb295, 1, none⟩ = some (.slice A0_1 l0_1.length c0_1) := (blk_cell BK295.out 1).trans rfl; have hcz11_2 : w10.cell? ⟨gb295, 2, none⟩ = some (.slice A0_2 l0_2.length c0_2) := (blk_cell BK295.out 2).trans rfl; have hcz11_3 : w10.cell? ⟨gb295, 3, none⟩ = some (.slice A0_3 l0_3.length c0_3) := (blk_cell BK295.out 3).trans rfl; have hcz11_4 : w10.cell? ⟨gb295, 4, none⟩ = some (.int .i64 a0_4) := (blk_cell BK295.out 4).trans rfl; have hfz11_0 := blk_frozen BK295.out 0; have hfz11_1 := blk_frozen BK295.out 1; have hfz11_2 := blk_frozen BK295.out 2; have hfz11_3 := blk_frozen BK295.out 3; have hfz11_4 := blk_frozen BK295.out 4) | ((with_reducible refine gate_callee (f := 22) rfl ?_); refine goesL_ (some 15) rfl rfl Tryd.func22 (by kernel_rfl) rfl #[.agg #[.slice A0_0 l0_0.length c0_0, .slice A0_1 l0_1.length c0_1, .slice A0_2 l0_2.length c0_2, .slice A0_3 l0_3.length c0_3, .int .i64 a0_4]] rfl (by (try simp only [List.map_toArray, List.map_cons, List.map_nil]); first | done | rfl | (simp only [List.length_drop, List.length_take]; rfl)) ?_; (with_reducible refine (syntagmlaw14_Little.calls k _ _ l0_0 _ _ l0_1 _ _ l0_2 _ _ l0_3 a0_4 true _ ?side1 ?side2 ?side3 ?side4 ?side5 ?side6 ?side7 ?side8 A4.out).mono ?_); (case side1 => repeat (first | exact (Kd.C_below HR0_0.out HB.out) | (with_reducible refine Kd.C_alloc ?_ _) | (with_reducible refine Kd.C_drewN ?_ _) | (with_reducible refine Kd.C_drew ?_))); (case side2 => exact HC0_0.out); (case side3 => repeat (first | exact (Kd.C_below HR0_1.out HB.out) | (with_reducible refine Kd.C_alloc ?_ _) | (with_reducible refine Kd.C_drewN ?_ _) | (with_reducible refine Kd.C_drew ?_))); (case side4 => exact HC0_1.out); (case side5 => repeat (first | exact (Kd.C_below HR0_2.out HB.out) | (with_reducible refine Kd.C_alloc ?_ _) | (with_reducible refine Kd.C_drewN ?_ _) | (with_reducible refine Kd.C_drew ?_))); (case side6 => exact HC0_2.out); (case side7 => repeat (first | exact (Kd.C_below HR0_3.out HB.out) | (with_reducible refine Kd.C_alloc ?_ _) | (with_reducible refine Kd.C_drewN ?_ _) | (with_reducible refine Kd.C_drew ?_))); (case side8 => exact HC0_3.out); rintro e w12 ⟨rfl, hb⟩; refine ⟨_, rfl, ?_⟩; have n0_ := Aside0.mk (blk_below (g := gb295) (o := .cells #[.slice A0_0 l0_0.length c0_0, .slice A0_1 l0_1.length c0_1, .slice A0_2 l0_2.length c0_2, .slice A0_3 l0_3.length c0_3, .int .i64 a0_4] 27 (0, 0)) (by (with_reducible repeat (first | refine blk_drewN ?_ _ | refine blk_drew ?_ | refine blk_alloc ?_ _)); exact BK295.out) hb); have n1_ := Aside0.mk (below_step (by repeat (first | (with_reducible first | exact HB.out | apply below_alloc | apply pw_below_drewN | apply below_drew1 | refine below_set ?_ GE295.out) | exact HB.out)) hb); clear BK295; clear HB; have BK295 := n0_; have HB := n1_; clear n0_ n1_; (try clear hb); (try clear hb2); (try clear hk); (try clear hi); have hcz13_0 : w12.cell? ⟨gb295, 0, none⟩ = some (.slice A0_0 l0_0.length c0_0) := (blk_cell BK295.out 0).trans rfl; have hcz13_1 : w12.cell? ⟨gb295, 1, none⟩ = some (.slice A0_1 l0_1.length c0_1) := (blk_cell BK295.out 1).trans rfl; have hcz13_2 : w12.cell? ⟨gb295, 2, none⟩ = some (.slice A0_2 l0_2.length c0_2) := (blk_cell BK295.out 2).trans rfl; have hcz13_3 : w12.cell? ⟨gb295, 3, none⟩ = some (.slice A0_3 l0_3.length c0_3) := (blk_cell BK295.out 3).trans rfl; have hcz13_4 : w12.cell? ⟨gb295, 4, none⟩ = some (.int .i64 a0_4) := (blk_cell BK295.out 4).trans rfl; have hfz13_0 := blk_frozen BK295.out 0; have hfz13_1 := blk_frozen BK295.out 1; have hfz13_2 := blk_frozen BK295.out 2; have hfz13_3 := blk_frozen BK295.out 3; have hfz13_4 := blk_frozen BK295.out 4) | ((with_reducible refine gate_callee (f := 28) rfl ?_); refine goesL_ (some 21) rfl rfl Tryd.func28 (by kernel_rfl) rfl #[.agg #[.slice A0_0 l0_0.length c0_0, .slice A0_1 l0_1.length c0_1, .slice A0_2 l0_2.length c0_2, .slice A0_3 l0_3.length c0_3, .int .i64 a0_4]] rfl (by (try simp only [List.map_toArray, List.map_cons, List.map_nil]); first | done | rfl | (simp only [List.length_drop, List.length_take]; rfl)) ?_; (with_reducible refine (look_All.calls k _ _ l0_0 _ _ l0_1 _ _ l0_2 _ _ l0_3 a0_4 t298 t301 _ ?side1 ?side2 ?side3 ?side4 ?side5 ?side6 ?side7 ?side8 ?side9 A6.out).mono ?_); (case side1 => exact GTab.below HG.out (by repeat (first | (with_reducible first | exact HB.out | apply below_alloc | apply pw_below_drewN | apply below_drew1 | refine below_set ?_ GE295.out) | exact HB.out))); (case side2 => repeat (first | exact (Kd.C_below HR0_0.out HB.out) | (with_reducible refine Kd.C_alloc ?_ _) | (with_reducible refine Kd.C_drewN ?_ _) | (with_reducible refine Kd.C_drew ?_))); (case side3 => exact HC0_0.out); (case side4 => repeat (first | exact (Kd.C_below HR0_1.out HB.out) | (with_reducible refine Kd.C_alloc ?_ _) | (with_reducible refine Kd.C_drewN ?_ _) | (with_reducible refine Kd.C_drew ?_))); (case side5 => exact HC0_1.out); (case side6 => repeat (first | exact (Kd.C_below HR0_2.out HB.out) | (with_reducible refine Kd.C_alloc ?_ _) | (with_reducible refine Kd.C_drewN ?_ _) | (with_reducible refine Kd.C_drew ?_))); (case side7 => exact HC0_2.out); (case side8 => repeat (first | exact (Kd.C_below HR0_3.out HB.out) | (with_reducible refine Kd.C_alloc ?_ _) | (with_reducible refine Kd.C_drewN ?_ _) | (with_reducible refine Kd.C_drew ?_))); (case side9 => exact HC0_3.out); rintro e w14 ⟨v299, rfl, ho0, hb⟩; refine ⟨_, rfl, ?_⟩; have n0_ := Aside0.mk (Kd.S_lower ho0 (below_size (by repeat (first | (with_reducible first | exact HB.out | apply below_alloc | apply pw_below_drewN | apply below_drew1 | refine below_set ?_ GE295.out) | exact HB.out)))); have n1_ := Aside0.mk (blk_below (g := gb295) (o := .cells #[.slice A0_0 l0_0.length c0_0, .slice A0_1 l0_1.length c0_1, .slice A0_2 l0_2.length c0_2, .slice A0_3 l0_3.length c0_3, .int .i64 a0_4] 27 (0, 0)) (by (with_reducible repeat (first | refine blk_drewN ?_ _ | refine blk_drew ?_ | refine blk_alloc ?_ _)); exact BK295.out) hb); have n2_ := Aside0.mk (below_step (by repeat (first | (with_reducible first | exact HB.out | apply below_alloc | apply pw_below_drewN | apply below_drew1 | refine below_set ?_ GE295.out) | exact HB.out)) hb); clear BK295; clear HB; have HO300 := n0_; have BK295 := n1_; have HB := n2_; clear n0_ n1_ n2_; (try clear hb); (try clear hb2); (try clear hk); (try clear hi); (try clear ho0); have hcz15_0 : w14.cell? ⟨gb295, 0, none⟩ = some (.slice A0_0 l0_0.length c0_0) := (blk_cell BK295.out 0).trans rfl; have hcz15_1 : w14.cell? ⟨gb295, 1, none⟩ = some (.slice A0_1 l0_1.length c0_1) := (blk_cell BK295.out 1).trans rfl; have hcz15_2 : w14.cell? ⟨gb295, 2, none⟩ = some (.slice A0_2 l0_2.length c0_2) := (blk_cell BK295.out 2).trans rfl; have hcz15_3 : w14.cell? ⟨gb295, 3, none⟩ = some (.slice A0_3 l0_3.length c0_3) := (blk_cell BK295.out 3).trans rfl; have hcz15_4 : w14.cell? ⟨gb295, 4, none⟩ = some (.int .i64 a0_4) := (blk_cell BK295.out 4).trans rfl; have hfz15_0 := blk_frozen BK295.out 0; have hfz15_1 := blk_frozen BK295.out 1; have hfz15_2 := blk_frozen BK295.out 2; have hfz15_3 := blk_frozen BK295.out 3; have hfz15_4 := blk_frozen BK295.out 4) | ((with_reducible refine gate_callee (f := 32) rfl ?_); refine goesL_ (some 28) rfl rfl Tryd.func32 (by kernel_rfl) rfl #[.agg #[.slice A0_0 l0_0.length c0_0, .slice A0_1 l0_1.length c0_1, .slice A0_2 l0_2.length c0_2, .slice A0_3 l0_3.length c0_3, .int .i64 a0_4]] rfl (by (try simp only [List.map_toArray, List.map_cons, List.map_nil]); first | done | rfl | (simp only [List.length_drop, List.length_take]; rfl)) ?_; (with_reducible refine (sets_Follow.calls k _ _ l0_0 _ _ l0_1 _ _ l0_2 _ _ l0_3 a0_4 t302 _ ?side1 ?side2 ?side3 ?side4 ?side5 ?side6 ?side7 ?side8 A8.out).mono ?_); (case side1 => repeat (first | exact (Kd.C_below HR0_0.out HB.out) | (with_reducible refine Kd.C_alloc ?_ _) | (with_reducible refine Kd.C_drewN ?_ _) | (with_reducible refine Kd.C_drew ?_))); (case side2 => exact HC0_0.out); (case side3 => repeat (first | exact (Kd.C_below HR0_1.out HB.out) | (with_reducible refine Kd.C_alloc ?_ _) | (with_reducible refine Kd.C_drewN ?_ _) | (with_reducible refine Kd.C_drew ?_))); (case side4 => exact HC0_1.out); (case side5 => repeat (first | exact (Kd.C_below HR0_2.out HB.out) | (with_reducible refine Kd.C_alloc ?_ _) | (with_reducible refine Kd.C_drewN ?_ _) | (with_reducible refine Kd.C_drew ?_))); (case side6 => exact HC0_2.out); (case side7 => repeat (first | exact (Kd.C_below HR0_3.out HB.out) | (with_reducible refine Kd.C_alloc ?_ _) | (with_reducible refine Kd.C_drewN ?_ _) | (with_reducible refine Kd.C_drew ?_))); (case side8 => exact HC0_3.out); rintro e w16 ⟨v303, rfl, ho0, hb⟩; refine ⟨_, rfl, ?_⟩; have n0_ := Aside0.mk (Kd.S_elder' (by (with_reducible repeat (first | apply Kd.S_alloc | apply Kd.S_drewN | apply Kd.S_drew)); exact HO300.out) (Kd.R_base ho0) hb); have n1_ := Aside0.mk (Kd.R_lower ho0 (below_size (by repeat (first | (with_reducible first | exact HB.out | apply below_alloc | apply pw_below_drewN | apply below_drew1 | refine below_set ?_ GE295.out) | exact HB.out)))); have n2_ := Aside0.mk (blk_below (g := gb295) (o := .cells #[.slice A0_0 l0_0.length c0_0, .slice A0_1 l0_1.length c0_1, .slice A0_2 l0_2.length c0_2, .slice A0_3 l0_3.length c0_3, .int .i64 a0_4] 27 (0, 0)) (by (with_reducible repeat (first | refine blk_drewN ?_ _ | refine blk_drew ?_ | refine blk_alloc ?_ _)); exact BK295.out) hb); have n3_ := Aside0.mk (below_step (by repeat (first | (with_reducible first | exact HB.out | apply below_alloc | apply pw_below_drewN | apply below_drew1 | refine below_set ?_ GE295.out) | exact HB.out)) hb); clear HO300; clear BK295; clear HB; have HO300 := n0_; have HO304 := n1_; have BK295 := n2_; have HB := n3_; clear n0_ n1_ n2_ n3_; (try clear hb); (try clear hb2); (try clear hk); (try clear hi); (try clear ho0)))
    go_loopg [8] k (fun kq v8 w' => ∃ (x8_1 : Int), v8 = .int .i64 x8_1 ∧ Aside0 (syntagmlaw15_LookFollows.l0 kq true t298 t302 x8_1 l0_0 l0_1 l0_2 l0_3 a0_4 = some r) ∧ Aside0 (kq ≤ k) ∧ Aside0 (Kd.S k74 74 w' w.heap.size (fun k_ => some k_ ≠ (v303 : Value).ownBlock) v299 t298) ∧ Aside0 (Kd.R (Kd.int .u64) 76 w' w.heap.size (fun _ => True) v303 t302) ∧ Aside0 (w'.heap[gb295]? = some (.cells #[(.slice A0_0 l0_0.length c0_0), (.slice A0_1 l0_1.length c0_1), (.slice A0_2 l0_2.length c0_2), (.slice A0_3 l0_3.length c0_3), .int .i64 a0_4] 27 (0, 0))) ∧ Aside0 (Below w.heap.size w w'))
    case atStart => exact ⟨(0), (by first | rfl | (simp; done) | (simp [*]; done)), H', ⟨Nat.le_refl _⟩, ⟨by (with_reducible repeat (first | apply Kd.S_alloc | apply Kd.S_drewN | apply Kd.S_drew)); exact Kd.S_mono HO300.out (fun _ hk => hk.2)⟩, ⟨by (with_reducible repeat (first | apply Kd.R_alloc | apply Kd.R_drewN | apply Kd.R_drew)); exact HO304.out⟩, ⟨by (with_reducible repeat (first | refine blk_drewN ?_ _ | refine blk_drew ?_ | refine blk_alloc ?_ _)); exact BK295.out⟩, ⟨by repeat (first | (with_reducible first | exact HB.out | apply below_alloc | apply pw_below_drewN | apply below_drew1 | refine below_set ?_ GE295.out) | exact HB.out)⟩⟩
    case round =>
     clear H'
     try clear c1
     try clear c2
     try clear p2
     try clear c3
     try clear c5
     try clear c7
     try clear c7b0
     try clear c7b1
     try clear c11
     try clear hcz11_0
     try clear hcz11_1
     try clear hcz11_2
     try clear hcz11_3
     try clear hcz11_4
     try clear hcz13_0
     try clear hcz13_1
     try clear hcz13_2
     try clear hcz13_3
     try clear hcz13_4
     try clear hcz15_0
     try clear hcz15_1
     try clear hcz15_2
     try clear hcz15_3
     try clear hcz15_4
     try clear hfz11_0
     try clear hfz11_1
     try clear hfz11_2
     try clear hfz11_3
     try clear hfz11_4
     try clear hfz13_0
     try clear hfz13_1
     try clear hfz13_2
     try clear hfz13_3
     try clear hfz13_4
     try clear hfz15_0
     try clear hfz15_1
     try clear hfz15_2
     try clear hfz15_3
     try clear hfz15_4
     obtain ⟨x8_1, rfl, HA, HK1, HO_5, HO_7, BK295, HB⟩ := hrel
     cases gk with
     | zero => exact absurd HA.out (by simp [syntagmlaw15_LookFollows.l0])
     | succ k1 =>
      have H := HA.out
      clear HA
      simp only [syntagmlaw15_LookFollows.l0] at H
      by_cases c17 : x8_1 < (t298.length : Int)
      ·rw [if_pos c17] at H
       have c17b0 : decide (x8_1 < (t298.length : Int)) = true := decide_eq_true c17
       clear c17
       have H' := Aside0.mk H
       clear H
       obtain ⟨Ao18, co18, eo18⟩ := Kd.S_slice HO_5.out
       subst eo18
       go_wp2
       go_loopg [9] k1 (fun kq v9 w' => ∃ (x9_2 : Int), v9 = .int .i64 x9_2 ∧ Aside0 (syntagmlaw15_LookFollows.l1 kq true t298 t302 x8_1 x9_2 l0_0 l0_1 l0_2 l0_3 a0_4 = some r) ∧ Aside0 (kq ≤ k1) ∧ Aside0 (Kd.S k74 74 w' w.heap.size (fun k_ => some k_ ≠ (v303 : Value).ownBlock) (.slice Ao18 t298.length co18) t298) ∧ Aside0 (Kd.R (Kd.int .u64) 76 w' w.heap.size (fun _ => True) v303 t302) ∧ Aside0 (w'.heap[gb295]? = some (.cells #[(.slice A0_0 l0_0.length c0_0), (.slice A0_1 l0_1.length c0_1), (.slice A0_2 l0_2.length c0_2), (.slice A0_3 l0_3.length c0_3), .int .i64 a0_4] 27 (0, 0))) ∧ Aside0 (Below w.heap.size w w'))
       case atStart => exact ⟨(0), (by first | rfl | (simp; done) | (simp [*]; done)), H', ⟨Nat.le_refl _⟩, ⟨by (with_reducible repeat (first | apply Kd.S_alloc | apply Kd.S_drewN | apply Kd.S_drew)); exact HO_5.out⟩, ⟨by (with_reducible repeat (first | apply Kd.R_alloc | apply Kd.R_drewN | apply Kd.R_drew)); exact HO_7.out⟩, ⟨by (with_reducible repeat (first | refine blk_drewN ?_ _ | refine blk_drew ?_ | refine blk_alloc ?_ _)); exact BK295.out⟩, ⟨by repeat (first | (with_reducible first | exact HB.out | apply below_alloc | apply pw_below_drewN | apply below_drew1 | refine below_set ?_ GE295.out) | exact HB.out)⟩⟩
       case round =>
        clear H'
        try clear c1
        try clear c2
        try clear p2
        try clear c3
        try clear c5
        try clear c7
        try clear c7b0
        try clear c7b1
        try clear c11
        try clear c17
        try clear c17b0
        try clear hcz11_0
        try clear hcz11_1
        try clear hcz11_2
        try clear hcz11_3
        try clear hcz11_4
        try clear hcz13_0
        try clear hcz13_1
        try clear hcz13_2
        try clear hcz13_3
        try clear hcz13_4
        try clear hcz15_0
        try clear hcz15_1
        try clear hcz15_2
        try clear hcz15_3
        try clear hcz15_4
        try clear hfz11_0
        try clear hfz11_1
        try clear hfz11_2
        try clear hfz11_3
        try clear hfz11_4
        try clear hfz13_0
        try clear hfz13_1
        try clear hfz13_2
        try clear hfz13_3
        try clear hfz13_4
        try clear hfz15_0
        try clear hfz15_1
        try clear hfz15_2
        try clear hfz15_3
        try clear hfz15_4
        try clear p2
        obtain ⟨x9_2, rfl, HA, HK2, HO_5, HO_7, BK295, HB⟩ := hrel
        cases gk with
        | zero => exact absurd HA.out (by simp [syntagmlaw15_LookFollows.l1])
        | succ k2 =>
         have H := HA.out
         clear HA
         simp only [syntagmlaw15_LookFollows.l1] at H
         by_cases c19 : 0 ≤ x8_1
         ·rw [if_pos c19] at H
          have c19b0 : decide (0 ≤ x8_1) = true := decide_eq_true c19
          clear c19
          by_cases c20 : x8_1 < (t298.length : Int)
          ·rw [if_pos c20] at H
           have c20b0 : decide (x8_1 < (t298.length : Int)) = true := decide_eq_true c20
           clear c20
           by_cases c21 : x9_2 < (((rd_T74 t298 x8_1).f0).length : Int)
           ·rw [if_pos c21] at H
            have c21b0 : decide (x9_2 < (((rd_T74 t298 x8_1).f0).length : Int)) = true := decide_eq_true c21
            clear c21
            by_cases c22 : 0 ≤ x9_2
            ·rw [if_pos c22] at H
             have c22b0 : decide (0 ≤ x9_2) = true := decide_eq_true c22
             clear c22
             by_cases c23 : ((rd_T37 ((rd_T74 t298 x8_1).f0) x9_2).f0) < 0
             ·rw [if_pos c23] at H
              have c23b0 : decide (((rd_T37 ((rd_T74 t298 x8_1).f0) x9_2).f0) < 0) = true := decide_eq_true c23
              clear c23
              by_cases c24 : x9_2 < (((rd_T74 t298 x8_1).f1).length : Int)
              ·rw [if_pos c24] at H
               have c24b0 : decide (x9_2 < (((rd_T74 t298 x8_1).f1).length : Int)) = true := decide_eq_true c24
               clear c24
               obtain ⟨y310, hy310⟩ : ∃ y_ : List Int, y_ = (([63] : List Int)) := ⟨_, rfl⟩
               replace H : ((bits_Of.f k2 y310).bind fun t313 => (if (rd ((rd_T74 t298 x8_1).f1) x9_2) = t313 then (if ((rd_T37 ((rd_T74 t298 x8_1).f0) x9_2).f0) ≥ 0 then (if 0 ≤ ((rd_T37 ((rd_T74 t298 x8_1).f0) x9_2).f0) then (if ((rd_T37 ((rd_T74 t298 x8_1).f0) x9_2).f0) < (l0_3.length : Int) then (if 0 ≤ ((rd_T64 l0_3 ((rd_T37 ((rd_T74 t298 x8_1).f0) x9_2).f0)).f1) then (if ((rd_T64 l0_3 ((rd_T37 ((rd_T74 t298 x8_1).f0) x9_2).f0)).f1) < (t302.length : Int) then ((bits_In.f (rd ((rd_T74 t298 x8_1).f1) x9_2) (rd t302 ((rd_T64 l0_3 ((rd_T37 ((rd_T74 t298 x8_1).f0) x9_2).f0)).f1))).bind fun t318 => (if t318 = true then (syntagmlaw15_LookFollows.l1 k2 true t298 t302 x8_1 (wrap64 (x9_2 + 1)) l0_0 l0_1 l0_2 l0_3 a0_4) else (some false))) else (none)) else (none)) else (none)) else (none)) else (syntagmlaw15_LookFollows.l1 k2 true t298 t302 x8_1 (wrap64 (x9_2 + 1)) l0_0 l0_1 l0_2 l0_3 a0_4)) else (some false))) = some r := by first | (rw [hy310]; with_reducible exact H) | (have H2_ := (Option.bind_some _ _).symm.trans H; rw [hy310]; with_reducible exact H2_) | (have H2_ := (Option.bind_some _ _).symm.trans H; with_reducible exact H2_) | with_reducible exact H | (rw [hy310]; exact H) | exact H
               have Ny310 := Aside0.mk hy310
               clear hy310
               replace H := Option.bind_eq_some_iff.mp H
               obtain ⟨t313, A250, H⟩ := H
               replace H : (if (rd ((rd_T74 t298 x8_1).f1) x9_2) = t313 then (if ((rd_T37 ((rd_T74 t298 x8_1).f0) x9_2).f0) ≥ 0 then (if 0 ≤ ((rd_T37 ((rd_T74 t298 x8_1).f0) x9_2).f0) then (if ((rd_T37 ((rd_T74 t298 x8_1).f0) x9_2).f0) < (l0_3.length : Int) then (if 0 ≤ ((rd_T64 l0_3 ((rd_T37 ((rd_T74 t298 x8_1).f0) x9_2).f0)).f1) then (if ((rd_T64 l0_3 ((rd_T37 ((rd_T74 t298 x8_1).f0) x9_2).f0)).f1) < (t302.length : Int) then ((bits_In.f (rd ((rd_T74 t298 x8_1).f1) x9_2) (rd t302 ((rd_T64 l0_3 ((rd_T37 ((rd_T74 t298 x8_1).f0) x9_2).f0)).f1))).bind fun t318 => (if t318 = true then (syntagmlaw15_LookFollows.l1 k2 true t298 t302 x8_1 (wrap64 (x9_2 + 1)) l0_0 l0_1 l0_2 l0_3 a0_4) else (some false))) else (none)) else (none)) else (none)) else (none)) else (syntagmlaw15_LookFollows.l1 k2 true t298 t302 x8_1 (wrap64 (x9_2 + 1)) l0_0 l0_1 l0_2 l0_3 a0_4)) else (some false)) = some r := H
               have A25 := Aside0.mk A250
               clear A250
               by_cases c26 : (rd ((rd_T74 t298 x8_1).f1) x9_2) = t313
               ·rw [if_pos c26] at H
                have c26b0 : ((rd ((rd_T74 t298 x8_1).f1) x9_2) == t313) = true := beq_iff_eq.mpr c26
                have c26b1 : ((rd ((rd_T74 t298 x8_1).f1) x9_2) != t313) = false := bne_eq_false_iff_eq.mpr c26
                clear c26
                by_cases c27 : ((rd_T37 ((rd_T74 t298 x8_1).f0) x9_2).f0) ≥ 0
                ·exact absurd (of_decide_eq_true c23b0) (Int.not_lt.2 c27)
                ·rw [if_neg c27] at H
                 have c27b0 : decide (0 ≤ ((rd_T37 ((rd_T74 t298 x8_1).f0) x9_2).f0)) = false := decide_eq_false c27
                 clear c27
                 have H' := Aside0.mk H
                 clear H
                 have p305 : 0 ≤ (x8_1 : Int) := of_decide_eq_true (by first | (with_reducible assumption) | assumption)
                 have q305 : x8_1 < (t298.length : Int) := of_decide_eq_true (by first | (with_reducible assumption) | assumption)
                 obtain ⟨ad305, A305_0, c305_0, A305_1, c305_1, e305, hx305_0, hx305_1, hl305_0, hi305_0, hl305_1, hi305_1⟩ := at_T74 (Kd.S_reads' HO_5.out).2.2 x8_1 p305 q305
                 cases e305
                 obtain ⟨ce305, hce305, hMe305, hcc305⟩ := Kd.S_get HO_5.out z74 x8_1 p305 (by first | exact q305 | exact of_decide_eq_true (by first | (with_reducible assumption) | assumption) | (have e_ := (Kd.S_reads' HO_5.out).1; omega))
                 obtain ⟨ve305_0, ve305_1, rfl, ge305_0, ge305_1⟩ := k74_openM hMe305
                 have hv305_0 := hcc305 0 _ rfl
                 rw [Nat.add_zero] at hv305_0
                 replace hv305_0 := Option.some.inj (hv305_0.symm.trans hx305_0)
                 rw [hv305_0] at ge305_0
                 have HL305_0 := Aside0.mk (show Kd.R k37 37 _ _ _ _ ((rd_T74 t298 x8_1).f0) from ge305_0)
                 clear hv305_0 ge305_0
                 have hv305_1 := hcc305 1 _ rfl
                 rw [add_field _ _ 1 (by omega)] at hv305_1
                 replace hv305_1 := Option.some.inj (hv305_1.symm.trans hx305_1)
                 rw [hv305_1] at ge305_1
                 have HL305_1 := Aside0.mk (show Kd.R (Kd.int .u64) 76 _ _ _ _ ((rd_T74 t298 x8_1).f1) from ge305_1)
                 clear hv305_1 ge305_1
                 clear hcc305 hce305
                 have HR305_0 := Aside0.mk hi305_0
                 have HC305_0 := Aside0.mk hl305_0
                 clear hi305_0 hl305_0
                 have HR305_1 := Aside0.mk hi305_1
                 have HC305_1 := Aside0.mk hl305_1
                 clear hi305_1 hl305_1
                 replace p305 := eq_true p305
                 replace q305 := eq_true q305
                 have p306 : 0 ≤ (x8_1 : Int) := of_decide_eq_true (by first | (with_reducible assumption) | assumption)
                 have q306 : x8_1 < (t298.length : Int) := of_decide_eq_true (by first | (with_reducible assumption) | assumption)
                 obtain ⟨ad306, A306_0, c306_0, A306_1, c306_1, e306, hx306_0, hx306_1, hl306_0, hi306_0, hl306_1, hi306_1⟩ := at_T74 (Kd.S_reads' HO_5.out).2.2 x8_1 p306 q306
                 obtain rfl : ad305 = ad306 := (by injection e306)
                 obtain ⟨ce306, hce306, hMe306, hcc306⟩ := Kd.S_get HO_5.out z74 x8_1 p306 (by first | exact q306 | exact of_decide_eq_true (by first | (with_reducible assumption) | assumption) | (have e_ := (Kd.S_reads' HO_5.out).1; omega))
                 obtain ⟨ve306_0, ve306_1, rfl, ge306_0, ge306_1⟩ := k74_openM hMe306
                 have hv306_0 := hcc306 0 _ rfl
                 rw [Nat.add_zero] at hv306_0
                 replace hv306_0 := Option.some.inj (hv306_0.symm.trans hx306_0)
                 rw [hv306_0] at ge306_0
                 have HL306_0 := Aside0.mk (show Kd.R k37 37 _ _ _ _ ((rd_T74 t298 x8_1).f0) from ge306_0)
                 clear hv306_0 ge306_0
                 have hv306_1 := hcc306 1 _ rfl
                 rw [add_field _ _ 1 (by omega)] at hv306_1
                 replace hv306_1 := Option.some.inj (hv306_1.symm.trans hx306_1)
                 rw [hv306_1] at ge306_1
                 have HL306_1 := Aside0.mk (show Kd.R (Kd.int .u64) 76 _ _ _ _ ((rd_T74 t298 x8_1).f1) from ge306_1)
                 clear hv306_1 ge306_1
                 clear hcc306 hce306
                 have HR306_0 := Aside0.mk hi306_0
                 have HC306_0 := Aside0.mk hl306_0
                 clear hi306_0 hl306_0
                 have HR306_1 := Aside0.mk hi306_1
                 have HC306_1 := Aside0.mk hl306_1
                 clear hi306_1 hl306_1
                 replace p306 := eq_true p306
                 replace q306 := eq_true q306
                 have ea_ := Option.some.inj (hx305_0.symm.trans hx306_0)
                 injection ea_ with ea_ en_ ec_
                 subst ea_
                 subst ec_
                 clear en_
                 have ea_ := Option.some.inj (hx305_1.symm.trans hx306_1)
                 injection ea_ with ea_ en_ ec_
                 subst ea_
                 subst ec_
                 clear en_
                 have p307 : 0 ≤ (x9_2 : Int) := of_decide_eq_true (by first | (with_reducible assumption) | assumption)
                 have q307 : x9_2 < (((rd_T74 t298 x8_1).f0).length : Int) := of_decide_eq_true (by first | (with_reducible assumption) | assumption)
                 obtain ⟨ad307, e307, hx307_0, hx307_1⟩ := at_T37 (by repeat (first | (with_reducible exact HR306_0.out) | (with_reducible refine Kd.C_alloc ?_ _) | (with_reducible refine Kd.C_drewN ?_ _) | (with_reducible refine Kd.C_drew ?_) | exact HR306_0.out)) x9_2 p307 q307
                 cases e307
                 replace p307 := eq_true p307
                 replace q307 := eq_true q307
                 try go_wp2
                 have n0_ := Aside0.mk (Kd.S_drew HO_5.out)
                 have n1_ := Aside0.mk (Kd.R_drew HO_7.out)
                 have n2_ := Aside0.mk (Kd.R_drew HL305_0.out)
                 have n3_ := Aside0.mk (Kd.R_drew HL305_1.out)
                 have n4_ := Aside0.mk (Kd.R_drew HL306_0.out)
                 have n5_ := Aside0.mk (Kd.R_drew HL306_1.out)
                 have n6_ := Aside0.mk (blk_drew BK295.out)
                 have n7_ := Aside0.mk (Kd.C_drew HR305_0.out)
                 have n8_ := Aside0.mk (Kd.C_drew HR305_1.out)
                 have n9_ := Aside0.mk (Kd.C_drew HR306_0.out)
                 have n10_ := Aside0.mk (Kd.C_drew HR306_1.out)
                 have n11_ := Aside0.mk (below_drew1 HB.out)
                 clear HO_5
                 clear HO_7
                 clear HL305_0
                 clear HL305_1
                 clear HL306_0
                 clear HL306_1
                 clear BK295
                 clear HR305_0
                 clear HR305_1
                 clear HR306_0
                 clear HR306_1
                 clear HB
                 have HO_5 := n0_
                 have HO_7 := n1_
                 have HL305_0 := n2_
                 have HL305_1 := n3_
                 have HL306_0 := n4_
                 have HL306_1 := n5_
                 have BK295 := n6_
                 have HR305_0 := n7_
                 have HR305_1 := n8_
                 have HR306_0 := n9_
                 have HR306_1 := n10_
                 have HB := n11_
                 clear n0_ n1_ n2_ n3_ n4_ n5_ n6_ n7_ n8_ n9_ n10_ n11_
                 have p308 : 0 ≤ (x8_1 : Int) := of_decide_eq_true (by first | (with_reducible assumption) | assumption)
                 have q308 : x8_1 < (t298.length : Int) := of_decide_eq_true (by first | (with_reducible assumption) | assumption)
                 obtain ⟨ad308, A308_0, c308_0, A308_1, c308_1, e308, hx308_0, hx308_1, hl308_0, hi308_0, hl308_1, hi308_1⟩ := at_T74 (Kd.S_reads' HO_5.out).2.2 x8_1 p308 q308
                 obtain rfl : ad305 = ad308 := (by injection e308)
                 obtain ⟨ce308, hce308, hMe308, hcc308⟩ := Kd.S_get HO_5.out z74 x8_1 p308 (by first | exact q308 | exact of_decide_eq_true (by first | (with_reducible assumption) | assumption) | (have e_ := (Kd.S_reads' HO_5.out).1; omega))
                 obtain ⟨ve308_0, ve308_1, rfl, ge308_0, ge308_1⟩ := k74_openM hMe308
                 have hv308_0 := hcc308 0 _ rfl
                 rw [Nat.add_zero] at hv308_0
                 replace hv308_0 := Option.some.inj (hv308_0.symm.trans hx308_0)
                 rw [hv308_0] at ge308_0
                 have HL308_0 := Aside0.mk (show Kd.R k37 37 _ _ _ _ ((rd_T74 t298 x8_1).f0) from ge308_0)
                 clear hv308_0 ge308_0
                 have hv308_1 := hcc308 1 _ rfl
                 rw [add_field _ _ 1 (by omega)] at hv308_1
                 replace hv308_1 := Option.some.inj (hv308_1.symm.trans hx308_1)
                 rw [hv308_1] at ge308_1
                 have HL308_1 := Aside0.mk (show Kd.R (Kd.int .u64) 76 _ _ _ _ ((rd_T74 t298 x8_1).f1) from ge308_1)
                 clear hv308_1 ge308_1
                 clear hcc308 hce308
                 have HR308_0 := Aside0.mk hi308_0
                 have HC308_0 := Aside0.mk hl308_0
                 clear hi308_0 hl308_0
                 have HR308_1 := Aside0.mk hi308_1
                 have HC308_1 := Aside0.mk hl308_1
                 clear hi308_1 hl308_1
                 replace p308 := eq_true p308
                 replace q308 := eq_true q308
                 have p309 : 0 ≤ (x9_2 : Int) := of_decide_eq_true (by first | (with_reducible assumption) | assumption)
                 have q309 : x9_2 < (((rd_T74 t298 x8_1).f1).length : Int) := of_decide_eq_true (by first | (with_reducible assumption) | assumption)
                 obtain ⟨ad309, e309, hx309_0⟩ := Kd.at_int (by repeat (first | (with_reducible exact HR308_1.out) | (with_reducible refine Kd.C_alloc ?_ _) | (with_reducible refine Kd.C_drewN ?_ _) | (with_reducible refine Kd.C_drew ?_) | exact HR308_1.out)) x9_2 p309 q309
                 cases e309
                 replace p309 := eq_true p309
                 replace q309 := eq_true q309
                 refine start_ (n := 40) (S := fun w' => w'.cell? (ad305.add ((x8_1).toNat * 2)) = some (.slice A308_0 ((rd_T74 t298 x8_1).f0).length c308_0) ∧ w'.cell? ⟨(ad305.add ((x8_1).toNat * 2)).block, (ad305.add ((x8_1).toNat * 2)).off + 1, none⟩ = some (.slice (some ad309) ((rd_T74 t298 x8_1).f1).length c308_1) ∧ w'.cell? (ad309.add (x9_2).toNat) = some (.int .u64 (rd ((rd_T74 t298 x8_1).f1) x9_2))) (ds := []) #[false, false, false, false, false, false, false, false, false, false, false, false, false, false, false, false, false, false, false, false, false, false, false, false, false, false, false, false, false, false, false, false, false, false, false, false, false, false, false, false] (by kernel_rfl) rfl rfl ⟨hx308_0, hx308_1, hx309_0⟩ (fun hHeld => ?_); refine with_tabW syntagmlaw15_LookFollows.tab18 syntagmlaw15_LookFollows.bits18 (fun HT_ HW_ => ?_)
                 generalize wr.drew = w39 at HO_5 HO_7 HL305_0 HL305_1 HL306_0 HL306_1 BK295 HR305_0 HR305_1 HR306_0 HR306_1 HB HL308_0 HL308_1 HR308_0 HR308_1 hx308_0 hx308_1 hx309_0 hHeld ⊢
                 refine pure_ (i := 0) (N := some 54) (v := ?_) (a' := ?_) #[true, false, false, false, false, false, false, false, false, false, false, false, false, false, false, false, false, false, false, false, false, false, false, false, false, false, false, false, false, false, false, false, false, false, false, false, false, false, false, false] rfl rfl (any_of HT_.out (by kernel_rfl)) (fun _ _ _ h => h) (Or.inl ⟨by rfl, ?_⟩) ?_ ?_
                 rotate_left
                 ·intro w'
                  go_simp
                  with_reducible rfl
                 rotate_left
                 ·simp only [Act.put, List.setIfInBounds_toArray, List.set_cons_zero, List.set_cons_succ, i64_w, i32_w]
                  rfl
                 refine pure_ (i := 1) (N := some 55) (v := ?_) (a' := ?_) #[true, true, false, false, false, false, false, false, false, false, false, false, false, false, false, false, false, false, false, false, false, false, false, false, false, false, false, false, false, false, false, false, false, false, false, false, false, false, false, false] rfl rfl (any_of HT_.out (by kernel_rfl)) (fun _ _ _ h => h) (Or.inl ⟨by rfl, ?_⟩) ?_ ?_
                 rotate_left
                 ·intro w'
                  go_simp
                  with_reducible rfl
                 rotate_left
                 ·simp only [Act.put, List.setIfInBounds_toArray, List.set_cons_zero, List.set_cons_succ, i64_w, i32_w]
                  rfl
                 refine pure_ (i := 2) (N := some 56) (v := ?_) (a' := ?_) #[true, true, true, false, false, false, false, false, false, false, false, false, false, false, false, false, false, false, false, false, false, false, false, false, false, false, false, false, false, false, false, false, false, false, false, false, false, false, false, false] rfl rfl (any_of HT_.out (by kernel_rfl)) (fun _ _ _ h => h) (Or.inl ⟨by rfl, ?_⟩) ?_ ?_
                 rotate_left
                 ·intro w'
                  go_simp
                  with_reducible rfl
                 rotate_left
                 ·simp only [Act.put, List.setIfInBounds_toArray, List.set_cons_zero, List.set_cons_succ, i64_w, i32_w]
                  rfl
                 refine pure_ (i := 3) (N := some 57) (v := ?_) (a' := ?_) #[true, true, true, true, false, false, false, false, false, false, false, false, false, false, false, false, false, false, false, false, false, false, false, false, false, false, false, false, false, false, false, false, false, false, false, false, false, false, false, false] rfl rfl (any_of HT_.out (by kernel_rfl)) (fun _ _ _ h => h) (Or.inl ⟨by rfl, ?_⟩) ?_ ?_
                 rotate_left
                 ·intro w'
                  go_simp
                  with_reducible rfl
                 rotate_left
                 ·simp only [Act.put, List.setIfInBounds_toArray, List.set_cons_zero, List.set_cons_succ, i64_w, i32_w]
                  rfl
                 refine pure_ (i := 4) (N := some 58) (v := ?_) (a' := ?_) #[true, true, true, true, true, false, false, false, false, false, false, false, false, false, false, false, false, false, false, false, false, false, false, false, false, false, false, false, false, false, false, false, false, false, false, false, false, false, false, false] rfl rfl (any_of HT_.out (by kernel_rfl)) (fun _ _ _ h => h) (Or.inl ⟨by rfl, ?_⟩) ?_ ?_
                 rotate_left
                 ·intro w'
                  go_simp
                  with_reducible rfl
                 rotate_left
                 ·simp only [Act.put, List.setIfInBounds_toArray, List.set_cons_zero, List.set_cons_succ, i64_w, i32_w]
                  rfl
                 refine pure_ (i := 5) (N := some 59) (v := ?_) (a' := ?_) #[true, true, true, true, true, true, false, false, false, false, false, false, false, false, false, false, false, false, false, false, false, false, false, false, false, false, false, false, false, false, false, false, false, false, false, false, false, false, false, false] rfl rfl (any_of HT_.out (by kernel_rfl)) (fun _ _ _ h => h) (Or.inl ⟨by rfl, ?_⟩) ?_ ?_
                 rotate_left
                 ·intro w'
                  go_simp
                  with_reducible rfl
                 rotate_left
                 ·simp only [Act.put, List.setIfInBounds_toArray, List.set_cons_zero, List.set_cons_succ, i64_w, i32_w]
                  rfl
                 refine pure_ (i := 6) (N := some 60) (v := ?_) (a' := ?_) #[true, true, true, true, true, true, true, false, false, false, false, false, false, false, false, false, false, false, false, false, false, false, false, false, false, false, false, false, false, false, false, false, false, false, false, false, false, false, false, false] rfl rfl (any_of HT_.out (by kernel_rfl)) (fun _ _ _ h => h) (Or.inl ⟨by rfl, ?_⟩) ?_ ?_
                 rotate_left
                 ·intro w'
                  go_simp
                  with_reducible rfl
                 rotate_left
                 ·simp only [Act.put, List.setIfInBounds_toArray, List.set_cons_zero, List.set_cons_succ, i64_w, i32_w]
                  rfl
                 refine pure_ (i := 8) (N := some 62) (v := ?_) (a' := ?_) #[true, true, true, true, true, true, true, false, true, false, false, false, false, false, false, false, false, false, false, false, false, false, false, false, false, false, false, false, false, false, false, false, false, false, false, false, false, false, false, false] rfl rfl (any_of HT_.out (by kernel_rfl)) (fun _ _ _ h => h) (Or.inl ⟨by rfl, ?_⟩) ?_ ?_
                 rotate_left
                 ·intro w'
                  go_simp
                  with_reducible rfl
                 rotate_left
                 ·simp only [Act.put, List.setIfInBounds_toArray, List.set_cons_zero, List.set_cons_succ, i64_w, i32_w]
                  rfl
                 refine take_ (i := 7) (N := some 61) (v := ?_) (a' := ?_) #[true, true, true, true, true, true, true, true, true, false, false, false, false, false, false, false, false, false, false, false, false, false, false, false, false, false, false, false, false, false, false, false, false, false, false, false, false, false, false, false] rfl rfl (take_ofW HT_.out HW_.out (by kernel_rfl)) (fun _ _ _ h => h) (Or.inl ⟨by rfl, ?_⟩) hHeld ?_ ?_
                 rotate_left
                 ·rintro w' ⟨s0, s1, s2⟩
                  go_simp
                  with_reducible rfl
                 rotate_left
                 ·simp only [Act.put, List.setIfInBounds_toArray, List.set_cons_zero, List.set_cons_succ, i64_w, i32_w]
                  rfl
                 refine pure_ (i := 9) (N := some 63) (v := ?_) (a' := ?_) #[true, true, true, true, true, true, true, true, true, true, false, false, false, false, false, false, false, false, false, false, false, false, false, false, false, false, false, false, false, false, false, false, false, false, false, false, false, false, false, false] rfl rfl (any_of HT_.out (by kernel_rfl)) (fun _ _ _ h => h) (Or.inl ⟨by rfl, ?_⟩) ?_ ?_
                 rotate_left
                 ·intro w'
                  go_simp
                  with_reducible rfl
                 rotate_left
                 ·simp only [Act.put, List.setIfInBounds_toArray, List.set_cons_zero, List.set_cons_succ, i64_w, i32_w]
                  rfl
                 refine take_ (i := 10) (N := some 64) (v := ?_) (a' := ?_) #[true, true, true, true, true, true, true, true, true, true, true, false, false, false, false, false, false, false, false, false, false, false, false, false, false, false, false, false, false, false, false, false, false, false, false, false, false, false, false, false] rfl rfl (take_ofW HT_.out HW_.out (by kernel_rfl)) (fun _ _ _ h => h) (Or.inl ⟨by rfl, ?_⟩) hHeld ?_ ?_
                 rotate_left
                 ·rintro w' ⟨s0, s1, s2⟩
                  go_simp
                  with_reducible rfl
                 rotate_left
                 ·simp only [Act.put, List.setIfInBounds_toArray, List.set_cons_zero, List.set_cons_succ, i64_w, i32_w]
                  rfl
                 refine one_ (i := 11) (N := some 65) #[true, true, true, true, true, true, true, true, true, true, true, true, false, false, false, false, false, false, false, false, false, false, false, false, false, false, false, false, false, false, false, false, false, false, false, false, false, false, false, false] rfl rfl (one_of HT_.out (by kernel_rfl)) (by decide) (fun K hK => ?_)
                 refine Kd.R_lit_step (Kd.int .i64) _ 3 ?hg (N := 65) ?hd (xs := ([63] : List Int)) (inner := [.int .i64 63]) (ok := fun _ => True) (okp := fun _ => True) ?hr ?hp (fun _ hk => hk) trivial (Below.refl _ _) (Nat.le_refl _) (by simp) ?_; (case hd => rfl); (case hg => rfl); (case hr => first | (go_simp; done) | (go_simp; rfl)); (case hp => exact (Reps.one (show Kd.M (Kd.int .i64) _ _ _ 63 [.int .i64 63] from rfl) (Reps.none _ _)))
                 intro v311 w40 ho41 hb hg_ hnew_
                 have HS0_ := (hb.cell (World.block_lt_of_cell? _ _ (hHeld.1))).trans (hHeld.1)
                 have HS1_ := (hb.cell (World.block_lt_of_cell? _ _ (hHeld.2.1))).trans (hHeld.2.1)
                 have HS2_ := (hb.cell (World.block_lt_of_cell? _ _ (hHeld.2.2))).trans (hHeld.2.2)
                 clear hg_ hnew_
                 (first | rw [← Ny310.out] at ho41 | (simp only [Int.reduceToNat] at ho41; rw [← Ny310.out] at ho41))
                 have n0_ := Aside0.mk (Kd.S_below (by (with_reducible repeat (first | apply Kd.S_alloc | apply Kd.S_drewN | apply Kd.S_drew)); exact HO_5.out) hb)
                 have n1_ := Aside0.mk (Kd.R_below (by (with_reducible repeat (first | apply Kd.R_alloc | apply Kd.R_drewN | apply Kd.R_drew)); exact HO_7.out) hb)
                 have n2_ := Aside0.mk (Kd.R_below (by (with_reducible repeat (first | apply Kd.R_alloc | apply Kd.R_drewN | apply Kd.R_drew)); exact HL305_0.out) hb)
                 have n3_ := Aside0.mk (Kd.R_below (by (with_reducible repeat (first | apply Kd.R_alloc | apply Kd.R_drewN | apply Kd.R_drew)); exact HL305_1.out) hb)
                 have n4_ := Aside0.mk (Kd.R_below (by (with_reducible repeat (first | apply Kd.R_alloc | apply Kd.R_drewN | apply Kd.R_drew)); exact HL306_0.out) hb)
                 have n5_ := Aside0.mk (Kd.R_below (by (with_reducible repeat (first | apply Kd.R_alloc | apply Kd.R_drewN | apply Kd.R_drew)); exact HL306_1.out) hb)
                 have n6_ := Aside0.mk (Kd.R_below (by (with_reducible repeat (first | apply Kd.R_alloc | apply Kd.R_drewN | apply Kd.R_drew)); exact HL308_0.out) hb)
                 have n7_ := Aside0.mk (Kd.R_below (by (with_reducible repeat (first | apply Kd.R_alloc | apply Kd.R_drewN | apply Kd.R_drew)); exact HL308_1.out) hb)
                 have n8_ := Aside0.mk (Kd.R_lower ho41 (below_size (by repeat (first | (with_reducible first | exact HB.out | apply below_alloc | apply pw_below_drewN | apply below_drew1 | refine below_set ?_ GE295.out) | exact HB.out))))
                 have n9_ := Aside0.mk (blk_below (g := gb295) (o := .cells #[.slice A0_0 l0_0.length c0_0, .slice A0_1 l0_1.length c0_1, .slice A0_2 l0_2.length c0_2, .slice A0_3 l0_3.length c0_3, .int .i64 a0_4] 27 (0, 0)) (by (with_reducible repeat (first | refine blk_drewN ?_ _ | refine blk_drew ?_ | refine blk_alloc ?_ _)); exact BK295.out) hb)
                 have n10_ := Aside0.mk (Kd.C_below (by repeat (first | (with_reducible exact HR305_0.out) | (with_reducible refine Kd.C_alloc ?_ _) | (with_reducible refine Kd.C_drewN ?_ _) | (with_reducible refine Kd.C_drew ?_) | exact HR305_0.out)) hb)
                 have n11_ := Aside0.mk (Kd.C_below (by repeat (first | (with_reducible exact HR305_1.out) | (with_reducible refine Kd.C_alloc ?_ _) | (with_reducible refine Kd.C_drewN ?_ _) | (with_reducible refine Kd.C_drew ?_) | exact HR305_1.out)) hb)
                 have n12_ := Aside0.mk (Kd.C_below (by repeat (first | (with_reducible exact HR306_0.out) | (with_reducible refine Kd.C_alloc ?_ _) | (with_reducible refine Kd.C_drewN ?_ _) | (with_reducible refine Kd.C_drew ?_) | exact HR306_0.out)) hb)
                 have n13_ := Aside0.mk (Kd.C_below (by repeat (first | (with_reducible exact HR306_1.out) | (with_reducible refine Kd.C_alloc ?_ _) | (with_reducible refine Kd.C_drewN ?_ _) | (with_reducible refine Kd.C_drew ?_) | exact HR306_1.out)) hb)
                 have n14_ := Aside0.mk (Kd.C_below (by repeat (first | (with_reducible exact HR308_0.out) | (with_reducible refine Kd.C_alloc ?_ _) | (with_reducible refine Kd.C_drewN ?_ _) | (with_reducible refine Kd.C_drew ?_) | exact HR308_0.out)) hb)
                 have n15_ := Aside0.mk (Kd.C_below (by repeat (first | (with_reducible exact HR308_1.out) | (with_reducible refine Kd.C_alloc ?_ _) | (with_reducible refine Kd.C_drewN ?_ _) | (with_reducible refine Kd.C_drew ?_) | exact HR308_1.out)) hb)
                 have n16_ := Aside0.mk (below_step (by repeat (first | (with_reducible first | exact HB.out | apply below_alloc | apply pw_below_drewN | apply below_drew1 | refine below_set ?_ GE295.out) | exact HB.out)) hb)
                 clear HO_5
                 clear HO_7
                 clear HL305_0
                 clear HL305_1
                 clear HL306_0
                 clear HL306_1
                 clear HL308_0
                 clear HL308_1
                 clear BK295
                 clear HR305_0
                 clear HR305_1
                 clear HR306_0
                 clear HR306_1
                 clear HR308_0
                 clear HR308_1
                 clear HB
                 have HO_5 := n0_
                 have HO_7 := n1_
                 have HL305_0 := n2_
                 have HL305_1 := n3_
                 have HL306_0 := n4_
                 have HL306_1 := n5_
                 have HL308_0 := n6_
                 have HL308_1 := n7_
                 have HO312 := n8_
                 have BK295 := n9_
                 have HR305_0 := n10_
                 have HR305_1 := n11_
                 have HR306_0 := n12_
                 have HR306_1 := n13_
                 have HR308_0 := n14_
                 have HR308_1 := n15_
                 have HB := n16_
                 clear n0_ n1_ n2_ n3_ n4_ n5_ n6_ n7_ n8_ n9_ n10_ n11_ n12_ n13_ n14_ n15_ n16_
                 clear hb ho41
                 obtain ⟨Ao42, co42, eo42⟩ := Kd.R_slice HO312.out
                 (first | subst eo42 | (injection eo42 with f1_ f2_ f3_; have f4_ := f1_.symm; have f5_ := f3_.symm; clear f1_ f2_ f3_; subst f4_; subst f5_))
                 refine hK.out _ _ ⟨HS0_, HS1_, HS2_⟩ (fun hHeld => ?_)
                 clear hK K
                 refine norm_ (a' := ?_) ?_ ?_
                 rotate_left
                 ·show Act.put _ (some 65) _ = _
                  simp only [Act.put, List.setIfInBounds_toArray, List.set_cons_zero, List.set_cons_succ, i64_w, i32_w]
                  rfl
                 refine one_ (i := 12) (N := some 66) #[true, true, true, true, true, true, true, true, true, true, true, true, true, false, false, false, false, false, false, false, false, false, false, false, false, false, false, false, false, false, false, false, false, false, false, false, false, false, false, false] rfl rfl (one_of HT_.out (by kernel_rfl)) (by decide) (fun K hK => ?_)
                 refine goes_ Tryd.func31 (by kernel_rfl) rfl #[.slice Ao42 y310.length co42] (by rfl) rfl rfl (by (try simp only [List.map_toArray, List.map_cons, List.map_nil]); first | done | rfl | (simp only [List.length_drop, List.length_take]; rfl)) ?_
                 with_reducible refine (bits_Of.calls k2 _ _ y310 t313 _ ?side1 ?side2 A25.out).mono ?_
                 (case side1 => repeat (first | exact (Kd.R_reads' HO312.out).2.2 | (with_reducible refine Kd.C_alloc ?_ _) | (with_reducible refine Kd.C_drewN ?_ _) | (with_reducible refine Kd.C_drew ?_)))
                 (case side2 => exact (Kd.R_reads' HO312.out).2.1)
                 rintro e w' ⟨rfl, ⟨nd, rfl⟩⟩
                 refine ⟨_, rfl, ?_⟩
                 refine hK.out _ _ ⟨hHeld.1, hHeld.2.1, hHeld.2.2⟩ (fun hHeld => ?_)
                 clear hK K
                 refine norm_ (a' := ?_) ?_ ?_
                 rotate_left
                 ·show Act.put _ (some 66) _ = _
                  simp only [Act.put, List.setIfInBounds_toArray, List.set_cons_zero, List.set_cons_succ, i64_w, i32_w]
                  rfl
                 refine pure_ (i := 13) (N := some 67) (v := ?_) (a' := ?_) #[true, true, true, true, true, true, true, true, true, true, true, true, true, true, false, false, false, false, false, false, false, false, false, false, false, false, false, false, false, false, false, false, false, false, false, false, false, false, false, false] rfl rfl (any_of HT_.out (by kernel_rfl)) (fun _ _ _ h => h) (Or.inl ⟨by rfl, ?_⟩) ?_ ?_
                 rotate_left
                 ·intro w'
                  go_simp
                  with_reducible rfl
                 rotate_left
                 ·simp only [Act.put, List.setIfInBounds_toArray, List.set_cons_zero, List.set_cons_succ, i64_w, i32_w]
                  rfl
                 refine pure_ (i := 14) (N := some 68) (v := ?_) (a' := ?_) #[true, true, true, true, true, true, true, true, true, true, true, true, true, true, true, false, false, false, false, false, false, false, false, false, false, false, false, false, false, false, false, false, false, false, false, false, false, false, false, false] rfl rfl (any_of HT_.out (by kernel_rfl)) (fun _ _ _ h => h) (Or.inl ⟨by rfl, ?_⟩) ?_ ?_
                 rotate_left
                 ·intro w'
                  go_simp
                  with_reducible rfl
                 rotate_left
                 ·simp only [Act.put, List.setIfInBounds_toArray, List.set_cons_zero, List.set_cons_succ, i64_w, i32_w]
                  rfl
                 refine pure_ (i := 15) (N := some 69) (v := ?_) (a' := ?_) #[true, true, true, true, true, true, true, true, true, true, true, true, true, true, true, true, false, false, false, false, false, false, false, false, false, false, false, false, false, false, false, false, false, false, false, false, false, false, false, false] rfl rfl (any_of HT_.out (by kernel_rfl)) (fun _ _ _ h => h) (Or.inl ⟨by rfl, ?_⟩) ?_ ?_
                 rotate_left
                 ·intro w'
                  go_simp
                  with_reducible rfl
                 rotate_left
                 ·simp only [Act.put, List.setIfInBounds_toArray, List.set_cons_zero, List.set_cons_succ, i64_w, i32_w]
                  rfl
                 refine pure_ (i := 16) (N := some 70) (v := ?_) (a' := ?_) #[true, true, true, true, true, true, true, true, true, true, true, true, true, true, true, true, true, false, false, false, false, false, false, false, false, false, false, false, false, false, false, false, false, false, false, false, false, false, false, false] rfl rfl (any_of HT_.out (by kernel_rfl)) (fun _ _ _ h => h) (Or.inl ⟨by rfl, ?_⟩) ?_ ?_
                 rotate_left
                 ·intro w'
                  go_simp
                  with_reducible rfl
                 rotate_left
                 ·simp only [Act.put, List.setIfInBounds_toArray, List.set_cons_zero, List.set_cons_succ, i64_w, i32_w]
                  rfl
                 refine pure_ (i := 17) (N := some 71) (v := ?_) (a' := ?_) #[true, true, true, true, true, true, true, true, true, true, true, true, true, true, true, true, true, true, false, false, false, false, false, false, false, false, false, false, false, false, false, false, false, false, false, false, false, false, false, false] rfl rfl (any_of HT_.out (by kernel_rfl)) (fun _ _ _ h => h) (Or.inl ⟨by rfl, ?_⟩) ?_ ?_
                 rotate_left
                 ·intro w'
                  go_simp
                  with_reducible rfl
                 rotate_left
                 ·simp only [Act.put, List.setIfInBounds_toArray, List.set_cons_zero, List.set_cons_succ, i64_w, i32_w]
                  rfl
                 refine pure_ (i := 18) (N := some 72) (v := ?_) (a' := ?_) #[true, true, true, true, true, true, true, true, true, true, true, true, true, true, true, true, true, true, true, false, false, false, false, false, false, false, false, false, false, false, false, false, false, false, false, false, false, false, false, false] rfl rfl (any_of HT_.out (by kernel_rfl)) (fun _ _ _ h => h) (Or.inl ⟨by rfl, ?_⟩) ?_ ?_
                 rotate_left
                 ·intro w'
                  go_simp
                  with_reducible rfl
                 rotate_left
                 ·simp only [Act.put, List.setIfInBounds_toArray, List.set_cons_zero, List.set_cons_succ, i64_w, i32_w]
                  rfl
                 refine pure_ (i := 19) (N := some 73) (v := undef) (a' := ?_) #[true, true, true, true, true, true, true, true, true, true, true, true, true, true, true, true, true, true, true, true, false, false, false, false, false, false, false, false, false, false, false, false, false, false, false, false, false, false, false, false] rfl rfl (any_of HT_.out (by kernel_rfl)) (fun _ _ _ h => h) (Or.inr ⟨by rfl, rfl⟩) ?_ ?_
                 rotate_left
                 ·simp only [Act.put, List.setIfInBounds_toArray, List.set_cons_zero, List.set_cons_succ, i64_w, i32_w]
                  rfl
                 refine pure_ (i := 20) (N := some 74) (v := undef) (a' := ?_) #[true, true, true, true, true, true, true, true, true, true, true, true, true, true, true, true, true, true, true, true, true, false, false, false, false, false, false, false, false, false, false, false, false, false, false, false, false, false, false, false] rfl rfl (any_of HT_.out (by kernel_rfl)) (fun _ _ _ h => h) (Or.inr ⟨by rfl, rfl⟩) ?_ ?_
                 rotate_left
                 ·simp only [Act.put, List.setIfInBounds_toArray, List.set_cons_zero, List.set_cons_succ, i64_w, i32_w]
                  rfl
                 refine pure_ (i := 21) (N := some 75) (v := undef) (a' := ?_) #[true, true, true, true, true, true, true, true, true, true, true, true, true, true, true, true, true, true, true, true, true, true, false, false, false, false, false, false, false, false, false, false, false, false, false, false, false, false, false, false] rfl rfl (any_of HT_.out (by kernel_rfl)) (fun _ _ _ h => h) (Or.inr ⟨by rfl, rfl⟩) ?_ ?_
                 rotate_left
                 ·simp only [Act.put, List.setIfInBounds_toArray, List.set_cons_zero, List.set_cons_succ, i64_w, i32_w]
                  rfl
                 refine pure_ (i := 22) (N := some 76) (v := undef) (a' := ?_) #[true, true, true, true, true, true, true, true, true, true, true, true, true, true, true, true, true, true, true, true, true, true, true, false, false, false, false, false, false, false, false, false, false, false, false, false, false, false, false, false] rfl rfl (any_of HT_.out (by kernel_rfl)) (fun _ _ _ h => h) (Or.inr ⟨by rfl, rfl⟩) ?_ ?_
                 rotate_left
                 ·simp only [Act.put, List.setIfInBounds_toArray, List.set_cons_zero, List.set_cons_succ, i64_w, i32_w]
                  rfl
                 refine pure_ (i := 23) (N := some 77) (v := undef) (a' := ?_) #[true, true, true, true, true, true, true, true, true, true, true, true, true, true, true, true, true, true, true, true, true, true, true, true, false, false, false, false, false, false, false, false, false, false, false, false, false, false, false, false] rfl rfl (any_of HT_.out (by kernel_rfl)) (fun _ _ _ h => h) (Or.inr ⟨by rfl, rfl⟩) ?_ ?_
                 rotate_left
                 ·simp only [Act.put, List.setIfInBounds_toArray, List.set_cons_zero, List.set_cons_succ, i64_w, i32_w]
                  rfl
                 refine pure_ (i := 24) (N := some 78) (v := undef) (a' := ?_) #[true, true, true, true, true, true, true, true, true, true, true, true, true, true, true, true, true, true, true, true, true, true, true, true, true, false, false, false, false, false, false, false, false, false, false, false, false, false, false, false] rfl rfl (any_of HT_.out (by kernel_rfl)) (fun _ _ _ h => h) (Or.inr ⟨by rfl, rfl⟩) ?_ ?_
                 rotate_left
                 ·simp only [Act.put, List.setIfInBounds_toArray, List.set_cons_zero, List.set_cons_succ, i64_w, i32_w]
                  rfl
                 refine pure_ (i := 25) (N := some 79) (v := undef) (a' := ?_) #[true, true, true, true, true, true, true, true, true, true, true, true, true, true, true, true, true, true, true, true, true, true, true, true, true, true, false, false, false, false, false, false, false, false, false, false, false, false, false, false] rfl rfl (any_of HT_.out (by kernel_rfl)) (fun _ _ _ h => h) (Or.inr ⟨by rfl, rfl⟩) ?_ ?_
                 rotate_left
                 ·simp only [Act.put, List.setIfInBounds_toArray, List.set_cons_zero, List.set_cons_succ, i64_w, i32_w]
                  rfl
                 refine pure_ (i := 26) (N := some 80) (v := undef) (a' := ?_) #[true, true, true, true, true, true, true, true, true, true, true, true, true, true, true, true, true, true, true, true, true, true, true, true, true, true, true, false, false, false, false, false, false, false, false, false, false, false, false, false] rfl rfl (any_of HT_.out (by kernel_rfl)) (fun _ _ _ h => h) (Or.inr ⟨by rfl, rfl⟩) ?_ ?_
                 rotate_left
                 ·simp only [Act.put, List.setIfInBounds_toArray, List.set_cons_zero, List.set_cons_succ, i64_w, i32_w]
                  rfl
                 refine pure_ (i := 27) (N := some 81) (v := undef) (a' := ?_) #[true, true, true, true, true, true, true, true, true, true, true, true, true, true, true, true, true, true, true, true, true, true, true, true, true, true, true, true, false, false, false, false, false, false, false, false, false, false, false, false] rfl rfl (any_of HT_.out (by kernel_rfl)) (fun _ _ _ h => h) (Or.inr ⟨by rfl, rfl⟩) ?_ ?_
                 rotate_left
                 ·simp only [Act.put, List.setIfInBounds_toArray, List.set_cons_zero, List.set_cons_succ, i64_w, i32_w]
                  rfl
                 refine pure_ (i := 28) (N := some 82) (v := undef) (a' := ?_) #[true, true, true, true, true, true, true, true, true, true, true, true, true, true, true, true, true, true, true, true, true, true, true, true, true, true, true, true, true, false, false, false, false, false, false, false, false, false, false, false] rfl rfl (any_of HT_.out (by kernel_rfl)) (fun _ _ _ h => h) (Or.inr ⟨by rfl, rfl⟩) ?_ ?_
                 rotate_left
                 ·simp only [Act.put, List.setIfInBounds_toArray, List.set_cons_zero, List.set_cons_succ, i64_w, i32_w]
                  rfl
                 refine pure_ (i := 29) (N := some 83) (v := undef) (a' := ?_) #[true, true, true, true, true, true, true, true, true, true, true, true, true, true, true, true, true, true, true, true, true, true, true, true, true, true, true, true, true, true, false, false, false, false, false, false, false, false, false, false] rfl rfl (any_of HT_.out (by kernel_rfl)) (fun _ _ _ h => h) (Or.inr ⟨by rfl, rfl⟩) ?_ ?_
                 rotate_left
                 ·simp only [Act.put, List.setIfInBounds_toArray, List.set_cons_zero, List.set_cons_succ, i64_w, i32_w]
                  rfl
                 refine pure_ (i := 30) (N := some 84) (v := undef) (a' := ?_) #[true, true, true, true, true, true, true, true, true, true, true, true, true, true, true, true, true, true, true, true, true, true, true, true, true, true, true, true, true, true, true, false, false, false, false, false, false, false, false, false] rfl rfl (any_of HT_.out (by kernel_rfl)) (fun _ _ _ h => h) (Or.inr ⟨by rfl, rfl⟩) ?_ ?_
                 rotate_left
                 ·simp only [Act.put, List.setIfInBounds_toArray, List.set_cons_zero, List.set_cons_succ, i64_w, i32_w]
                  rfl
                 refine pure_ (i := 31) (N := some 85) (v := undef) (a' := ?_) #[true, true, true, true, true, true, true, true, true, true, true, true, true, true, true, true, true, true, true, true, true, true, true, true, true, true, true, true, true, true, true, true, false, false, false, false, false, false, false, false] rfl rfl (any_of HT_.out (by kernel_rfl)) (fun _ _ _ h => h) (Or.inr ⟨by rfl, rfl⟩) ?_ ?_
                 rotate_left
                 ·simp only [Act.put, List.setIfInBounds_toArray, List.set_cons_zero, List.set_cons_succ, i64_w, i32_w]
                  rfl
                 refine pure_ (i := 32) (N := some 86) (v := undef) (a' := ?_) #[true, true, true, true, true, true, true, true, true, true, true, true, true, true, true, true, true, true, true, true, true, true, true, true, true, true, true, true, true, true, true, true, true, false, false, false, false, false, false, false] rfl rfl (any_of HT_.out (by kernel_rfl)) (fun _ _ _ h => h) (Or.inr ⟨by rfl, rfl⟩) ?_ ?_
                 rotate_left
                 ·simp only [Act.put, List.setIfInBounds_toArray, List.set_cons_zero, List.set_cons_succ, i64_w, i32_w]
                  rfl
                 refine pure_ (i := 33) (N := some 87) (v := undef) (a' := ?_) #[true, true, true, true, true, true, true, true, true, true, true, true, true, true, true, true, true, true, true, true, true, true, true, true, true, true, true, true, true, true, true, true, true, true, false, false, false, false, false, false] rfl rfl (any_of HT_.out (by kernel_rfl)) (fun _ _ _ h => h) (Or.inr ⟨by rfl, rfl⟩) ?_ ?_
                 rotate_left
                 ·simp only [Act.put, List.setIfInBounds_toArray, List.set_cons_zero, List.set_cons_succ, i64_w, i32_w]
                  rfl
                 refine pure_ (i := 34) (N := some 88) (v := undef) (a' := ?_) #[true, true, true, true, true, true, true, true, true, true, true, true, true, true, true, true, true, true, true, true, true, true, true, true, true, true, true, true, true, true, true, true, true, true, true, false, false, false, false, false] rfl rfl (any_of HT_.out (by kernel_rfl)) (fun _ _ _ h => h) (Or.inr ⟨by rfl, rfl⟩) ?_ ?_
                 rotate_left
                 ·simp only [Act.put, List.setIfInBounds_toArray, List.set_cons_zero, List.set_cons_succ, i64_w, i32_w]
                  rfl
                 refine pure_ (i := 35) (N := some 89) (v := undef) (a' := ?_) #[true, true, true, true, true, true, true, true, true, true, true, true, true, true, true, true, true, true, true, true, true, true, true, true, true, true, true, true, true, true, true, true, true, true, true, true, false, false, false, false] rfl rfl (any_of HT_.out (by kernel_rfl)) (fun _ _ _ h => h) (Or.inr ⟨by rfl, rfl⟩) ?_ ?_
                 rotate_left
                 ·simp only [Act.put, List.setIfInBounds_toArray, List.set_cons_zero, List.set_cons_succ, i64_w, i32_w]
                  rfl
                 refine pure_ (i := 36) (N := some 90) (v := undef) (a' := ?_) #[true, true, true, true, true, true, true, true, true, true, true, true, true, true, true, true, true, true, true, true, true, true, true, true, true, true, true, true, true, true, true, true, true, true, true, true, true, false, false, false] rfl rfl (any_of HT_.out (by kernel_rfl)) (fun _ _ _ h => h) (Or.inr ⟨by rfl, rfl⟩) ?_ ?_
                 rotate_left
                 ·simp only [Act.put, List.setIfInBounds_toArray, List.set_cons_zero, List.set_cons_succ, i64_w, i32_w]
                  rfl
                 refine pure_ (i := 37) (N := some 91) (v := undef) (a' := ?_) #[true, true, true, true, true, true, true, true, true, true, true, true, true, true, true, true, true, true, true, true, true, true, true, true, true, true, true, true, true, true, true, true, true, true, true, true, true, true, false, false] rfl rfl (any_of HT_.out (by kernel_rfl)) (fun _ _ _ h => h) (Or.inr ⟨by rfl, rfl⟩) ?_ ?_
                 rotate_left
                 ·simp only [Act.put, List.setIfInBounds_toArray, List.set_cons_zero, List.set_cons_succ, i64_w, i32_w]
                  rfl
                 refine pure_ (i := 38) (N := some 92) (v := ?_) (a' := ?_) #[true, true, true, true, true, true, true, true, true, true, true, true, true, true, true, true, true, true, true, true, true, true, true, true, true, true, true, true, true, true, true, true, true, true, true, true, true, true, true, false] rfl rfl (any_of HT_.out (by kernel_rfl)) (fun _ _ _ h => h) (Or.inl ⟨by rfl, ?_⟩) ?_ ?_
                 rotate_left
                 ·intro w'
                  go_simp
                  with_reducible rfl
                 rotate_left
                 ·simp only [Act.put, List.setIfInBounds_toArray, List.set_cons_zero, List.set_cons_succ, i64_w, i32_w]
                  rfl
                 refine pure_ (i := 39) (N := some 93) (v := ?_) (a' := ?_) #[true, true, true, true, true, true, true, true, true, true, true, true, true, true, true, true, true, true, true, true, true, true, true, true, true, true, true, true, true, true, true, true, true, true, true, true, true, true, true, true] rfl rfl (any_of HT_.out (by kernel_rfl)) (fun _ _ _ h => h) (Or.inl ⟨by rfl, ?_⟩) ?_ ?_
                 rotate_left
                 ·intro w'
                  go_simp
                  with_reducible rfl
                 rotate_left
                 ·simp only [Act.put, List.setIfInBounds_toArray, List.set_cons_zero, List.set_cons_succ, i64_w, i32_w]
                  rfl
                 refine done_ (done_of HT_.out (by kernel_rfl)) ?_
                 try go_wp2
                 go_roundg k2
                 case measure => have := HK1.out; have := HK2.out; omega
                 case rel => exact ⟨(wrap64 (x9_2 + 1)), (by first | rfl | (simp; done) | (simp [*]; done)), H', ⟨by have := HK1.out; have := HK2.out; omega⟩, ⟨by (with_reducible repeat (first | apply Kd.S_alloc | apply Kd.S_drewN | apply Kd.S_drew)); exact HO_5.out⟩, ⟨by (with_reducible repeat (first | apply Kd.R_alloc | apply Kd.R_drewN | apply Kd.R_drew)); exact HO_7.out⟩, ⟨by (with_reducible repeat (first | refine blk_drewN ?_ _ | refine blk_drew ?_ | refine blk_alloc ?_ _)); exact BK295.out⟩, ⟨by repeat (first | (with_reducible first | exact HB.out | apply below_alloc | apply pw_below_drewN | apply below_drew1 | refine below_set ?_ GE295.out) | exact HB.out)⟩⟩
               ·rw [if_neg c26] at H
                have c26b0 : ((rd ((rd_T74 t298 x8_1).f1) x9_2) == t313) = false := beq_eq_false_iff_ne.mpr c26
                have c26b1 : ((rd ((rd_T74 t298 x8_1).f1) x9_2) != t313) = true := bne_iff_ne.mpr c26
                exact absurd ((Option.some.inj H).trans HT.out) (by decide)
              ·rw [if_neg c24] at H
               exact absurd H (by simp)
             ·rw [if_neg c23] at H
              have c23b0 : decide (((rd_T37 ((rd_T74 t298 x8_1).f0) x9_2).f0) < 0) = false := decide_eq_false c23
              clear c23
              by_cases c43 : ((rd_T37 ((rd_T74 t298 x8_1).f0) x9_2).f0) ≥ 0
              ·rw [if_pos c43] at H
               have c43b0 : decide (0 ≤ ((rd_T37 ((rd_T74 t298 x8_1).f0) x9_2).f0)) = true := decide_eq_true c43
               clear c43
               by_cases c44 : x9_2 < (((rd_T74 t298 x8_1).f1).length : Int)
               ·rw [if_pos c44] at H
                have c44b0 : decide (x9_2 < (((rd_T74 t298 x8_1).f1).length : Int)) = true := decide_eq_true c44
                clear c44
                by_cases c45 : 0 ≤ ((rd_T37 ((rd_T74 t298 x8_1).f0) x9_2).f0)
                ·rw [if_pos c45] at H
                 have c45b0 : decide (0 ≤ ((rd_T37 ((rd_T74 t298 x8_1).f0) x9_2).f0)) = true := decide_eq_true c45
                 clear c45
                 by_cases c46 : ((rd_T37 ((rd_T74 t298 x8_1).f0) x9_2).f0) < (l0_3.length : Int)
                 ·rw [if_pos c46] at H
                  have c46b0 : decide (((rd_T37 ((rd_T74 t298 x8_1).f0) x9_2).f0) < (l0_3.length : Int)) = true := decide_eq_true c46
                  clear c46
                  by_cases c47 : 0 ≤ ((rd_T64 l0_3 ((rd_T37 ((rd_T74 t298 x8_1).f0) x9_2).f0)).f1)
                  ·rw [if_pos c47] at H
                   have c47b0 : decide (0 ≤ ((rd_T64 l0_3 ((rd_T37 ((rd_T74 t298 x8_1).f0) x9_2).f0)).f1)) = true := decide_eq_true c47
                   clear c47
                   by_cases c48 : ((rd_T64 l0_3 ((rd_T37 ((rd_T74 t298 x8_1).f0) x9_2).f0)).f1) < (t302.length : Int)
                   ·rw [if_pos c48] at H
                    have c48b0 : decide (((rd_T64 l0_3 ((rd_T37 ((rd_T74 t298 x8_1).f0) x9_2).f0)).f1) < (t302.length : Int)) = true := decide_eq_true c48
                    clear c48
                    replace H := Option.bind_eq_some_iff.mp H
                    obtain ⟨t323, A490, H⟩ := H
                    replace H : (if t323 = true then (syntagmlaw15_LookFollows.l1 k2 true t298 t302 x8_1 (wrap64 (x9_2 + 1)) l0_0 l0_1 l0_2 l0_3 a0_4) else (some false)) = some r := H
                    have A49 := Aside0.mk A490
                    clear A490
                    by_cases c50 : t323 = true
                    ·subst c50
                     have H1 : (syntagmlaw15_LookFollows.l1 k2 true t298 t302 x8_1 (wrap64 (x9_2 + 1)) l0_0 l0_1 l0_2 l0_3 a0_4) = some r := by rw [if_pos rfl] at H; exact H
                     clear H
                     have H := H1
                     clear H1
                     have H' := Aside0.mk H
                     clear H
                     have p305 : 0 ≤ (x8_1 : Int) := of_decide_eq_true (by first | (with_reducible assumption) | assumption)
                     have q305 : x8_1 < (t298.length : Int) := of_decide_eq_true (by first | (with_reducible assumption) | assumption)
                     obtain ⟨ad305, A305_0, c305_0, A305_1, c305_1, e305, hx305_0, hx305_1, hl305_0, hi305_0, hl305_1, hi305_1⟩ := at_T74 (Kd.S_reads' HO_5.out).2.2 x8_1 p305 q305
                     cases e305
                     obtain ⟨ce305, hce305, hMe305, hcc305⟩ := Kd.S_get HO_5.out z74 x8_1 p305 (by first | exact q305 | exact of_decide_eq_true (by first | (with_reducible assumption) | assumption) | (have e_ := (Kd.S_reads' HO_5.out).1; omega))
                     obtain ⟨ve305_0, ve305_1, rfl, ge305_0, ge305_1⟩ := k74_openM hMe305
                     have hv305_0 := hcc305 0 _ rfl
                     rw [Nat.add_zero] at hv305_0
                     replace hv305_0 := Option.some.inj (hv305_0.symm.trans hx305_0)
                     rw [hv305_0] at ge305_0
                     have HL305_0 := Aside0.mk (show Kd.R k37 37 _ _ _ _ ((rd_T74 t298 x8_1).f0) from ge305_0)
                     clear hv305_0 ge305_0
                     have hv305_1 := hcc305 1 _ rfl
                     rw [add_field _ _ 1 (by omega)] at hv305_1
                     replace hv305_1 := Option.some.inj (hv305_1.symm.trans hx305_1)
                     rw [hv305_1] at ge305_1
                     have HL305_1 := Aside0.mk (show Kd.R (Kd.int .u64) 76 _ _ _ _ ((rd_T74 t298 x8_1).f1) from ge305_1)
                     clear hv305_1 ge305_1
                     clear hcc305 hce305
                     have HR305_0 := Aside0.mk hi305_0
                     have HC305_0 := Aside0.mk hl305_0
                     clear hi305_0 hl305_0
                     have HR305_1 := Aside0.mk hi305_1
                     have HC305_1 := Aside0.mk hl305_1
                     clear hi305_1 hl305_1
                     replace p305 := eq_true p305
                     replace q305 := eq_true q305
                     have p306 : 0 ≤ (x8_1 : Int) := of_decide_eq_true (by first | (with_reducible assumption) | assumption)
                     have q306 : x8_1 < (t298.length : Int) := of_decide_eq_true (by first | (with_reducible assumption) | assumption)
                     obtain ⟨ad306, A306_0, c306_0, A306_1, c306_1, e306, hx306_0, hx306_1, hl306_0, hi306_0, hl306_1, hi306_1⟩ := at_T74 (Kd.S_reads' HO_5.out).2.2 x8_1 p306 q306
                     obtain rfl : ad305 = ad306 := (by injection e306)
                     obtain ⟨ce306, hce306, hMe306, hcc306⟩ := Kd.S_get HO_5.out z74 x8_1 p306 (by first | exact q306 | exact of_decide_eq_true (by first | (with_reducible assumption) | assumption) | (have e_ := (Kd.S_reads' HO_5.out).1; omega))
                     obtain ⟨ve306_0, ve306_1, rfl, ge306_0, ge306_1⟩ := k74_openM hMe306
                     have hv306_0 := hcc306 0 _ rfl
                     rw [Nat.add_zero] at hv306_0
                     replace hv306_0 := Option.some.inj (hv306_0.symm.trans hx306_0)
                     rw [hv306_0] at ge306_0
                     have HL306_0 := Aside0.mk (show Kd.R k37 37 _ _ _ _ ((rd_T74 t298 x8_1).f0) from ge306_0)
                     clear hv306_0 ge306_0
                     have hv306_1 := hcc306 1 _ rfl
                     rw [add_field _ _ 1 (by omega)] at hv306_1
                     replace hv306_1 := Option.some.inj (hv306_1.symm.trans hx306_1)
                     rw [hv306_1] at ge306_1
                     have HL306_1 := Aside0.mk (show Kd.R (Kd.int .u64) 76 _ _ _ _ ((rd_T74 t298 x8_1).f1) from ge306_1)
                     clear hv306_1 ge306_1
                     clear hcc306 hce306
                     have HR306_0 := Aside0.mk hi306_0
                     have HC306_0 := Aside0.mk hl306_0
                     clear hi306_0 hl306_0
                     have HR306_1 := Aside0.mk hi306_1
                     have HC306_1 := Aside0.mk hl306_1
                     clear hi306_1 hl306_1
                     replace p306 := eq_true p306
                     replace q306 := eq_true q306
                     have ea_ := Option.some.inj (hx305_0.symm.trans hx306_0)
                     injection ea_ with ea_ en_ ec_
                     subst ea_
                     subst ec_
                     clear en_
                     have ea_ := Option.some.inj (hx305_1.symm.trans hx306_1)
                     injection ea_ with ea_ en_ ec_
                     subst ea_
                     subst ec_
                     clear en_
                     have p307 : 0 ≤ (x9_2 : Int) := of_decide_eq_true (by first | (with_reducible assumption) | assumption)
                     have q307 : x9_2 < (((rd_T74 t298 x8_1).f0).length : Int) := of_decide_eq_true (by first | (with_reducible assumption) | assumption)
                     obtain ⟨ad307, e307, hx307_0, hx307_1⟩ := at_T37 (by repeat (first | (with_reducible exact HR306_0.out) | (with_reducible refine Kd.C_alloc ?_ _) | (with_reducible refine Kd.C_drewN ?_ _) | (with_reducible refine Kd.C_drew ?_) | exact HR306_0.out)) x9_2 p307 q307
                     cases e307
                     replace p307 := eq_true p307
                     replace q307 := eq_true q307
                     try go_wp2
                     have n0_ := Aside0.mk (Kd.S_drew HO_5.out)
                     have n1_ := Aside0.mk (Kd.R_drew HO_7.out)
                     have n2_ := Aside0.mk (Kd.R_drew HL305_0.out)
                     have n3_ := Aside0.mk (Kd.R_drew HL305_1.out)
                     have n4_ := Aside0.mk (Kd.R_drew HL306_0.out)
                     have n5_ := Aside0.mk (Kd.R_drew HL306_1.out)
                     have n6_ := Aside0.mk (blk_drew BK295.out)
                     have n7_ := Aside0.mk (Kd.C_drew HR305_0.out)
                     have n8_ := Aside0.mk (Kd.C_drew HR305_1.out)
                     have n9_ := Aside0.mk (Kd.C_drew HR306_0.out)
                     have n10_ := Aside0.mk (Kd.C_drew HR306_1.out)
                     have n11_ := Aside0.mk (below_drew1 HB.out)
                     clear HO_5
                     clear HO_7
                     clear HL305_0
                     clear HL305_1
                     clear HL306_0
                     clear HL306_1
                     clear BK295
                     clear HR305_0
                     clear HR305_1
                     clear HR306_0
                     clear HR306_1
                     clear HB
                     have HO_5 := n0_
                     have HO_7 := n1_
                     have HL305_0 := n2_
                     have HL305_1 := n3_
                     have HL306_0 := n4_
                     have HL306_1 := n5_
                     have BK295 := n6_
                     have HR305_0 := n7_
                     have HR305_1 := n8_
                     have HR306_0 := n9_
                     have HR306_1 := n10_
                     have HB := n11_
                     clear n0_ n1_ n2_ n3_ n4_ n5_ n6_ n7_ n8_ n9_ n10_ n11_
                     have p319 : 0 ≤ (x8_1 : Int) := of_decide_eq_true (by first | (with_reducible assumption) | assumption)
                     have q319 : x8_1 < (t298.length : Int) := of_decide_eq_true (by first | (with_reducible assumption) | assumption)
                     obtain ⟨ad319, A319_0, c319_0, A319_1, c319_1, e319, hx319_0, hx319_1, hl319_0, hi319_0, hl319_1, hi319_1⟩ := at_T74 (Kd.S_reads' HO_5.out).2.2 x8_1 p319 q319
                     obtain rfl : ad305 = ad319 := (by injection e319)
                     obtain ⟨ce319, hce319, hMe319, hcc319⟩ := Kd.S_get HO_5.out z74 x8_1 p319 (by first | exact q319 | exact of_decide_eq_true (by first | (with_reducible assumption) | assumption) | (have e_ := (Kd.S_reads' HO_5.out).1; omega))
                     obtain ⟨ve319_0, ve319_1, rfl, ge319_0, ge319_1⟩ := k74_openM hMe319
                     have hv319_0 := hcc319 0 _ rfl
                     rw [Nat.add_zero] at hv319_0
                     replace hv319_0 := Option.some.inj (hv319_0.symm.trans hx319_0)
                     rw [hv319_0] at ge319_0
                     have HL319_0 := Aside0.mk (show Kd.R k37 37 _ _ _ _ ((rd_T74 t298 x8_1).f0) from ge319_0)
                     clear hv319_0 ge319_0
                     have hv319_1 := hcc319 1 _ rfl
                     rw [add_field _ _ 1 (by omega)] at hv319_1
                     replace hv319_1 := Option.some.inj (hv319_1.symm.trans hx319_1)
                     rw [hv319_1] at ge319_1
                     have HL319_1 := Aside0.mk (show Kd.R (Kd.int .u64) 76 _ _ _ _ ((rd_T74 t298 x8_1).f1) from ge319_1)
                     clear hv319_1 ge319_1
                     clear hcc319 hce319
                     have HR319_0 := Aside0.mk hi319_0
                     have HC319_0 := Aside0.mk hl319_0
                     clear hi319_0 hl319_0
                     have HR319_1 := Aside0.mk hi319_1
                     have HC319_1 := Aside0.mk hl319_1
                     clear hi319_1 hl319_1
                     replace p319 := eq_true p319
                     replace q319 := eq_true q319
                     have p320 : 0 ≤ (x9_2 : Int) := of_decide_eq_true (by first | (with_reducible assumption) | assumption)
                     have q320 : x9_2 < (((rd_T74 t298 x8_1).f1).length : Int) := of_decide_eq_true (by first | (with_reducible assumption) | assumption)
                     obtain ⟨ad320, e320, hx320_0⟩ := Kd.at_int (by repeat (first | (with_reducible exact HR319_1.out) | (with_reducible refine Kd.C_alloc ?_ _) | (with_reducible refine Kd.C_drewN ?_ _) | (with_reducible refine Kd.C_drew ?_) | exact HR319_1.out)) x9_2 p320 q320
                     cases e320
                     replace p320 := eq_true p320
                     replace q320 := eq_true q320
                     have p321 : 0 ≤ (((rd_T37 ((rd_T74 t298 x8_1).f0) x9_2).f0) : Int) := of_decide_eq_true (by first | (with_reducible assumption) | assumption)
                     have q321 : ((rd_T37 ((rd_T74 t298 x8_1).f0) x9_2).f0) < (l0_3.length : Int) := of_decide_eq_true (by first | (with_reducible assumption) | assumption)
                     obtain ⟨ad321, A321_2, c321_2, e321, hx321_0, hx321_1, hx321_2, hx321_3, hl321_2, hi321_2⟩ := at_T64 HR0_3.out ((rd_T37 ((rd_T74 t298 x8_1).f0) x9_2).f0) p321 q321
                     have hw321_3 := hx321_3
                     have hw321_2 := hx321_2
                     have hw321_1 := hx321_1
                     have hw321_0 := hx321_0
                     cases e321
                     replace hx321_0 := (HB.out.cell (World.block_lt_of_cell? w _ hx321_0)).trans hx321_0
                     replace hx321_1 := (HB.out.cell (World.block_lt_of_cell? w _ hx321_1)).trans hx321_1
                     replace hx321_2 := (HB.out.cell (World.block_lt_of_cell? w _ hx321_2)).trans hx321_2
                     replace hx321_3 := (HB.out.cell (World.block_lt_of_cell? w _ hx321_3)).trans hx321_3
                     have HR321_2 := Aside0.mk hi321_2
                     have HC321_2 := Aside0.mk hl321_2
                     clear hi321_2 hl321_2
                     replace p321 := eq_true p321
                     replace q321 := eq_true q321
                     obtain ⟨Ao52, co52, eo52⟩ := Kd.R_slice HO_7.out
                     (first | subst eo52 | (injection eo52 with f1_ f2_ f3_; have f4_ := f1_.symm; have f5_ := f3_.symm; clear f1_ f2_ f3_; subst f4_; subst f5_))
                     have p322 : 0 ≤ (((rd_T64 l0_3 ((rd_T37 ((rd_T74 t298 x8_1).f0) x9_2).f0)).f1) : Int) := of_decide_eq_true (by first | (with_reducible assumption) | assumption)
                     have q322 : ((rd_T64 l0_3 ((rd_T37 ((rd_T74 t298 x8_1).f0) x9_2).f0)).f1) < (t302.length : Int) := of_decide_eq_true (by first | (with_reducible assumption) | assumption)
                     obtain ⟨ad322, e322, hx322_0⟩ := Kd.at_int (Kd.R_reads' HO_7.out).2.2 ((rd_T64 l0_3 ((rd_T37 ((rd_T74 t298 x8_1).f0) x9_2).f0)).f1) p322 q322
                     cases e322
                     replace p322 := eq_true p322
                     replace q322 := eq_true q322
                     refine start_ (n := 40) (S := fun w' => w'.cell? ⟨gb295, 0, none⟩ = some (.slice A0_0 l0_0.length c0_0) ∧ w'.cell? ⟨gb295, 1, none⟩ = some (.slice A0_1 l0_1.length c0_1) ∧ w'.cell? ⟨gb295, 2, none⟩ = some (.slice A0_2 l0_2.length c0_2) ∧ w'.cell? ⟨gb295, 3, none⟩ = some (.slice (some ad321) l0_3.length c0_3) ∧ w'.cell? ⟨gb295, 4, none⟩ = some (.int .i64 a0_4) ∧ w'.cell? (ad305.add ((x8_1).toNat * 2)) = some (.slice A319_0 ((rd_T74 t298 x8_1).f0).length c319_0) ∧ w'.cell? ⟨(ad305.add ((x8_1).toNat * 2)).block, (ad305.add ((x8_1).toNat * 2)).off + 1, none⟩ = some (.slice (some ad320) ((rd_T74 t298 x8_1).f1).length c319_1) ∧ w'.cell? (ad320.add (x9_2).toNat) = some (.int .u64 (rd ((rd_T74 t298 x8_1).f1) x9_2)) ∧ w'.cell? (ad321.add ((((rd_T37 ((rd_T74 t298 x8_1).f0) x9_2).f0)).toNat * 4)) = some (.string ((rd_T64 l0_3 ((rd_T37 ((rd_T74 t298 x8_1).f0) x9_2).f0)).f0)) ∧ w'.cell? ⟨(ad321.add ((((rd_T37 ((rd_T74 t298 x8_1).f0) x9_2).f0)).toNat * 4)).block, (ad321.add ((((rd_T37 ((rd_T74 t298 x8_1).f0) x9_2).f0)).toNat * 4)).off + 1, none⟩ = some (.int .i64 ((rd_T64 l0_3 ((rd_T37 ((rd_T74 t298 x8_1).f0) x9_2).f0)).f1)) ∧ w'.cell? ⟨(ad321.add ((((rd_T37 ((rd_T74 t298 x8_1).f0) x9_2).f0)).toNat * 4)).block, (ad321.add ((((rd_T37 ((rd_T74 t298 x8_1).f0) x9_2).f0)).toNat * 4)).off + 2, none⟩ = some (.slice A321_2 ((rd_T64 l0_3 ((rd_T37 ((rd_T74 t298 x8_1).f0) x9_2).f0)).f2).length c321_2) ∧ w'.cell? ⟨(ad321.add ((((rd_T37 ((rd_T74 t298 x8_1).f0) x9_2).f0)).toNat * 4)).block, (ad321.add ((((rd_T37 ((rd_T74 t298 x8_1).f0) x9_2).f0)).toNat * 4)).off + 3, none⟩ = some (.int .i64 ((rd_T64 l0_3 ((rd_T37 ((rd_T74 t298 x8_1).f0) x9_2).f0)).f3)) ∧ w'.cell? (ad322.add (((rd_T64 l0_3 ((rd_T37 ((rd_T74 t298 x8_1).f0) x9_2).f0)).f1)).toNat) = some (.int .u64 (rd t302 ((rd_T64 l0_3 ((rd_T37 ((rd_T74 t298 x8_1).f0) x9_2).f0)).f1)))) (ds := []) #[false, false, false, false, false, false, false, false, false, false, false, false, false, false, false, false, false, false, false, false, false, false, false, false, false, false, false, false, false, false, false, false, false, false, false, false, false, false, false, false] (by kernel_rfl) rfl rfl ⟨(blk_cell BK295.out 0).trans rfl, (blk_cell BK295.out 1).trans rfl, (blk_cell BK295.out 2).trans rfl, (blk_cell BK295.out 3).trans rfl, (blk_cell BK295.out 4).trans rfl, hx319_0, hx319_1, hx320_0, ((HB.out.cell (World.block_lt_of_cell? w _ hw321_0)).trans hw321_0), ((HB.out.cell (World.block_lt_of_cell? w _ hw321_1)).trans hw321_1), ((HB.out.cell (World.block_lt_of_cell? w _ hw321_2)).trans hw321_2), ((HB.out.cell (World.block_lt_of_cell? w _ hw321_3)).trans hw321_3), hx322_0⟩ (fun hHeld => ?_); refine with_tabW syntagmlaw15_LookFollows.tab18 syntagmlaw15_LookFollows.bits18 (fun HT_ HW_ => ?_)
                     generalize wr.drew = w51 at HO_5 HO_7 HL305_0 HL305_1 HL306_0 HL306_1 BK295 HR305_0 HR305_1 HR306_0 HR306_1 HB HL319_0 HL319_1 HR319_0 HR319_1 HR321_2 hx319_0 hx319_1 hx320_0 hx321_0 hx321_1 hx321_2 hx321_3 hx322_0 hHeld ⊢
                     refine pure_ (i := 0) (N := some 54) (v := ?_) (a' := ?_) #[true, false, false, false, false, false, false, false, false, false, false, false, false, false, false, false, false, false, false, false, false, false, false, false, false, false, false, false, false, false, false, false, false, false, false, false, false, false, false, false] rfl rfl (any_of HT_.out (by kernel_rfl)) (fun _ _ _ h => h) (Or.inl ⟨by rfl, ?_⟩) ?_ ?_
                     rotate_left
                     ·intro w'
                      go_simp
                      with_reducible rfl
                     rotate_left
                     ·simp only [Act.put, List.setIfInBounds_toArray, List.set_cons_zero, List.set_cons_succ, i64_w, i32_w]
                      rfl
                     refine pure_ (i := 1) (N := some 55) (v := ?_) (a' := ?_) #[true, true, false, false, false, false, false, false, false, false, false, false, false, false, false, false, false, false, false, false, false, false, false, false, false, false, false, false, false, false, false, false, false, false, false, false, false, false, false, false] rfl rfl (any_of HT_.out (by kernel_rfl)) (fun _ _ _ h => h) (Or.inl ⟨by rfl, ?_⟩) ?_ ?_
                     rotate_left
                     ·intro w'
                      go_simp
                      with_reducible rfl
                     rotate_left
                     ·simp only [Act.put, List.setIfInBounds_toArray, List.set_cons_zero, List.set_cons_succ, i64_w, i32_w]
                      rfl
                     refine pure_ (i := 2) (N := some 56) (v := ?_) (a' := ?_) #[true, true, true, false, false, false, false, false, false, false, false, false, false, false, false, false, false, false, false, false, false, false, false, false, false, false, false, false, false, false, false, false, false, false, false, false, false, false, false, false] rfl rfl (any_of HT_.out (by kernel_rfl)) (fun _ _ _ h => h) (Or.inl ⟨by rfl, ?_⟩) ?_ ?_
                     rotate_left
                     ·intro w'
                      go_simp
                      with_reducible rfl
                     rotate_left
                     ·simp only [Act.put, List.setIfInBounds_toArray, List.set_cons_zero, List.set_cons_succ, i64_w, i32_w]
                      rfl
                     refine pure_ (i := 3) (N := some 57) (v := undef) (a' := ?_) #[true, true, true, true, false, false, false, false, false, false, false, false, false, false, false, false, false, false, false, false, false, false, false, false, false, false, false, false, false, false, false, false, false, false, false, false, false, false, false, false] rfl rfl (any_of HT_.out (by kernel_rfl)) (fun _ _ _ h => h) (Or.inr ⟨by rfl, rfl⟩) ?_ ?_
                     rotate_left
                     ·simp only [Act.put, List.setIfInBounds_toArray, List.set_cons_zero, List.set_cons_succ, i64_w, i32_w]
                      rfl
                     refine pure_ (i := 4) (N := some 58) (v := undef) (a' := ?_) #[true, true, true, true, true, false, false, false, false, false, false, false, false, false, false, false, false, false, false, false, false, false, false, false, false, false, false, false, false, false, false, false, false, false, false, false, false, false, false, false] rfl rfl (any_of HT_.out (by kernel_rfl)) (fun _ _ _ h => h) (Or.inr ⟨by rfl, rfl⟩) ?_ ?_
                     rotate_left
                     ·simp only [Act.put, List.setIfInBounds_toArray, List.set_cons_zero, List.set_cons_succ, i64_w, i32_w]
                      rfl
                     refine pure_ (i := 5) (N := some 59) (v := undef) (a' := ?_) #[true, true, true, true, true, true, false, false, false, false, false, false, false, false, false, false, false, false, false, false, false, false, false, false, false, false, false, false, false, false, false, false, false, false, false, false, false, false, false, false] rfl rfl (any_of HT_.out (by kernel_rfl)) (fun _ _ _ h => h) (Or.inr ⟨by rfl, rfl⟩) ?_ ?_
                     rotate_left
                     ·simp only [Act.put, List.setIfInBounds_toArray, List.set_cons_zero, List.set_cons_succ, i64_w, i32_w]
                      rfl
                     refine pure_ (i := 6) (N := some 60) (v := undef) (a' := ?_) #[true, true, true, true, true, true, true, false, false, false, false, false, false, false, false, false, false, false, false, false, false, false, false, false, false, false, false, false, false, false, false, false, false, false, false, false, false, false, false, false] rfl rfl (any_of HT_.out (by kernel_rfl)) (fun _ _ _ h => h) (Or.inr ⟨by rfl, rfl⟩) ?_ ?_
                     rotate_left
                     ·simp only [Act.put, List.setIfInBounds_toArray, List.set_cons_zero, List.set_cons_succ, i64_w, i32_w]
                      rfl
                     refine pure_ (i := 7) (N := some 61) (v := undef) (a' := ?_) #[true, true, true, true, true, true, true, true, false, false, false, false, false, false, false, false, false, false, false, false, false, false, false, false, false, false, false, false, false, false, false, false, false, false, false, false, false, false, false, false] rfl rfl (any_of HT_.out (by kernel_rfl)) (fun _ _ _ h => h) (Or.inr ⟨by rfl, rfl⟩) ?_ ?_
                     rotate_left
                     ·simp only [Act.put, List.setIfInBounds_toArray, List.set_cons_zero, List.set_cons_succ, i64_w, i32_w]
                      rfl
                     refine pure_ (i := 8) (N := some 62) (v := undef) (a' := ?_) #[true, true, true, true, true, true, true, true, true, false, false, false, false, false, false, false, false, false, false, false, false, false, false, false, false, false, false, false, false, false, false, false, false, false, false, false, false, false, false, false] rfl rfl (any_of HT_.out (by kernel_rfl)) (fun _ _ _ h => h) (Or.inr ⟨by rfl, rfl⟩) ?_ ?_
                     rotate_left
                     ·simp only [Act.put, List.setIfInBounds_toArray, List.set_cons_zero, List.set_cons_succ, i64_w, i32_w]
                      rfl
                     refine pure_ (i := 9) (N := some 63) (v := undef) (a' := ?_) #[true, true, true, true, true, true, true, true, true, true, false, false, false, false, false, false, false, false, false, false, false, false, false, false, false, false, false, false, false, false, false, false, false, false, false, false, false, false, false, false] rfl rfl (any_of HT_.out (by kernel_rfl)) (fun _ _ _ h => h) (Or.inr ⟨by rfl, rfl⟩) ?_ ?_
                     rotate_left
                     ·simp only [Act.put, List.setIfInBounds_toArray, List.set_cons_zero, List.set_cons_succ, i64_w, i32_w]
                      rfl
                     refine pure_ (i := 10) (N := some 64) (v := undef) (a' := ?_) #[true, true, true, true, true, true, true, true, true, true, true, false, false, false, false, false, false, false, false, false, false, false, false, false, false, false, false, false, false, false, false, false, false, false, false, false, false, false, false, false] rfl rfl (any_of HT_.out (by kernel_rfl)) (fun _ _ _ h => h) (Or.inr ⟨by rfl, rfl⟩) ?_ ?_
                     rotate_left
                     ·simp only [Act.put, List.setIfInBounds_toArray, List.set_cons_zero, List.set_cons_succ, i64_w, i32_w]
                      rfl
                     refine pure_ (i := 11) (N := some 65) (v := undef) (a' := ?_) #[true, true, true, true, true, true, true, true, true, true, true, true, false, false, false, false, false, false, false, false, false, false, false, false, false, false, false, false, false, false, false, false, false, false, false, false, false, false, false, false] rfl rfl (any_of HT_.out (by kernel_rfl)) (fun _ _ _ h => h) (Or.inr ⟨by rfl, rfl⟩) ?_ ?_
                     rotate_left
                     ·simp only [Act.put, List.setIfInBounds_toArray, List.set_cons_zero, List.set_cons_succ, i64_w, i32_w]
                      rfl
                     refine pure_ (i := 12) (N := some 66) (v := undef) (a' := ?_) #[true, true, true, true, true, true, true, true, true, true, true, true, true, false, false, false, false, false, false, false, false, false, false, false, false, false, false, false, false, false, false, false, false, false, false, false, false, false, false, false] rfl rfl (any_of HT_.out (by kernel_rfl)) (fun _ _ _ h => h) (Or.inr ⟨by rfl, rfl⟩) ?_ ?_
                     rotate_left
                     ·simp only [Act.put, List.setIfInBounds_toArray, List.set_cons_zero, List.set_cons_succ, i64_w, i32_w]
                      rfl
                     refine pure_ (i := 13) (N := some 67) (v := undef) (a' := ?_) #[true, true, true, true, true, true, true, true, true, true, true, true, true, true, false, false, false, false, false, false, false, false, false, false, false, false, false, false, false, false, false, false, false, false, false, false, false, false, false, false] rfl rfl (any_of HT_.out (by kernel_rfl)) (fun _ _ _ h => h) (Or.inr ⟨by rfl, rfl⟩) ?_ ?_
                     rotate_left
                     ·simp only [Act.put, List.setIfInBounds_toArray, List.set_cons_zero, List.set_cons_succ, i64_w, i32_w]
                      rfl
                     refine pure_ (i := 14) (N := some 68) (v := ?_) (a' := ?_) #[true, true, true, true, true, true, true, true, true, true, true, true, true, true, true, false, false, false, false, false, false, false, false, false, false, false, false, false, false, false, false, false, false, false, false, false, false, false, false, false] rfl rfl (any_of HT_.out (by kernel_rfl)) (fun _ _ _ h => h) (Or.inl ⟨by rfl, ?_⟩) ?_ ?_
                     rotate_left
                     ·intro w'
                      go_simp
                      with_reducible rfl
                     rotate_left
                     ·simp only [Act.put, List.setIfInBounds_toArray, List.set_cons_zero, List.set_cons_succ, i64_w, i32_w]
                      rfl
                     refine pure_ (i := 15) (N := some 69) (v := ?_) (a' := ?_) #[true, true, true, true, true, true, true, true, true, true, true, true, true, true, true, true, false, false, false, false, false, false, false, false, false, false, false, false, false, false, false, false, false, false, false, false, false, false, false, false] rfl rfl (any_of HT_.out (by kernel_rfl)) (fun _ _ _ h => h) (Or.inl ⟨by rfl, ?_⟩) ?_ ?_
                     rotate_left
                     ·intro w'
                      go_simp
                      with_reducible rfl
                     rotate_left
                     ·simp only [Act.put, List.setIfInBounds_toArray, List.set_cons_zero, List.set_cons_succ, i64_w, i32_w]
                      rfl
                     refine pure_ (i := 16) (N := some 70) (v := ?_) (a' := ?_) #[true, true, true, true, true, true, true, true, true, true, true, true, true, true, true, true, true, false, false, false, false, false, false, false, false, false, false, false, false, false, false, false, false, false, false, false, false, false, false, false] rfl rfl (any_of HT_.out (by kernel_rfl)) (fun _ _ _ h => h) (Or.inl ⟨by rfl, ?_⟩) ?_ ?_
                     rotate_left
                     ·intro w'
                      go_simp
                      with_reducible rfl
                     rotate_left
                     ·simp only [Act.put, List.setIfInBounds_toArray, List.set_cons_zero, List.set_cons_succ, i64_w, i32_w]
                      rfl
                     refine pure_ (i := 17) (N := some 71) (v := ?_) (a' := ?_) #[true, true, true, true, true, true, true, true, true, true, true, true, true, true, true, true, true, true, false, false, false, false, false, false, false, false, false, false, false, false, false, false, false, false, false, false, false, false, false, false] rfl rfl (any_of HT_.out (by kernel_rfl)) (fun _ _ _ h => h) (Or.inl ⟨by rfl, ?_⟩) ?_ ?_
                     rotate_left
                     ·intro w'
                      go_simp
                      with_reducible rfl
                     rotate_left
                     ·simp only [Act.put, List.setIfInBounds_toArray, List.set_cons_zero, List.set_cons_succ, i64_w, i32_w]
                      rfl
                     refine pure_ (i := 18) (N := some 72) (v := ?_) (a' := ?_) #[true, true, true, true, true, true, true, true, true, true, true, true, true, true, true, true, true, true, true, false, false, false, false, false, false, false, false, false, false, false, false, false, false, false, false, false, false, false, false, false] rfl rfl (any_of HT_.out (by kernel_rfl)) (fun _ _ _ h => h) (Or.inl ⟨by rfl, ?_⟩) ?_ ?_
                     rotate_left
                     ·intro w'
                      go_simp
                      with_reducible rfl
                     rotate_left
                     ·simp only [Act.put, List.setIfInBounds_toArray, List.set_cons_zero, List.set_cons_succ, i64_w, i32_w]
                      rfl
                     refine pure_ (i := 19) (N := some 73) (v := ?_) (a' := ?_) #[true, true, true, true, true, true, true, true, true, true, true, true, true, true, true, true, true, true, true, true, false, false, false, false, false, false, false, false, false, false, false, false, false, false, false, false, false, false, false, false] rfl rfl (any_of HT_.out (by kernel_rfl)) (fun _ _ _ h => h) (Or.inl ⟨by rfl, ?_⟩) ?_ ?_
                     rotate_left
                     ·intro w'
                      go_simp
                      with_reducible rfl
                     rotate_left
                     ·simp only [Act.put, List.setIfInBounds_toArray, List.set_cons_zero, List.set_cons_succ, i64_w, i32_w]
                      rfl
                     refine pure_ (i := 20) (N := some 74) (v := ?_) (a' := ?_) #[true, true, true, true, true, true, true, true, true, true, true, true, true, true, true, true, true, true, true, true, true, false, false, false, false, false, false, false, false, false, false, false, false, false, false, false, false, false, false, false] rfl rfl (any_of HT_.out (by kernel_rfl)) (fun _ _ _ h => h) (Or.inl ⟨by rfl, ?_⟩) ?_ ?_
                     rotate_left
                     ·intro w'
                      go_simp
                      with_reducible rfl
                     rotate_left
                     ·simp only [Act.put, List.setIfInBounds_toArray, List.set_cons_zero, List.set_cons_succ, i64_w, i32_w]
                      rfl
                     refine pure_ (i := 21) (N := some 75) (v := ?_) (a' := ?_) #[true, true, true, true, true, true, true, true, true, true, true, true, true, true, true, true, true, true, true, true, true, true, false, false, false, false, false, false, false, false, false, false, false, false, false, false, false, false, false, false] rfl rfl (any_of HT_.out (by kernel_rfl)) (fun _ _ _ h => h) (Or.inl ⟨by rfl, ?_⟩) ?_ ?_
                     rotate_left
                     ·intro w'
                      go_simp
                      with_reducible rfl
                     rotate_left
                     ·simp only [Act.put, List.setIfInBounds_toArray, List.set_cons_zero, List.set_cons_succ, i64_w, i32_w]
                      rfl
                     refine pure_ (i := 22) (N := some 76) (v := ?_) (a' := ?_) #[true, true, true, true, true, true, true, true, true, true, true, true, true, true, true, true, true, true, true, true, true, true, true, false, false, false, false, false, false, false, false, false, false, false, false, false, false, false, false, false] rfl rfl (any_of HT_.out (by kernel_rfl)) (fun _ _ _ h => h) (Or.inl ⟨by rfl, ?_⟩) ?_ ?_
                     rotate_left
                     ·intro w'
                      go_simp
                      with_reducible rfl
                     rotate_left
                     ·simp only [Act.put, List.setIfInBounds_toArray, List.set_cons_zero, List.set_cons_succ, i64_w, i32_w]
                      rfl
                     refine pure_ (i := 24) (N := some 78) (v := ?_) (a' := ?_) #[true, true, true, true, true, true, true, true, true, true, true, true, true, true, true, true, true, true, true, true, true, true, true, false, true, false, false, false, false, false, false, false, false, false, false, false, false, false, false, false] rfl rfl (any_of HT_.out (by kernel_rfl)) (fun _ _ _ h => h) (Or.inl ⟨by rfl, ?_⟩) ?_ ?_
                     rotate_left
                     ·intro w'
                      go_simp
                      with_reducible rfl
                     rotate_left
                     ·simp only [Act.put, List.setIfInBounds_toArray, List.set_cons_zero, List.set_cons_succ, i64_w, i32_w]
                      rfl
                     refine pure_ (i := 27) (N := some 81) (v := ?_) (a' := ?_) #[true, true, true, true, true, true, true, true, true, true, true, true, true, true, true, true, true, true, true, true, true, true, true, false, true, false, false, true, false, false, false, false, false, false, false, false, false, false, false, false] rfl rfl (any_of HT_.out (by kernel_rfl)) (fun _ _ _ h => h) (Or.inl ⟨by rfl, ?_⟩) ?_ ?_
                     rotate_left
                     ·intro w'
                      go_simp
                      with_reducible rfl
                     rotate_left
                     ·simp only [Act.put, List.setIfInBounds_toArray, List.set_cons_zero, List.set_cons_succ, i64_w, i32_w]
                      rfl
                     refine pure_ (i := 28) (N := some 82) (v := ?_) (a' := ?_) #[true, true, true, true, true, true, true, true, true, true, true, true, true, true, true, true, true, true, true, true, true, true, true, false, true, false, false, true, true, false, false, false, false, false, false, false, false, false, false, false] rfl rfl (any_of HT_.out (by kernel_rfl)) (fun _ _ _ h => h) (Or.inl ⟨by rfl, ?_⟩) ?_ ?_
                     rotate_left
                     ·intro w'
                      go_simp
                      with_reducible rfl
                     rotate_left
                     ·simp only [Act.put, List.setIfInBounds_toArray, List.set_cons_zero, List.set_cons_succ, i64_w, i32_w]
                      rfl
                     refine pure_ (i := 30) (N := some 84) (v := ?_) (a' := ?_) #[true, true, true, true, true, true, true, true, true, true, true, true, true, true, true, true, true, true, true, true, true, true, true, false, true, false, false, true, true, false, true, false, false, false, false, false, false, false, false, false] rfl rfl (any_of HT_.out (by kernel_rfl)) (fun _ _ _ h => h) (Or.inl ⟨by rfl, ?_⟩) ?_ ?_
                     rotate_left
                     ·intro w'
                      go_simp
                      with_reducible rfl
                     rotate_left
                     ·simp only [Act.put, List.setIfInBounds_toArray, List.set_cons_zero, List.set_cons_succ, i64_w, i32_w]
                      rfl
                     refine take_ (i := 23) (N := some 77) (v := ?_) (a' := ?_) #[true, true, true, true, true, true, true, true, true, true, true, true, true, true, true, true, true, true, true, true, true, true, true, true, true, false, false, true, true, false, true, false, false, false, false, false, false, false, false, false] rfl rfl (take_ofW HT_.out HW_.out (by kernel_rfl)) (fun _ _ _ h => h) (Or.inl ⟨by rfl, ?_⟩) hHeld ?_ ?_
                     rotate_left
                     ·rintro w' ⟨s0, s1, s2, s3, s4, s5, s6, s7, s8, s9, s10, s11, s12⟩
                      go_simp
                      with_reducible rfl
                     rotate_left
                     ·simp only [Act.put, List.setIfInBounds_toArray, List.set_cons_zero, List.set_cons_succ, i64_w, i32_w]
                      rfl
                     refine pure_ (i := 25) (N := some 79) (v := ?_) (a' := ?_) #[true, true, true, true, true, true, true, true, true, true, true, true, true, true, true, true, true, true, true, true, true, true, true, true, true, true, false, true, true, false, true, false, false, false, false, false, false, false, false, false] rfl rfl (any_of HT_.out (by kernel_rfl)) (fun _ _ _ h => h) (Or.inl ⟨by rfl, ?_⟩) ?_ ?_
                     rotate_left
                     ·intro w'
                      go_simp
                      with_reducible rfl
                     rotate_left
                     ·simp only [Act.put, List.setIfInBounds_toArray, List.set_cons_zero, List.set_cons_succ, i64_w, i32_w]
                      rfl
                     refine take_ (i := 26) (N := some 80) (v := ?_) (a' := ?_) #[true, true, true, true, true, true, true, true, true, true, true, true, true, true, true, true, true, true, true, true, true, true, true, true, true, true, true, true, true, false, true, false, false, false, false, false, false, false, false, false] rfl rfl (take_ofW HT_.out HW_.out (by kernel_rfl)) (fun _ _ _ h => h) (Or.inl ⟨by rfl, ?_⟩) hHeld ?_ ?_
                     rotate_left
                     ·rintro w' ⟨s0, s1, s2, s3, s4, s5, s6, s7, s8, s9, s10, s11, s12⟩
                      go_simp
                      with_reducible rfl
                     rotate_left
                     ·simp only [Act.put, List.setIfInBounds_toArray, List.set_cons_zero, List.set_cons_succ, i64_w, i32_w]
                      rfl
                     refine take_ (i := 29) (N := some 83) (v := ?_) (a' := ?_) #[true, true, true, true, true, true, true, true, true, true, true, true, true, true, true, true, true, true, true, true, true, true, true, true, true, true, true, true, true, true, true, false, false, false, false, false, false, false, false, false] rfl rfl (take_ofW HT_.out HW_.out (by kernel_rfl)) (fun _ _ _ h => h) (Or.inl ⟨by rfl, ?_⟩) hHeld ?_ ?_
                     rotate_left
                     ·rintro w' ⟨s0, s1, s2, s3, s4, s5, s6, s7, s8, s9, s10, s11, s12⟩
                      go_simp
                      with_reducible rfl
                     rotate_left
                     ·simp only [Act.put, List.setIfInBounds_toArray, List.set_cons_zero, List.set_cons_succ, i64_w, i32_w]
                      rfl
                     refine pure_ (i := 31) (N := some 85) (v := ?_) (a' := ?_) #[true, true, true, true, true, true, true, true, true, true, true, true, true, true, true, true, true, true, true, true, true, true, true, true, true, true, true, true, true, true, true, true, false, false, false, false, false, false, false, false] rfl rfl (any_of HT_.out (by kernel_rfl)) (fun _ _ _ h => h) (Or.inl ⟨by rfl, ?_⟩) ?_ ?_
                     rotate_left
                     ·intro w'
                      go_simp
                      with_reducible rfl
                     rotate_left
                     ·simp only [Act.put, List.setIfInBounds_toArray, List.set_cons_zero, List.set_cons_succ, i64_w, i32_w]
                      rfl
                     refine pure_ (i := 32) (N := some 86) (v := ?_) (a' := ?_) #[true, true, true, true, true, true, true, true, true, true, true, true, true, true, true, true, true, true, true, true, true, true, true, true, true, true, true, true, true, true, true, true, true, false, false, false, false, false, false, false] rfl rfl (any_of HT_.out (by kernel_rfl)) (fun _ _ _ h => h) (Or.inl ⟨by rfl, ?_⟩) ?_ ?_
                     rotate_left
                     ·intro w'
                      go_simp
                      with_reducible rfl
                     rotate_left
                     ·simp only [Act.put, List.setIfInBounds_toArray, List.set_cons_zero, List.set_cons_succ, i64_w, i32_w]
                      rfl
                     refine take_ (i := 33) (N := some 87) (v := ?_) (a' := ?_) #[true, true, true, true, true, true, true, true, true, true, true, true, true, true, true, true, true, true, true, true, true, true, true, true, true, true, true, true, true, true, true, true, true, true, false, false, false, false, false, false] rfl rfl (take_ofW HT_.out HW_.out (by kernel_rfl)) (fun _ _ _ h => h) (Or.inl ⟨by rfl, ?_⟩) hHeld ?_ ?_
                     rotate_left
                     ·rintro w' ⟨s0, s1, s2, s3, s4, s5, s6, s7, s8, s9, s10, s11, s12⟩
                      go_simp
                      with_reducible rfl
                     rotate_left
                     ·simp only [Act.put, List.setIfInBounds_toArray, List.set_cons_zero, List.set_cons_succ, i64_w, i32_w]
                      rfl
                     refine pure_ (i := 34) (N := some 88) (v := ?_) (a' := ?_) #[true, true, true, true, true, true, true, true, true, true, true, true, true, true, true, true, true, true, true, true, true, true, true, true, true, true, true, true, true, true, true, true, true, true, true, false, false, false, false, false] rfl rfl (any_of HT_.out (by kernel_rfl)) (fun _ _ _ h => h) (Or.inl ⟨by rfl, ?_⟩) ?_ ?_
                     rotate_left
                     ·intro w'
                      go_simp
                      with_reducible rfl
                     rotate_left
                     ·simp only [Act.put, List.setIfInBounds_toArray, List.set_cons_zero, List.set_cons_succ, i64_w, i32_w]
                      rfl
                     refine take_ (i := 35) (N := some 89) (v := ?_) (a' := ?_) #[true, true, true, true, true, true, true, true, true, true, true, true, true, true, true, true, true, true, true, true, true, true, true, true, true, true, true, true, true, true, true, true, true, true, true, true, false, false, false, false] rfl rfl (take_ofW HT_.out HW_.out (by kernel_rfl)) (fun _ _ _ h => h) (Or.inl ⟨by rfl, ?_⟩) hHeld ?_ ?_
                     rotate_left
                     ·rintro w' ⟨s0, s1, s2, s3, s4, s5, s6, s7, s8, s9, s10, s11, s12⟩
                      go_simp
                      with_reducible rfl
                     rotate_left
                     ·simp only [Act.put, List.setIfInBounds_toArray, List.set_cons_zero, List.set_cons_succ, i64_w, i32_w]
                      rfl
                     refine one_ (i := 36) (N := some 90) #[true, true, true, true, true, true, true, true, true, true, true, true, true, true, true, true, true, true, true, true, true, true, true, true, true, true, true, true, true, true, true, true, true, true, true, true, true, false, false, false] rfl rfl (one_of HT_.out (by kernel_rfl)) (by decide) (fun K hK => ?_)
                     refine goes_ Tryd.func33 (by kernel_rfl) rfl #[.int .u64 (rd ((rd_T74 t298 x8_1).f1) x9_2), .int .u64 (rd t302 ((rd_T64 l0_3 ((rd_T37 ((rd_T74 t298 x8_1).f0) x9_2).f0)).f1))] (by rfl) rfl rfl (by (try simp only [List.map_toArray, List.map_cons, List.map_nil]); first | done | rfl | (simp only [List.length_drop, List.length_take]; rfl)) ?_
                     with_reducible refine (bits_In.calls (rd ((rd_T74 t298 x8_1).f1) x9_2) (rd t302 ((rd_T64 l0_3 ((rd_T37 ((rd_T74 t298 x8_1).f0) x9_2).f0)).f1)) true _ A49.out).mono ?_
                     rintro e w' ⟨rfl, ⟨nd, rfl⟩⟩
                     refine ⟨_, rfl, ?_⟩
                     refine hK.out _ _ ⟨(blk_cell BK295.out 0).trans rfl, (blk_cell BK295.out 1).trans rfl, (blk_cell BK295.out 2).trans rfl, (blk_cell BK295.out 3).trans rfl, (blk_cell BK295.out 4).trans rfl, hHeld.2.2.2.2.2.1, hHeld.2.2.2.2.2.2.1, hHeld.2.2.2.2.2.2.2.1, ((HB.out.cell (World.block_lt_of_cell? w _ hw321_0)).trans hw321_0), ((HB.out.cell (World.block_lt_of_cell? w _ hw321_1)).trans hw321_1), ((HB.out.cell (World.block_lt_of_cell? w _ hw321_2)).trans hw321_2), ((HB.out.cell (World.block_lt_of_cell? w _ hw321_3)).trans hw321_3), hHeld.2.2.2.2.2.2.2.2.2.2.2.2⟩ (fun hHeld => ?_)
                     clear hK K
                     refine norm_ (a' := ?_) ?_ ?_
                     rotate_left
                     ·show Act.put _ (some 90) _ = _
                      simp only [Act.put, List.setIfInBounds_toArray, List.set_cons_zero, List.set_cons_succ, i64_w, i32_w]
                      rfl
                     refine pure_ (i := 37) (N := some 91) (v := ?_) (a' := ?_) #[true, true, true, true, true, true, true, true, true, true, true, true, true, true, true, true, true, true, true, true, true, true, true, true, true, true, true, true, true, true, true, true, true, true, true, true, true, true, false, false] rfl rfl (any_of HT_.out (by kernel_rfl)) (fun _ _ _ h => h) (Or.inl ⟨by rfl, ?_⟩) ?_ ?_
                     rotate_left
                     ·intro w'
                      go_simp
                      with_reducible rfl
                     rotate_left
                     ·simp only [Act.put, List.setIfInBounds_toArray, List.set_cons_zero, List.set_cons_succ, i64_w, i32_w]
                      rfl
                     refine pure_ (i := 38) (N := some 92) (v := ?_) (a' := ?_) #[true, true, true, true, true, true, true, true, true, true, true, true, true, true, true, true, true, true, true, true, true, true, true, true, true, true, true, true, true, true, true, true, true, true, true, true, true, true, true, false] rfl rfl (any_of HT_.out (by kernel_rfl)) (fun _ _ _ h => h) (Or.inl ⟨by rfl, ?_⟩) ?_ ?_
                     rotate_left
                     ·intro w'
                      go_simp
                      with_reducible rfl
                     rotate_left
                     ·simp only [Act.put, List.setIfInBounds_toArray, List.set_cons_zero, List.set_cons_succ, i64_w, i32_w]
                      rfl
                     refine pure_ (i := 39) (N := some 93) (v := ?_) (a' := ?_) #[true, true, true, true, true, true, true, true, true, true, true, true, true, true, true, true, true, true, true, true, true, true, true, true, true, true, true, true, true, true, true, true, true, true, true, true, true, true, true, true] rfl rfl (any_of HT_.out (by kernel_rfl)) (fun _ _ _ h => h) (Or.inl ⟨by rfl, ?_⟩) ?_ ?_
                     rotate_left
                     ·intro w'
                      go_simp
                      with_reducible rfl
                     rotate_left
                     ·simp only [Act.put, List.setIfInBounds_toArray, List.set_cons_zero, List.set_cons_succ, i64_w, i32_w]
                      rfl
                     refine done_ (done_of HT_.out (by kernel_rfl)) ?_
                     try go_wp2
                     go_roundg k2
                     case measure => have := HK1.out; have := HK2.out; omega
                     case rel => exact ⟨(wrap64 (x9_2 + 1)), (by first | rfl | (simp; done) | (simp [*]; done)), H', ⟨by have := HK1.out; have := HK2.out; omega⟩, ⟨by (with_reducible repeat (first | apply Kd.S_alloc | apply Kd.S_drewN | apply Kd.S_drew)); exact HO_5.out⟩, ⟨by (with_reducible repeat (first | apply Kd.R_alloc | apply Kd.R_drewN | apply Kd.R_drew)); exact HO_7.out⟩, ⟨by (with_reducible repeat (first | refine blk_drewN ?_ _ | refine blk_drew ?_ | refine blk_alloc ?_ _)); exact BK295.out⟩, ⟨by repeat (first | (with_reducible first | exact HB.out | apply below_alloc | apply pw_below_drewN | apply below_drew1 | refine below_set ?_ GE295.out) | exact HB.out)⟩⟩
                    ·replace c50 := Bool.eq_false_iff.mpr c50
                     subst c50
                     have H1 : (some false) = some r := by rw [if_neg (show ¬ (false = true) by decide)] at H; exact H
                     clear H
                     have H := H1
                     clear H1
                     exact absurd ((Option.some.inj H).trans HT.out) (by decide)
                   ·rw [if_neg c48] at H
                    exact absurd H (by simp)
                  ·rw [if_neg c47] at H
                   exact absurd H (by simp)
                 ·rw [if_neg c46] at H
                  exact absurd H (by simp)
                ·rw [if_neg c45] at H
                 exact absurd H (by simp)
               ·rw [if_neg c44] at H
                exact absurd H (by simp)
              ·rw [if_neg c43] at H
               have c43b0 : decide (0 ≤ ((rd_T37 ((rd_T74 t298 x8_1).f0) x9_2).f0)) = false := decide_eq_false c43
               clear c43
               have H' := Aside0.mk H
               clear H
               have p305 : 0 ≤ (x8_1 : Int) := of_decide_eq_true (by first | (with_reducible assumption) | assumption)
               have q305 : x8_1 < (t298.length : Int) := of_decide_eq_true (by first | (with_reducible assumption) | assumption)
               obtain ⟨ad305, A305_0, c305_0, A305_1, c305_1, e305, hx305_0, hx305_1, hl305_0, hi305_0, hl305_1, hi305_1⟩ := at_T74 (Kd.S_reads' HO_5.out).2.2 x8_1 p305 q305
               cases e305
               obtain ⟨ce305, hce305, hMe305, hcc305⟩ := Kd.S_get HO_5.out z74 x8_1 p305 (by first | exact q305 | exact of_decide_eq_true (by first | (with_reducible assumption) | assumption) | (have e_ := (Kd.S_reads' HO_5.out).1; omega))
               obtain ⟨ve305_0, ve305_1, rfl, ge305_0, ge305_1⟩ := k74_openM hMe305
               have hv305_0 := hcc305 0 _ rfl
               rw [Nat.add_zero] at hv305_0
               replace hv305_0 := Option.some.inj (hv305_0.symm.trans hx305_0)
               rw [hv305_0] at ge305_0
               have HL305_0 := Aside0.mk (show Kd.R k37 37 _ _ _ _ ((rd_T74 t298 x8_1).f0) from ge305_0)
               clear hv305_0 ge305_0
               have hv305_1 := hcc305 1 _ rfl
               rw [add_field _ _ 1 (by omega)] at hv305_1
               replace hv305_1 := Option.some.inj (hv305_1.symm.trans hx305_1)
               rw [hv305_1] at ge305_1
               have HL305_1 := Aside0.mk (show Kd.R (Kd.int .u64) 76 _ _ _ _ ((rd_T74 t298 x8_1).f1) from ge305_1)
               clear hv305_1 ge305_1
               clear hcc305 hce305
               have HR305_0 := Aside0.mk hi305_0
               have HC305_0 := Aside0.mk hl305_0
               clear hi305_0 hl305_0
               have HR305_1 := Aside0.mk hi305_1
               have HC305_1 := Aside0.mk hl305_1
               clear hi305_1 hl305_1
               replace p305 := eq_true p305
               replace q305 := eq_true q305
               have p306 : 0 ≤ (x8_1 : Int) := of_decide_eq_true (by first | (with_reducible assumption) | assumption)
               have q306 : x8_1 < (t298.length : Int) := of_decide_eq_true (by first | (with_reducible assumption) | assumption)
               obtain ⟨ad306, A306_0, c306_0, A306_1, c306_1, e306, hx306_0, hx306_1, hl306_0, hi306_0, hl306_1, hi306_1⟩ := at_T74 (Kd.S_reads' HO_5.out).2.2 x8_1 p306 q306
               obtain rfl : ad305 = ad306 := (by injection e306)
               obtain ⟨ce306, hce306, hMe306, hcc306⟩ := Kd.S_get HO_5.out z74 x8_1 p306 (by first | exact q306 | exact of_decide_eq_true (by first | (with_reducible assumption) | assumption) | (have e_ := (Kd.S_reads' HO_5.out).1; omega))
               obtain ⟨ve306_0, ve306_1, rfl, ge306_0, ge306_1⟩ := k74_openM hMe306
               have hv306_0 := hcc306 0 _ rfl
               rw [Nat.add_zero] at hv306_0
               replace hv306_0 := Option.some.inj (hv306_0.symm.trans hx306_0)
               rw [hv306_0] at ge306_0
               have HL306_0 := Aside0.mk (show Kd.R k37 37 _ _ _ _ ((rd_T74 t298 x8_1).f0) from ge306_0)
               clear hv306_0 ge306_0
               have hv306_1 := hcc306 1 _ rfl
               rw [add_field _ _ 1 (by omega)] at hv306_1
               replace hv306_1 := Option.some.inj (hv306_1.symm.trans hx306_1)
               rw [hv306_1] at ge306_1
               have HL306_1 := Aside0.mk (show Kd.R (Kd.int .u64) 76 _ _ _ _ ((rd_T74 t298 x8_1).f1) from ge306_1)
               clear hv306_1 ge306_1
               clear hcc306 hce306
               have HR306_0 := Aside0.mk hi306_0
               have HC306_0 := Aside0.mk hl306_0
               clear hi306_0 hl306_0
               have HR306_1 := Aside0.mk hi306_1
               have HC306_1 := Aside0.mk hl306_1
               clear hi306_1 hl306_1
               replace p306 := eq_true p306
               replace q306 := eq_true q306
               have ea_ := Option.some.inj (hx305_0.symm.trans hx306_0)
               injection ea_ with ea_ en_ ec_
               subst ea_
               subst ec_
               clear en_
               have ea_ := Option.some.inj (hx305_1.symm.trans hx306_1)
               injection ea_ with ea_ en_ ec_
               subst ea_
               subst ec_
               clear en_
               have p307 : 0 ≤ (x9_2 : Int) := of_decide_eq_true (by first | (with_reducible assumption) | assumption)
               have q307 : x9_2 < (((rd_T74 t298 x8_1).f0).length : Int) := of_decide_eq_true (by first | (with_reducible assumption) | assumption)
               obtain ⟨ad307, e307, hx307_0, hx307_1⟩ := at_T37 (by repeat (first | (with_reducible exact HR306_0.out) | (with_reducible refine Kd.C_alloc ?_ _) | (with_reducible refine Kd.C_drewN ?_ _) | (with_reducible refine Kd.C_drew ?_) | exact HR306_0.out)) x9_2 p307 q307
               cases e307
               replace p307 := eq_true p307
               replace q307 := eq_true q307
               try go_wp2
               have n0_ := Aside0.mk (Kd.S_drew HO_5.out)
               have n1_ := Aside0.mk (Kd.R_drew HO_7.out)
               have n2_ := Aside0.mk (Kd.R_drew HL305_0.out)
               have n3_ := Aside0.mk (Kd.R_drew HL305_1.out)
               have n4_ := Aside0.mk (Kd.R_drew HL306_0.out)
               have n5_ := Aside0.mk (Kd.R_drew HL306_1.out)
               have n6_ := Aside0.mk (blk_drew BK295.out)
               have n7_ := Aside0.mk (Kd.C_drew HR305_0.out)
               have n8_ := Aside0.mk (Kd.C_drew HR305_1.out)
               have n9_ := Aside0.mk (Kd.C_drew HR306_0.out)
               have n10_ := Aside0.mk (Kd.C_drew HR306_1.out)
               have n11_ := Aside0.mk (below_drew1 HB.out)
               clear HO_5
               clear HO_7
               clear HL305_0
               clear HL305_1
               clear HL306_0
               clear HL306_1
               clear BK295
               clear HR305_0
               clear HR305_1
               clear HR306_0
               clear HR306_1
               clear HB
               have HO_5 := n0_
               have HO_7 := n1_
               have HL305_0 := n2_
               have HL305_1 := n3_
               have HL306_0 := n4_
               have HL306_1 := n5_
               have BK295 := n6_
               have HR305_0 := n7_
               have HR305_1 := n8_
               have HR306_0 := n9_
               have HR306_1 := n10_
               have HB := n11_
               clear n0_ n1_ n2_ n3_ n4_ n5_ n6_ n7_ n8_ n9_ n10_ n11_
               refine start_ (n := 40) (S := fun w' => True) (ds := []) #[false, false, false, false, false, false, false, false, false, false, false, false, false, false, false, false, false, false, false, false, false, false, false, false, false, false, false, false, false, false, false, false, false, false, false, false, false, false, false, false] (by kernel_rfl) rfl rfl trivial (fun hHeld => ?_); refine with_tabW syntagmlaw15_LookFollows.tab18 syntagmlaw15_LookFollows.bits18 (fun HT_ HW_ => ?_)
               generalize wr.drew = w53 at HO_5 HO_7 HL305_0 HL305_1 HL306_0 HL306_1 BK295 HR305_0 HR305_1 HR306_0 HR306_1 HB hHeld ⊢
               refine pure_ (i := 0) (N := some 54) (v := ?_) (a' := ?_) #[true, false, false, false, false, false, false, false, false, false, false, false, false, false, false, false, false, false, false, false, false, false, false, false, false, false, false, false, false, false, false, false, false, false, false, false, false, false, false, false] rfl rfl (any_of HT_.out (by kernel_rfl)) (fun _ _ _ h => h) (Or.inl ⟨by rfl, ?_⟩) ?_ ?_
               rotate_left
               ·intro w'
                go_simp
                with_reducible rfl
               rotate_left
               ·simp only [Act.put, List.setIfInBounds_toArray, List.set_cons_zero, List.set_cons_succ, i64_w, i32_w]
                rfl
               refine pure_ (i := 1) (N := some 55) (v := ?_) (a' := ?_) #[true, true, false, false, false, false, false, false, false, false, false, false, false, false, false, false, false, false, false, false, false, false, false, false, false, false, false, false, false, false, false, false, false, false, false, false, false, false, false, false] rfl rfl (any_of HT_.out (by kernel_rfl)) (fun _ _ _ h => h) (Or.inl ⟨by rfl, ?_⟩) ?_ ?_
               rotate_left
               ·intro w'
                go_simp
                with_reducible rfl
               rotate_left
               ·simp only [Act.put, List.setIfInBounds_toArray, List.set_cons_zero, List.set_cons_succ, i64_w, i32_w]
                rfl
               refine pure_ (i := 2) (N := some 56) (v := ?_) (a' := ?_) #[true, true, true, false, false, false, false, false, false, false, false, false, false, false, false, false, false, false, false, false, false, false, false, false, false, false, false, false, false, false, false, false, false, false, false, false, false, false, false, false] rfl rfl (any_of HT_.out (by kernel_rfl)) (fun _ _ _ h => h) (Or.inl ⟨by rfl, ?_⟩) ?_ ?_
               rotate_left
               ·intro w'
                go_simp
                with_reducible rfl
               rotate_left
               ·simp only [Act.put, List.setIfInBounds_toArray, List.set_cons_zero, List.set_cons_succ, i64_w, i32_w]
                rfl
               refine pure_ (i := 3) (N := some 57) (v := undef) (a' := ?_) #[true, true, true, true, false, false, false, false, false, false, false, false, false, false, false, false, false, false, false, false, false, false, false, false, false, false, false, false, false, false, false, false, false, false, false, false, false, false, false, false] rfl rfl (any_of HT_.out (by kernel_rfl)) (fun _ _ _ h => h) (Or.inr ⟨by rfl, rfl⟩) ?_ ?_
               rotate_left
               ·simp only [Act.put, List.setIfInBounds_toArray, List.set_cons_zero, List.set_cons_succ, i64_w, i32_w]
                rfl
               refine pure_ (i := 4) (N := some 58) (v := undef) (a' := ?_) #[true, true, true, true, true, false, false, false, false, false, false, false, false, false, false, false, false, false, false, false, false, false, false, false, false, false, false, false, false, false, false, false, false, false, false, false, false, false, false, false] rfl rfl (any_of HT_.out (by kernel_rfl)) (fun _ _ _ h => h) (Or.inr ⟨by rfl, rfl⟩) ?_ ?_
               rotate_left
               ·simp only [Act.put, List.setIfInBounds_toArray, List.set_cons_zero, List.set_cons_succ, i64_w, i32_w]
                rfl
               refine pure_ (i := 5) (N := some 59) (v := undef) (a' := ?_) #[true, true, true, true, true, true, false, false, false, false, false, false, false, false, false, false, false, false, false, false, false, false, false, false, false, false, false, false, false, false, false, false, false, false, false, false, false, false, false, false] rfl rfl (any_of HT_.out (by kernel_rfl)) (fun _ _ _ h => h) (Or.inr ⟨by rfl, rfl⟩) ?_ ?_
               rotate_left
               ·simp only [Act.put, List.setIfInBounds_toArray, List.set_cons_zero, List.set_cons_succ, i64_w, i32_w]
                rfl
               refine pure_ (i := 6) (N := some 60) (v := undef) (a' := ?_) #[true, true, true, true, true, true, true, false, false, false, false, false, false, false, false, false, false, false, false, false, false, false, false, false, false, false, false, false, false, false, false, false, false, false, false, false, false, false, false, false] rfl rfl (any_of HT_.out (by kernel_rfl)) (fun _ _ _ h => h) (Or.inr ⟨by rfl, rfl⟩) ?_ ?_
               rotate_left
               ·simp only [Act.put, List.setIfInBounds_toArray, List.set_cons_zero, List.set_cons_succ, i64_w, i32_w]
                rfl
               refine pure_ (i := 7) (N := some 61) (v := undef) (a' := ?_) #[true, true, true, true, true, true, true, true, false, false, false, false, false, false, false, false, false, false, false, false, false, false, false, false, false, false, false, false, false, false, false, false, false, false, false, false, false, false, false, false] rfl rfl (any_of HT_.out (by kernel_rfl)) (fun _ _ _ h => h) (Or.inr ⟨by rfl, rfl⟩) ?_ ?_
               rotate_left
               ·simp only [Act.put, List.setIfInBounds_toArray, List.set_cons_zero, List.set_cons_succ, i64_w, i32_w]
                rfl
               refine pure_ (i := 8) (N := some 62) (v := undef) (a' := ?_) #[true, true, true, true, true, true, true, true, true, false, false, false, false, false, false, false, false, false, false, false, false, false, false, false, false, false, false, false, false, false, false, false, false, false, false, false, false, false, false, false] rfl rfl (any_of HT_.out (by kernel_rfl)) (fun _ _ _ h => h) (Or.inr ⟨by rfl, rfl⟩) ?_ ?_
               rotate_left
               ·simp only [Act.put, List.setIfInBounds_toArray, List.set_cons_zero, List.set_cons_succ, i64_w, i32_w]
                rfl
               refine pure_ (i := 9) (N := some 63) (v := undef) (a' := ?_) #[true, true, true, true, true, true, true, true, true, true, false, false, false, false, false, false, false, false, false, false, false, false, false, false, false, false, false, false, false, false, false, false, false, false, false, false, false, false, false, false] rfl rfl (any_of HT_.out (by kernel_rfl)) (fun _ _ _ h => h) (Or.inr ⟨by rfl, rfl⟩) ?_ ?_
               rotate_left
               ·simp only [Act.put, List.setIfInBounds_toArray, List.set_cons_zero, List.set_cons_succ, i64_w, i32_w]
                rfl
               refine pure_ (i := 10) (N := some 64) (v := undef) (a' := ?_) #[true, true, true, true, true, true, true, true, true, true, true, false, false, false, false, false, false, false, false, false, false, false, false, false, false, false, false, false, false, false, false, false, false, false, false, false, false, false, false, false] rfl rfl (any_of HT_.out (by kernel_rfl)) (fun _ _ _ h => h) (Or.inr ⟨by rfl, rfl⟩) ?_ ?_
               rotate_left
               ·simp only [Act.put, List.setIfInBounds_toArray, List.set_cons_zero, List.set_cons_succ, i64_w, i32_w]
                rfl
               refine pure_ (i := 11) (N := some 65) (v := undef) (a' := ?_) #[true, true, true, true, true, true, true, true, true, true, true, true, false, false, false, false, false, false, false, false, false, false, false, false, false, false, false, false, false, false, false, false, false, false, false, false, false, false, false, false] rfl rfl (any_of HT_.out (by kernel_rfl)) (fun _ _ _ h => h) (Or.inr ⟨by rfl, rfl⟩) ?_ ?_
               rotate_left
               ·simp only [Act.put, List.setIfInBounds_toArray, List.set_cons_zero, List.set_cons_succ, i64_w, i32_w]
                rfl
               refine pure_ (i := 12) (N := some 66) (v := undef) (a' := ?_) #[true, true, true, true, true, true, true, true, true, true, true, true, true, false, false, false, false, false, false, false, false, false, false, false, false, false, false, false, false, false, false, false, false, false, false, false, false, false, false, false] rfl rfl (any_of HT_.out (by kernel_rfl)) (fun _ _ _ h => h) (Or.inr ⟨by rfl, rfl⟩) ?_ ?_
               rotate_left
               ·simp only [Act.put, List.setIfInBounds_toArray, List.set_cons_zero, List.set_cons_succ, i64_w, i32_w]
                rfl
               refine pure_ (i := 13) (N := some 67) (v := undef) (a' := ?_) #[true, true, true, true, true, true, true, true, true, true, true, true, true, true, false, false, false, false, false, false, false, false, false, false, false, false, false, false, false, false, false, false, false, false, false, false, false, false, false, false] rfl rfl (any_of HT_.out (by kernel_rfl)) (fun _ _ _ h => h) (Or.inr ⟨by rfl, rfl⟩) ?_ ?_
               rotate_left
               ·simp only [Act.put, List.setIfInBounds_toArray, List.set_cons_zero, List.set_cons_succ, i64_w, i32_w]
                rfl
               refine pure_ (i := 14) (N := some 68) (v := ?_) (a' := ?_) #[true, true, true, true, true, true, true, true, true, true, true, true, true, true, true, false, false, false, false, false, false, false, false, false, false, false, false, false, false, false, false, false, false, false, false, false, false, false, false, false] rfl rfl (any_of HT_.out (by kernel_rfl)) (fun _ _ _ h => h) (Or.inl ⟨by rfl, ?_⟩) ?_ ?_
               rotate_left
               ·intro w'
                go_simp
                with_reducible rfl
               rotate_left
               ·simp only [Act.put, List.setIfInBounds_toArray, List.set_cons_zero, List.set_cons_succ, i64_w, i32_w]
                rfl
               refine pure_ (i := 15) (N := some 69) (v := ?_) (a' := ?_) #[true, true, true, true, true, true, true, true, true, true, true, true, true, true, true, true, false, false, false, false, false, false, false, false, false, false, false, false, false, false, false, false, false, false, false, false, false, false, false, false] rfl rfl (any_of HT_.out (by kernel_rfl)) (fun _ _ _ h => h) (Or.inl ⟨by rfl, ?_⟩) ?_ ?_
               rotate_left
               ·intro w'
                go_simp
                with_reducible rfl
               rotate_left
               ·simp only [Act.put, List.setIfInBounds_toArray, List.set_cons_zero, List.set_cons_succ, i64_w, i32_w]
                rfl
               refine pure_ (i := 16) (N := some 70) (v := ?_) (a' := ?_) #[true, true, true, true, true, true, true, true, true, true, true, true, true, true, true, true, true, false, false, false, false, false, false, false, false, false, false, false, false, false, false, false, false, false, false, false, false, false, false, false] rfl rfl (any_of HT_.out (by kernel_rfl)) (fun _ _ _ h => h) (Or.inl ⟨by rfl, ?_⟩) ?_ ?_
               rotate_left
               ·intro w'
                go_simp
                with_reducible rfl
               rotate_left
               ·simp only [Act.put, List.setIfInBounds_toArray, List.set_cons_zero, List.set_cons_succ, i64_w, i32_w]
                rfl
               refine pure_ (i := 17) (N := some 71) (v := ?_) (a' := ?_) #[true, true, true, true, true, true, true, true, true, true, true, true, true, true, true, true, true, true, false, false, false, false, false, false, false, false, false, false, false, false, false, false, false, false, false, false, false, false, false, false] rfl rfl (any_of HT_.out (by kernel_rfl)) (fun _ _ _ h => h) (Or.inl ⟨by rfl, ?_⟩) ?_ ?_
               rotate_left
               ·intro w'
                go_simp
                with_reducible rfl
               rotate_left
               ·simp only [Act.put, List.setIfInBounds_toArray, List.set_cons_zero, List.set_cons_succ, i64_w, i32_w]
                rfl
               refine pure_ (i := 18) (N := some 72) (v := ?_) (a' := ?_) #[true, true, true, true, true, true, true, true, true, true, true, true, true, true, true, true, true, true, true, false, false, false, false, false, false, false, false, false, false, false, false, false, false, false, false, false, false, false, false, false] rfl rfl (any_of HT_.out (by kernel_rfl)) (fun _ _ _ h => h) (Or.inl ⟨by rfl, ?_⟩) ?_ ?_
               rotate_left
               ·intro w'
                go_simp
                with_reducible rfl
               rotate_left
               ·simp only [Act.put, List.setIfInBounds_toArray, List.set_cons_zero, List.set_cons_succ, i64_w, i32_w]
                rfl
               refine pure_ (i := 19) (N := some 73) (v := undef) (a' := ?_) #[true, true, true, true, true, true, true, true, true, true, true, true, true, true, true, true, true, true, true, true, false, false, false, false, false, false, false, false, false, false, false, false, false, false, false, false, false, false, false, false] rfl rfl (any_of HT_.out (by kernel_rfl)) (fun _ _ _ h => h) (Or.inr ⟨by rfl, rfl⟩) ?_ ?_
               rotate_left
               ·simp only [Act.put, List.setIfInBounds_toArray, List.set_cons_zero, List.set_cons_succ, i64_w, i32_w]
                rfl
               refine pure_ (i := 20) (N := some 74) (v := undef) (a' := ?_) #[true, true, true, true, true, true, true, true, true, true, true, true, true, true, true, true, true, true, true, true, true, false, false, false, false, false, false, false, false, false, false, false, false, false, false, false, false, false, false, false] rfl rfl (any_of HT_.out (by kernel_rfl)) (fun _ _ _ h => h) (Or.inr ⟨by rfl, rfl⟩) ?_ ?_
               rotate_left
               ·simp only [Act.put, List.setIfInBounds_toArray, List.set_cons_zero, List.set_cons_succ, i64_w, i32_w]
                rfl
               refine pure_ (i := 21) (N := some 75) (v := undef) (a' := ?_) #[true, true, true, true, true, true, true, true, true, true, true, true, true, true, true, true, true, true, true, true, true, true, false, false, false, false, false, false, false, false, false, false, false, false, false, false, false, false, false, false] rfl rfl (any_of HT_.out (by kernel_rfl)) (fun _ _ _ h => h) (Or.inr ⟨by rfl, rfl⟩) ?_ ?_
               rotate_left
               ·simp only [Act.put, List.setIfInBounds_toArray, List.set_cons_zero, List.set_cons_succ, i64_w, i32_w]
                rfl
               refine pure_ (i := 22) (N := some 76) (v := undef) (a' := ?_) #[true, true, true, true, true, true, true, true, true, true, true, true, true, true, true, true, true, true, true, true, true, true, true, false, false, false, false, false, false, false, false, false, false, false, false, false, false, false, false, false] rfl rfl (any_of HT_.out (by kernel_rfl)) (fun _ _ _ h => h) (Or.inr ⟨by rfl, rfl⟩) ?_ ?_
               rotate_left
               ·simp only [Act.put, List.setIfInBounds_toArray, List.set_cons_zero, List.set_cons_succ, i64_w, i32_w]
                rfl
               refine pure_ (i := 23) (N := some 77) (v := undef) (a' := ?_) #[true, true, true, true, true, true, true, true, true, true, true, true, true, true, true, true, true, true, true, true, true, true, true, true, false, false, false, false, false, false, false, false, false, false, false, false, false, false, false, false] rfl rfl (any_of HT_.out (by kernel_rfl)) (fun _ _ _ h => h) (Or.inr ⟨by rfl, rfl⟩) ?_ ?_
               rotate_left
               ·simp only [Act.put, List.setIfInBounds_toArray, List.set_cons_zero, List.set_cons_succ, i64_w, i32_w]
                rfl
               refine pure_ (i := 24) (N := some 78) (v := undef) (a' := ?_) #[true, true, true, true, true, true, true, true, true, true, true, true, true, true, true, true, true, true, true, true, true, true, true, true, true, false, false, false, false, false, false, false, false, false, false, false, false, false, false, false] rfl rfl (any_of HT_.out (by kernel_rfl)) (fun _ _ _ h => h) (Or.inr ⟨by rfl, rfl⟩) ?_ ?_
               rotate_left
               ·simp only [Act.put, List.setIfInBounds_toArray, List.set_cons_zero, List.set_cons_succ, i64_w, i32_w]
                rfl
               refine pure_ (i := 25) (N := some 79) (v := undef) (a' := ?_) #[true, true, true, true, true, true, true, true, true, true, true, true, true, true, true, true, true, true, true, true, true, true, true, true, true, true, false, false, false, false, false, false, false, false, false, false, false, false, false, false] rfl rfl (any_of HT_.out (by kernel_rfl)) (fun _ _ _ h => h) (Or.inr ⟨by rfl, rfl⟩) ?_ ?_
               rotate_left
               ·simp only [Act.put, List.setIfInBounds_toArray, List.set_cons_zero, List.set_cons_succ, i64_w, i32_w]
                rfl
               refine pure_ (i := 26) (N := some 80) (v := undef) (a' := ?_) #[true, true, true, true, true, true, true, true, true, true, true, true, true, true, true, true, true, true, true, true, true, true, true, true, true, true, true, false, false, false, false, false, false, false, false, false, false, false, false, false] rfl rfl (any_of HT_.out (by kernel_rfl)) (fun _ _ _ h => h) (Or.inr ⟨by rfl, rfl⟩) ?_ ?_
               rotate_left
               ·simp only [Act.put, List.setIfInBounds_toArray, List.set_cons_zero, List.set_cons_succ, i64_w, i32_w]
                rfl
               refine pure_ (i := 27) (N := some 81) (v := undef) (a' := ?_) #[true, true, true, true, true, true, true, true, true, true, true, true, true, true, true, true, true, true, true, true, true, true, true, true, true, true, true, true, false, false, false, false, false, false, false, false, false, false, false, false] rfl rfl (any_of HT_.out (by kernel_rfl)) (fun _ _ _ h => h) (Or.inr ⟨by rfl, rfl⟩) ?_ ?_
               rotate_left
               ·simp only [Act.put, List.setIfInBounds_toArray, List.set_cons_zero, List.set_cons_succ, i64_w, i32_w]
                rfl
               refine pure_ (i := 28) (N := some 82) (v := undef) (a' := ?_) #[true, true, true, true, true, true, true, true, true, true, true, true, true, true, true, true, true, true, true, true, true, true, true, true, true, true, true, true, true, false, false, false, false, false, false, false, false, false, false, false] rfl rfl (any_of HT_.out (by kernel_rfl)) (fun _ _ _ h => h) (Or.inr ⟨by rfl, rfl⟩) ?_ ?_
               rotate_left
               ·simp only [Act.put, List.setIfInBounds_toArray, List.set_cons_zero, List.set_cons_succ, i64_w, i32_w]
                rfl
               refine pure_ (i := 29) (N := some 83) (v := undef) (a' := ?_) #[true, true, true, true, true, true, true, true, true, true, true, true, true, true, true, true, true, true, true, true, true, true, true, true, true, true, true, true, true, true, false, false, false, false, false, false, false, false, false, false] rfl rfl (any_of HT_.out (by kernel_rfl)) (fun _ _ _ h => h) (Or.inr ⟨by rfl, rfl⟩) ?_ ?_
               rotate_left
               ·simp only [Act.put, List.setIfInBounds_toArray, List.set_cons_zero, List.set_cons_succ, i64_w, i32_w]
                rfl
               refine pure_ (i := 30) (N := some 84) (v := undef) (a' := ?_) #[true, true, true, true, true, true, true, true, true, true, true, true, true, true, true, true, true, true, true, true, true, true, true, true, true, true, true, true, true, true, true, false, false, false, false, false, false, false, false, false] rfl rfl (any_of HT_.out (by kernel_rfl)) (fun _ _ _ h => h) (Or.inr ⟨by rfl, rfl⟩) ?_ ?_
               rotate_left
               ·simp only [Act.put, List.setIfInBounds_toArray, List.set_cons_zero, List.set_cons_succ, i64_w, i32_w]
                rfl
               refine pure_ (i := 31) (N := some 85) (v := undef) (a' := ?_) #[true, true, true, true, true, true, true, true, true, true, true, true, true, true, true, true, true, true, true, true, true, true, true, true, true, true, true, true, true, true, true, true, false, false, false, false, false, false, false, false] rfl rfl (any_of HT_.out (by kernel_rfl)) (fun _ _ _ h => h) (Or.inr ⟨by rfl, rfl⟩) ?_ ?_
               rotate_left
               ·simp only [Act.put, List.setIfInBounds_toArray, List.set_cons_zero, List.set_cons_succ, i64_w, i32_w]
                rfl
               refine pure_ (i := 32) (N := some 86) (v := undef) (a' := ?_) #[true, true, true, true, true, true, true, true, true, true, true, true, true, true, true, true, true, true, true, true, true, true, true, true, true, true, true, true, true, true, true, true, true, false, false, false, false, false, false, false] rfl rfl (any_of HT_.out (by kernel_rfl)) (fun _ _ _ h => h) (Or.inr ⟨by rfl, rfl⟩) ?_ ?_
               rotate_left
               ·simp only [Act.put, List.setIfInBounds_toArray, List.set_cons_zero, List.set_cons_succ, i64_w, i32_w]
                rfl
               refine pure_ (i := 33) (N := some 87) (v := undef) (a' := ?_) #[true, true, true, true, true, true, true, true, true, true, true, true, true, true, true, true, true, true, true, true, true, true, true, true, true, true, true, true, true, true, true, true, true, true, false, false, false, false, false, false] rfl rfl (any_of HT_.out (by kernel_rfl)) (fun _ _ _ h => h) (Or.inr ⟨by rfl, rfl⟩) ?_ ?_
               rotate_left
               ·simp only [Act.put, List.setIfInBounds_toArray, List.set_cons_zero, List.set_cons_succ, i64_w, i32_w]
                rfl
               refine pure_ (i := 34) (N := some 88) (v := undef) (a' := ?_) #[true, true, true, true, true, true, true, true, true, true, true, true, true, true, true, true, true, true, true, true, true, true, true, true, true, true, true, true, true, true, true, true, true, true, true, false, false, false, false, false] rfl rfl (any_of HT_.out (by kernel_rfl)) (fun _ _ _ h => h) (Or.inr ⟨by rfl, rfl⟩) ?_ ?_
               rotate_left
               ·simp only [Act.put, List.setIfInBounds_toArray, List.set_cons_zero, List.set_cons_succ, i64_w, i32_w]
                rfl
               refine pure_ (i := 35) (N := some 89) (v := undef) (a' := ?_) #[true, true, true, true, true, true, true, true, true, true, true, true, true, true, true, true, true, true, true, true, true, true, true, true, true, true, true, true, true, true, true, true, true, true, true, true, false, false, false, false] rfl rfl (any_of HT_.out (by kernel_rfl)) (fun _ _ _ h => h) (Or.inr ⟨by rfl, rfl⟩) ?_ ?_
               rotate_left
               ·simp only [Act.put, List.setIfInBounds_toArray, List.set_cons_zero, List.set_cons_succ, i64_w, i32_w]
                rfl
               refine pure_ (i := 36) (N := some 90) (v := undef) (a' := ?_) #[true, true, true, true, true, true, true, true, true, true, true, true, true, true, true, true, true, true, true, true, true, true, true, true, true, true, true, true, true, true, true, true, true, true, true, true, true, false, false, false] rfl rfl (any_of HT_.out (by kernel_rfl)) (fun _ _ _ h => h) (Or.inr ⟨by rfl, rfl⟩) ?_ ?_
               rotate_left
               ·simp only [Act.put, List.setIfInBounds_toArray, List.set_cons_zero, List.set_cons_succ, i64_w, i32_w]
                rfl
               refine pure_ (i := 37) (N := some 91) (v := undef) (a' := ?_) #[true, true, true, true, true, true, true, true, true, true, true, true, true, true, true, true, true, true, true, true, true, true, true, true, true, true, true, true, true, true, true, true, true, true, true, true, true, true, false, false] rfl rfl (any_of HT_.out (by kernel_rfl)) (fun _ _ _ h => h) (Or.inr ⟨by rfl, rfl⟩) ?_ ?_
               rotate_left
               ·simp only [Act.put, List.setIfInBounds_toArray, List.set_cons_zero, List.set_cons_succ, i64_w, i32_w]
                rfl
               refine pure_ (i := 38) (N := some 92) (v := ?_) (a' := ?_) #[true, true, true, true, true, true, true, true, true, true, true, true, true, true, true, true, true, true, true, true, true, true, true, true, true, true, true, true, true, true, true, true, true, true, true, true, true, true, true, false] rfl rfl (any_of HT_.out (by kernel_rfl)) (fun _ _ _ h => h) (Or.inl ⟨by rfl, ?_⟩) ?_ ?_
               rotate_left
               ·intro w'
                go_simp
                with_reducible rfl
               rotate_left
               ·simp only [Act.put, List.setIfInBounds_toArray, List.set_cons_zero, List.set_cons_succ, i64_w, i32_w]
                rfl
               refine pure_ (i := 39) (N := some 93) (v := ?_) (a' := ?_) #[true, true, true, true, true, true, true, true, true, true, true, true, true, true, true, true, true, true, true, true, true, true, true, true, true, true, true, true, true, true, true, true, true, true, true, true, true, true, true, true] rfl rfl (any_of HT_.out (by kernel_rfl)) (fun _ _ _ h => h) (Or.inl ⟨by rfl, ?_⟩) ?_ ?_
               rotate_left
               ·intro w'
                go_simp
                with_reducible rfl
               rotate_left
               ·simp only [Act.put, List.setIfInBounds_toArray, List.set_cons_zero, List.set_cons_succ, i64_w, i32_w]
                rfl
               refine done_ (done_of HT_.out (by kernel_rfl)) ?_
               try go_wp2
               go_roundg k2
               case measure => have := HK1.out; have := HK2.out; omega
               case rel => exact ⟨(wrap64 (x9_2 + 1)), (by first | rfl | (simp; done) | (simp [*]; done)), H', ⟨by have := HK1.out; have := HK2.out; omega⟩, ⟨by (with_reducible repeat (first | apply Kd.S_alloc | apply Kd.S_drewN | apply Kd.S_drew)); exact HO_5.out⟩, ⟨by (with_reducible repeat (first | apply Kd.R_alloc | apply Kd.R_drewN | apply Kd.R_drew)); exact HO_7.out⟩, ⟨by (with_reducible repeat (first | refine blk_drewN ?_ _ | refine blk_drew ?_ | refine blk_alloc ?_ _)); exact BK295.out⟩, ⟨by repeat (first | (with_reducible first | exact HB.out | apply below_alloc | apply pw_below_drewN | apply below_drew1 | refine below_set ?_ GE295.out) | exact HB.out)⟩⟩
            ·rw [if_neg c22] at H
             exact absurd H (by simp)
           ·rw [if_neg c21] at H
            have c21b0 : decide (x9_2 < (((rd_T74 t298 x8_1).f0).length : Int)) = false := decide_eq_false c21
            clear c21
            have H' := Aside0.mk H
            clear H
            have p305 : 0 ≤ (x8_1 : Int) := of_decide_eq_true (by first | (with_reducible assumption) | assumption)
            have q305 : x8_1 < (t298.length : Int) := of_decide_eq_true (by first | (with_reducible assumption) | assumption)
            obtain ⟨ad305, A305_0, c305_0, A305_1, c305_1, e305, hx305_0, hx305_1, hl305_0, hi305_0, hl305_1, hi305_1⟩ := at_T74 (Kd.S_reads' HO_5.out).2.2 x8_1 p305 q305
            cases e305
            obtain ⟨ce305, hce305, hMe305, hcc305⟩ := Kd.S_get HO_5.out z74 x8_1 p305 (by first | exact q305 | exact of_decide_eq_true (by first | (with_reducible assumption) | assumption) | (have e_ := (Kd.S_reads' HO_5.out).1; omega))
            obtain ⟨ve305_0, ve305_1, rfl, ge305_0, ge305_1⟩ := k74_openM hMe305
            have hv305_0 := hcc305 0 _ rfl
            rw [Nat.add_zero] at hv305_0
            replace hv305_0 := Option.some.inj (hv305_0.symm.trans hx305_0)
            rw [hv305_0] at ge305_0
            have HL305_0 := Aside0.mk (show Kd.R k37 37 _ _ _ _ ((rd_T74 t298 x8_1).f0) from ge305_0)
            clear hv305_0 ge305_0
            have hv305_1 := hcc305 1 _ rfl
            rw [add_field _ _ 1 (by omega)] at hv305_1
            replace hv305_1 := Option.some.inj (hv305_1.symm.trans hx305_1)
            rw [hv305_1] at ge305_1
            have HL305_1 := Aside0.mk (show Kd.R (Kd.int .u64) 76 _ _ _ _ ((rd_T74 t298 x8_1).f1) from ge305_1)
            clear hv305_1 ge305_1
            clear hcc305 hce305
            have HR305_0 := Aside0.mk hi305_0
            have HC305_0 := Aside0.mk hl305_0
            clear hi305_0 hl305_0
            have HR305_1 := Aside0.mk hi305_1
            have HC305_1 := Aside0.mk hl305_1
            clear hi305_1 hl305_1
            replace p305 := eq_true p305
            replace q305 := eq_true q305
            go_wp2
            go_roundg k2
            case measure => have := HK1.out; have := HK2.out; omega
            case rel => exact ⟨(wrap64 (x8_1 + 1)), (by first | rfl | (simp; done) | (simp [*]; done)), H', ⟨by have := HK1.out; have := HK2.out; omega⟩, ⟨by (with_reducible repeat (first | apply Kd.S_alloc | apply Kd.S_drewN | apply Kd.S_drew)); exact HO_5.out⟩, ⟨by (with_reducible repeat (first | apply Kd.R_alloc | apply Kd.R_drewN | apply Kd.R_drew)); exact HO_7.out⟩, ⟨by (with_reducible repeat (first | refine blk_drewN ?_ _ | refine blk_drew ?_ | refine blk_alloc ?_ _)); exact BK295.out⟩, ⟨by repeat (first | (with_reducible first | exact HB.out | apply below_alloc | apply pw_below_drewN | apply below_drew1 | refine below_set ?_ GE295.out) | exact HB.out)⟩⟩
          ·rw [if_neg c20] at H
           exact absurd H (by simp)
         ·rw [if_neg c19] at H
          exact absurd H (by simp)
      ·rw [if_neg c17] at H
       have c17b0 : decide (x8_1 < (t298.length : Int)) = false := decide_eq_false c17
       clear c17
       obtain rfl := Option.some.inj H
       obtain ⟨Ao54, co54, eo54⟩ := Kd.S_slice HO_5.out
       subst eo54
       go_wp2
       go_ret
       exact ⟨by first | rfl | (simp [errW_none, errW_some] <;> rfl) | (simp [*, errW_none, errW_some] <;> rfl), by repeat (first | (with_reducible first | exact HB.out | apply below_alloc | apply pw_below_drewN | apply below_drew1 | refine below_set ?_ GE295.out) | exact HB.out)⟩
   ·rw [if_neg c7] at H
    have c7b0 : (t301 == 0) = false := beq_eq_false_iff_ne.mpr c7
    have c7b1 : (t301 != 0) = true := bne_iff_ne.mpr c7
    obtain rfl := Option.some.inj H
    go_enter Tryd.func11, Tryd.ntmps11
    go_wp2_with (first | ((with_reducible refine gate_dst (N := 1) rfl ?_); (try (refine gate_guard (by rfl) ?_; dsimp only)); refine box_event ?hg (N := 1) ?hd (cs := #[.slice A0_0 l0_0.length c0_0, .slice A0_1 l0_1.length c0_1, .slice A0_2 l0_2.length c0_2, .slice A0_3 l0_3.length c0_3, .int .i64 a0_4]) (t := 27) ?hr ?_; (case hd => rfl); (case hg => rfl); (case hr => first | (go_simp; done) | (go_simp; rfl)); intro gb295 hg w55 hbox hb; have n0_ := Aside0.mk (below_step (by repeat (first | (with_reducible first | exact HB.out | apply below_alloc | apply pw_below_drewN | apply below_drew1) | exact HB.out)) hb); have n1_ := Aside0.mk (hbox); have n2_ := Aside0.mk ((by rw [hg]; exact (below_size (by repeat (first | (with_reducible first | exact HB.out | apply below_alloc | apply pw_below_drewN | apply below_drew1) | exact HB.out))) : w.heap.size ≤ gb295)); have n3_ := Aside0.mk ((by rw [hg]; exact (below_size (by repeat (first | (with_reducible first | exact HB.out | apply below_alloc | apply pw_below_drewN | apply below_drew1) | exact HB.out))) : w.heap.size ≤ gb295)); clear HB; have HB := n0_; have BK295 := n1_; have GW295 := n2_; have GE295 := n3_; clear n0_ n1_ n2_ n3_; clear hb hbox hg) | ((with_reducible refine gate_callee (f := 27) rfl ?_); refine goesL_ (some 11) rfl rfl Tryd.func27 (by kernel_rfl) rfl #[] rfl (by (try simp only [List.map_toArray, List.map_cons, List.map_nil]); first | done | rfl | (simp only [List.length_drop, List.length_take]; rfl)) ?_; (with_reducible refine (syntagmlaw15_works.calls k  true _ ?side1 ?side2 A2.out).mono ?_); (case side1 => exact GTab.below HG.out (by repeat (first | (with_reducible first | exact HB.out | apply below_alloc | apply pw_below_drewN | apply below_drew1 | refine below_set ?_ GE295.out) | exact HB.out))); (case side2 => rfl); rintro e w56 ⟨rfl, hb⟩; refine ⟨_, rfl, ?_⟩; have n0_ := Aside0.mk (blk_below (g := gb295) (o := .cells #[.slice A0_0 l0_0.length c0_0, .slice A0_1 l0_1.length c0_1, .slice A0_2 l0_2.length c0_2, .slice A0_3 l0_3.length c0_3, .int .i64 a0_4] 27 (0, 0)) (by (with_reducible repeat (first | refine blk_drewN ?_ _ | refine blk_drew ?_ | refine blk_alloc ?_ _)); exact BK295.out) hb); have n1_ := Aside0.mk (below_step (by repeat (first | (with_reducible first | exact HB.out | apply below_alloc | apply pw_below_drewN | apply below_drew1 | refine below_set ?_ GE295.out) | exact HB.out)) hb); clear BK295; clear HB; have BK295 := n0_; have HB := n1_; clear n0_ n1_; (try clear hb); (try clear hb2); (try clear hk); (try clear hi); have hcz57_0 : w56.cell? ⟨gb295, 0, none⟩ = some (.slice A0_0 l0_0.length c0_0) := (blk_cell BK295.out 0).trans rfl; have hcz57_1 : w56.cell? ⟨gb295, 1, none⟩ = some (.slice A0_1 l0_1.length c0_1) := (blk_cell BK295.out 1).trans rfl; have hcz57_2 : w56.cell? ⟨gb295, 2, none⟩ = some (.slice A0_2 l0_2.length c0_2) := (blk_cell BK295.out 2).trans rfl; have hcz57_3 : w56.cell? ⟨gb295, 3, none⟩ = some (.slice A0_3 l0_3.length c0_3) := (blk_cell BK295.out 3).trans rfl; have hcz57_4 : w56.cell? ⟨gb295, 4, none⟩ = some (.int .i64 a0_4) := (blk_cell BK295.out 4).trans rfl; have hfz57_0 := blk_frozen BK295.out 0; have hfz57_1 := blk_frozen BK295.out 1; have hfz57_2 := blk_frozen BK295.out 2; have hfz57_3 := blk_frozen BK295.out 3; have hfz57_4 := blk_frozen BK295.out 4) | ((with_reducible refine gate_callee (f := 22) rfl ?_); refine goesL_ (some 15) rfl rfl Tryd.func22 (by kernel_rfl) rfl #[.agg #[.slice A0_0 l0_0.length c0_0, .slice A0_1 l0_1.length c0_1, .slice A0_2 l0_2.length c0_2, .slice A0_3 l0_3.length c0_3, .int .i64 a0_4]] rfl (by (try simp only [List.map_toArray, List.map_cons, List.map_nil]); first | done | rfl | (simp only [List.length_drop, List.length_take]; rfl)) ?_; (with_reducible refine (syntagmlaw14_Little.calls k _ _ l0_0 _ _ l0_1 _ _ l0_2 _ _ l0_3 a0_4 true _ ?side1 ?side2 ?side3 ?side4 ?side5 ?side6 ?side7 ?side8 A4.out).mono ?_); (case side1 => repeat (first | exact (Kd.C_below HR0_0.out HB.out) | (with_reducible refine Kd.C_alloc ?_ _) | (with_reducible refine Kd.C_drewN ?_ _) | (with_reducible refine Kd.C_drew ?_))); (case side2 => exact HC0_0.out); (case side3 => repeat (first | exact (Kd.C_below HR0_1.out HB.out) | (with_reducible refine Kd.C_alloc ?_ _) | (with_reducible refine Kd.C_drewN ?_ _) | (with_reducible refine Kd.C_drew ?_))); (case side4 => exact HC0_1.out); (case side5 => repeat (first | exact (Kd.C_below HR0_2.out HB.out) | (with_reducible refine Kd.C_alloc ?_ _) | (with_reducible refine Kd.C_drewN ?_ _) | (with_reducible refine Kd.C_drew ?_))); (case side6 => exact HC0_2.out); (case side7 => repeat (first | exact (Kd.C_below HR0_3.out HB.out) | (with_reducible refine Kd.C_alloc ?_ _) | (with_reducible refine Kd.C_drewN ?_ _) | (with_reducible refine Kd.C_drew ?_))); (case side8 => exact HC0_3.out); rintro e w58 ⟨rfl, hb⟩; refine ⟨_, rfl, ?_⟩; have n0_ := Aside0.mk (blk_below (g := gb295) (o := .cells #[.slice A0_0 l0_0.length c0_0, .slice A0_1 l0_1.length c0_1, .slice A0_2 l0_2.length c0_2, .slice A0_3 l0_3.length c0_3, .int .i64 a0_4] 27 (0, 0)) (by (with_reducible repeat (first | refine blk_drewN ?_ _ | refine blk_drew ?_ | refine blk_alloc ?_ _)); exact BK295.out) hb); have n1_ := Aside0.mk (below_step (by repeat (first | (with_reducible first | exact HB.out | apply below_alloc | apply pw_below_drewN | apply below_drew1 | refine below_set ?_ GE295.out) | exact HB.out)) hb); clear BK295; clear HB; have BK295 := n0_; have HB := n1_; clear n0_ n1_; (try clear hb); (try clear hb2); (try clear hk); (try clear hi); have hcz59_0 : w58.cell? ⟨gb295, 0, none⟩ = some (.slice A0_0 l0_0.length c0_0) := (blk_cell BK295.out 0).trans rfl; have hcz59_1 : w58.cell? ⟨gb295, 1, none⟩ = some (.slice A0_1 l0_1.length c0_1) := (blk_cell BK295.out 1).trans rfl; have hcz59_2 : w58.cell? ⟨gb295, 2, none⟩ = some (.slice A0_2 l0_2.length c0_2) := (blk_cell BK295.out 2).trans rfl; have hcz59_3 : w58.cell? ⟨gb295, 3, none⟩ = some (.slice A0_3 l0_3.length c0_3) := (blk_cell BK295.out 3).trans rfl; have hcz59_4 : w58.cell? ⟨gb295, 4, none⟩ = some (.int .i64 a0_4) := (blk_cell BK295.out 4).trans rfl; have hfz59_0 := blk_frozen BK295.out 0; have hfz59_1 := blk_frozen BK295.out 1; have hfz59_2 := blk_frozen BK295.out 2; have hfz59_3 := blk_frozen BK295.out 3; have hfz59_4 := blk_frozen BK295.out 4) | ((with_reducible refine gate_callee (f := 28) rfl ?_); refine goesL_ (some 21) rfl rfl Tryd.func28 (by kernel_rfl) rfl #[.agg #[.slice A0_0 l0_0.length c0_0, .slice A0_1 l0_1.length c0_1, .slice A0_2 l0_2.length c0_2, .slice A0_3 l0_3.length c0_3, .int .i64 a0_4]] rfl (by (try simp only [List.map_toArray, List.map_cons, List.map_nil]); first | done | rfl | (simp only [List.length_drop, List.length_take]; rfl)) ?_; (with_reducible refine (look_All.calls k _ _ l0_0 _ _ l0_1 _ _ l0_2 _ _ l0_3 a0_4 t298 t301 _ ?side1 ?side2 ?side3 ?side4 ?side5 ?side6 ?side7 ?side8 ?side9 A6.out).mono ?_); (case side1 => exact GTab.below HG.out (by repeat (first | (with_reducible first | exact HB.out | apply below_alloc | apply pw_below_drewN | apply below_drew1 | refine below_set ?_ GE295.out) | exact HB.out))); (case side2 => repeat (first | exact (Kd.C_below HR0_0.out HB.out) | (with_reducible refine Kd.C_alloc ?_ _) | (with_reducible refine Kd.C_drewN ?_ _) | (with_reducible refine Kd.C_drew ?_))); (case side3 => exact HC0_0.out); (case side4 => repeat (first | exact (Kd.C_below HR0_1.out HB.out) | (with_reducible refine Kd.C_alloc ?_ _) | (with_reducible refine Kd.C_drewN ?_ _) | (with_reducible refine Kd.C_drew ?_))); (case side5 => exact HC0_1.out); (case side6 => repeat (first | exact (Kd.C_below HR0_2.out HB.out) | (with_reducible refine Kd.C_alloc ?_ _) | (with_reducible refine Kd.C_drewN ?_ _) | (with_reducible refine Kd.C_drew ?_))); (case side7 => exact HC0_2.out); (case side8 => repeat (first | exact (Kd.C_below HR0_3.out HB.out) | (with_reducible refine Kd.C_alloc ?_ _) | (with_reducible refine Kd.C_drewN ?_ _) | (with_reducible refine Kd.C_drew ?_))); (case side9 => exact HC0_3.out); rintro e w60 ⟨v299, rfl, ho0, hb⟩; refine ⟨_, rfl, ?_⟩; have n0_ := Aside0.mk (Kd.S_lower ho0 (below_size (by repeat (first | (with_reducible first | exact HB.out | apply below_alloc | apply pw_below_drewN | apply below_drew1 | refine below_set ?_ GE295.out) | exact HB.out)))); have n1_ := Aside0.mk (blk_below (g := gb295) (o := .cells #[.slice A0_0 l0_0.length c0_0, .slice A0_1 l0_1.length c0_1, .slice A0_2 l0_2.length c0_2, .slice A0_3 l0_3.length c0_3, .int .i64 a0_4] 27 (0, 0)) (by (with_reducible repeat (first | refine blk_drewN ?_ _ | refine blk_drew ?_ | refine blk_alloc ?_ _)); exact BK295.out) hb); have n2_ := Aside0.mk (below_step (by repeat (first | (with_reducible first | exact HB.out | apply below_alloc | apply pw_below_drewN | apply below_drew1 | refine below_set ?_ GE295.out) | exact HB.out)) hb); clear BK295; clear HB; have HO300 := n0_; have BK295 := n1_; have HB := n2_; clear n0_ n1_ n2_; (try clear hb); (try clear hb2); (try clear hk); (try clear hi); (try clear ho0)))
    go_ret
    exact ⟨by first | rfl | (simp [errW_none, errW_some] <;> rfl) | (simp [*, errW_none, errW_some] <;> rfl), by repeat (first | (with_reducible first | exact HB.out | apply below_alloc | apply pw_below_drewN | apply below_drew1 | refine below_set ?_ GE295.out) | exact HB.out)⟩
  ·replace c5 := Bool.eq_false_iff.mpr c5
   subst c5
   have H1 : (some true) = some r := by rw [if_neg (show ¬ (false = true) by decide)] at H; exact H
   clear H
   have H := H1
   clear H1
   obtain rfl := Option.some.inj H
   go_enter Tryd.func11, Tryd.ntmps11
   go_wp2_with (first | ((with_reducible refine gate_dst (N := 1) rfl ?_); (try (refine gate_guard (by rfl) ?_; dsimp only)); refine box_event ?hg (N := 1) ?hd (cs := #[.slice A0_0 l0_0.length c0_0, .slice A0_1 l0_1.length c0_1, .slice A0_2 l0_2.length c0_2, .slice A0_3 l0_3.length c0_3, .int .i64 a0_4]) (t := 27) ?hr ?_; (case hd => rfl); (case hg => rfl); (case hr => first | (go_simp; done) | (go_simp; rfl)); intro gb295 hg w61 hbox hb; have n0_ := Aside0.mk (below_step (by repeat (first | (with_reducible first | exact HB.out | apply below_alloc | apply pw_below_drewN | apply below_drew1) | exact HB.out)) hb); have n1_ := Aside0.mk (hbox); have n2_ := Aside0.mk ((by rw [hg]; exact (below_size (by repeat (first | (with_reducible first | exact HB.out | apply below_alloc | apply pw_below_drewN | apply below_drew1) | exact HB.out))) : w.heap.size ≤ gb295)); have n3_ := Aside0.mk ((by rw [hg]; exact (below_size (by repeat (first | (with_reducible first | exact HB.out | apply below_alloc | apply pw_below_drewN | apply below_drew1) | exact HB.out))) : w.heap.size ≤ gb295)); clear HB; have HB := n0_; have BK295 := n1_; have GW295 := n2_; have GE295 := n3_; clear n0_ n1_ n2_ n3_; clear hb hbox hg) | ((with_reducible refine gate_callee (f := 27) rfl ?_); refine goesL_ (some 11) rfl rfl Tryd.func27 (by kernel_rfl) rfl #[] rfl (by (try simp only [List.map_toArray, List.map_cons, List.map_nil]); first | done | rfl | (simp only [List.length_drop, List.length_take]; rfl)) ?_; (with_reducible refine (syntagmlaw15_works.calls k  true _ ?side1 ?side2 A2.out).mono ?_); (case side1 => exact GTab.below HG.out (by repeat (first | (with_reducible first | exact HB.out | apply below_alloc | apply pw_below_drewN | apply below_drew1 | refine below_set ?_ GE295.out) | exact HB.out))); (case side2 => rfl); rintro e w62 ⟨rfl, hb⟩; refine ⟨_, rfl, ?_⟩; have n0_ := Aside0.mk (blk_below (g := gb295) (o := .cells #[.slice A0_0 l0_0.length c0_0, .slice A0_1 l0_1.length c0_1, .slice A0_2 l0_2.length c0_2, .slice A0_3 l0_3.length c0_3, .int .i64 a0_4] 27 (0, 0)) (by (with_reducible repeat (first | refine blk_drewN ?_ _ | refine blk_drew ?_ | refine blk_alloc ?_ _)); exact BK295.out) hb); have n1_ := Aside0.mk (below_step (by repeat (first | (with_reducible first | exact HB.out | apply below_alloc | apply pw_below_drewN | apply below_drew1 | refine below_set ?_ GE295.out) | exact HB.out)) hb); clear BK295; clear HB; have BK295 := n0_; have HB := n1_; clear n0_ n1_; (try clear hb); (try clear hb2); (try clear hk); (try clear hi); have hcz63_0 : w62.cell? ⟨gb295, 0, none⟩ = some (.slice A0_0 l0_0.length c0_0) := (blk_cell BK295.out 0).trans rfl; have hcz63_1 : w62.cell? ⟨gb295, 1, none⟩ = some (.slice A0_1 l0_1.length c0_1) := (blk_cell BK295.out 1).trans rfl; have hcz63_2 : w62.cell? ⟨gb295, 2, none⟩ = some (.slice A0_2 l0_2.length c0_2) := (blk_cell BK295.out 2).trans rfl; have hcz63_3 : w62.cell? ⟨gb295, 3, none⟩ = some (.slice A0_3 l0_3.length c0_3) := (blk_cell BK295.out 3).trans rfl; have hcz63_4 : w62.cell? ⟨gb295, 4, none⟩ = some (.int .i64 a0_4) := (blk_cell BK295.out 4).trans rfl; have hfz63_0 := blk_frozen BK295.out 0; have hfz63_1 := blk_frozen BK295.out 1; have hfz63_2 := blk_frozen BK295.out 2; have hfz63_3 := blk_frozen BK295.out 3; have hfz63_4 := blk_frozen BK295.out 4) | ((with_reducible refine gate_callee (f := 22) rfl ?_); refine goesL_ (some 15) rfl rfl Tryd.func22 (by kernel_rfl) rfl #[.agg #[.slice A0_0 l0_0.length c0_0, .slice A0_1 l0_1.length c0_1, .slice A0_2 l0_2.length c0_2, .slice A0_3 l0_3.length c0_3, .int .i64 a0_4]] rfl (by (try simp only [List.map_toArray, List.map_cons, List.map_nil]); first | done | rfl | (simp only [List.length_drop, List.length_take]; rfl)) ?_; (with_reducible refine (syntagmlaw14_Little.calls k _ _ l0_0 _ _ l0_1 _ _ l0_2 _ _ l0_3 a0_4 false _ ?side1 ?side2 ?side3 ?side4 ?side5 ?side6 ?side7 ?side8 A4.out).mono ?_); (case side1 => repeat (first | exact (Kd.C_below HR0_0.out HB.out) | (with_reducible refine Kd.C_alloc ?_ _) | (with_reducible refine Kd.C_drewN ?_ _) | (with_reducible refine Kd.C_drew ?_))); (case side2 => exact HC0_0.out); (case side3 => repeat (first | exact (Kd.C_below HR0_1.out HB.out) | (with_reducible refine Kd.C_alloc ?_ _) | (with_reducible refine Kd.C_drewN ?_ _) | (with_reducible refine Kd.C_drew ?_))); (case side4 => exact HC0_1.out); (case side5 => repeat (first | exact (Kd.C_below HR0_2.out HB.out) | (with_reducible refine Kd.C_alloc ?_ _) | (with_reducible refine Kd.C_drewN ?_ _) | (with_reducible refine Kd.C_drew ?_))); (case side6 => exact HC0_2.out); (case side7 => repeat (first | exact (Kd.C_below HR0_3.out HB.out) | (with_reducible refine Kd.C_alloc ?_ _) | (with_reducible refine Kd.C_drewN ?_ _) | (with_reducible refine Kd.C_drew ?_))); (case side8 => exact HC0_3.out); rintro e w64 ⟨rfl, hb⟩; refine ⟨_, rfl, ?_⟩; have n0_ := Aside0.mk (blk_below (g := gb295) (o := .cells #[.slice A0_0 l0_0.length c0_0, .slice A0_1 l0_1.length c0_1, .slice A0_2 l0_2.length c0_2, .slice A0_3 l0_3.length c0_3, .int .i64 a0_4] 27 (0, 0)) (by (with_reducible repeat (first | refine blk_drewN ?_ _ | refine blk_drew ?_ | refine blk_alloc ?_ _)); exact BK295.out) hb); have n1_ := Aside0.mk (below_step (by repeat (first | (with_reducible first | exact HB.out | apply below_alloc | apply pw_below_drewN | apply below_drew1 | refine below_set ?_ GE295.out) | exact HB.out)) hb); clear BK295; clear HB; have BK295 := n0_; have HB := n1_; clear n0_ n1_; (try clear hb); (try clear hb2); (try clear hk); (try clear hi)))
   go_ret
   exact ⟨by first | rfl | (simp [errW_none, errW_some] <;> rfl) | (simp [*, errW_none, errW_some] <;> rfl), by repeat (first | (with_reducible first | exact HB.out | apply below_alloc | apply pw_below_drewN | apply below_drew1 | refine below_set ?_ GE295.out) | exact HB.out)⟩
 ·replace c3 := Bool.eq_false_iff.mpr c3
  subst c3
  have H1 : (some false) = some r := by rw [if_neg (show ¬ (false = true) by decide)] at H; exact H
  clear H
  have H := H1
  clear H1
  exact absurd ((Option.some.inj H).trans HT.out) (by decide)

end Go.Proofs.YtclollnicbcooaaDoor.P
end

section
set_option linter.unusedVariables false
set_option linter.unusedSimpArgs false
namespace Go.Proofs.YtclollnicbcooaaDoor.Open
open Go Go.RowKit Go.ChangeShapes Go.WideShapes Go.Deep Go.Proofs.YtclollnicbcooaaDoorW.PrintWords

/-- What reads as data of type t is told by the kind d; 'wf': what is known of its numbers and texts. -/
structure Opens (P : Program) (t : TypeId) {α : Type} (d : Kd α) (wf : α → Prop) : Prop where
 sz : P.cellsOf t = d.sz
 down : ∀ {H : Type} {enc : TypeId × Value → H} {w : World} {base : Nat} {spare : Nat → Bool} {held : Bool} {fuel : Nat} {cs : List Value} {x : DataW H × List MemPlace},
  DataW.trod enc P w base spare held fuel t cs = some x → ∃ a : α, d.K w a cs ∧ wf a

variable {P : Program} {t e : TypeId} {α β : Type}

theorem opens_int {k : IntKind} (hc : P.cellsOf t = 1) (ht : P.underlying t = some (.int k)) : Opens P t (Kd.int k) (fun n => (Lit.int k n).wf = true) :=
 ⟨hc, fun h => by
  obtain ⟨n, rfl, _, hw⟩ := DataW.trod_int ht h
  exact ⟨n, rfl, hw⟩⟩
theorem opens_bool (hc : P.cellsOf t = 1) (ht : P.underlying t = some .bool) : Opens P t Kd.bool (fun _ => True) :=
 ⟨hc, fun h => by
  obtain ⟨b, rfl, _⟩ := DataW.trod_bool ht h
  exact ⟨b, rfl, trivial⟩⟩
theorem opens_string (hc : P.cellsOf t = 1) (ht : P.underlying t = some .string) : Opens P t Kd.string (fun s => s.size ≤ maxLen) :=
 ⟨hc, fun h => by
  obtain ⟨s, rfl, _, hs⟩ := DataW.trod_string ht h
  exact ⟨s, rfl, hs⟩⟩

theorem cells_at {w : World} {base n : Nat} {a : Addr} {cs : List Value} (h : w.cells? base a n = some cs) : cs.length = n ∧ ∀ i u, cs[i]? = some u → w.cell? (a.add i) = some u := by
 unfold World.cells? at h
 split at h
 ·have hl := mapM_some_length h
  rw [List.length_range] at hl
  refine ⟨hl, fun i u hu => ?_⟩
  have hi : i < n := by rw [← hl]; exact (List.getElem?_eq_some_iff.1 hu).1
  have := mapM_some_get h i i (by simp [hi])
  rw [this, hu]
 ·cases h

/-- A slice's elements, by the element's law. -/
theorem opens_slice {d : Kd α} {wf : α → Prop} (hc : P.cellsOf t = 1) (ht : P.underlying t = some (.slice e)) (he : Opens P e d wf) : Opens P t (Kd.slice e d) (fun xs => xs.length ≤ 9223372036854775807 ∧ ∀ x ∈ xs, wf x) :=
 ⟨hc, fun {H enc w base spare held fuel cs x} h => by
  rcases open_slice ht h with ⟨rfl, _⟩ | ⟨a, len, cap, m, n, D, Pl, rfl, hb, hl, hm, hmd, _, hel⟩
  ·exact ⟨[], ⟨none, 0, rfl, Nat.le_refl _, rfl, Nat.zero_le _, fun h => absurd h (Nat.lt_irrefl 0)⟩, Nat.zero_le _, fun x hx => by cases hx⟩
  ·have hlm : len ≤ m := by rw [hmd]; split <;> omega
   have hex : ∀ i, i < len → ∃ y : α, ∃ cs', w.cells? base (a.add (i * P.cellsOf e)) (P.cellsOf e) = some cs' ∧ d.K w y cs' ∧ wf y := fun i hi => by
    obtain ⟨cs', h1, h2⟩ := hel i (by omega)
    obtain ⟨y, hk, hw⟩ := he.down h2
    exact ⟨y, cs', h1, hk, hw⟩
   obtain ⟨f, hf⟩ : ∃ f : (i : Nat) → i < len → α, ∀ i hi, ∃ cs', w.cells? base (a.add (i * P.cellsOf e)) (P.cellsOf e) = some cs' ∧ d.K w (f i hi) cs' ∧ wf (f i hi) :=
    ⟨fun i hi => Classical.choose (hex i hi), fun i hi => Classical.choose_spec (hex i hi)⟩
   let xs : List α := List.ofFn (fun i : Fin len => f i.1 i.2)
   have hxl : xs.length = len := by simp [xs]
   refine ⟨xs, ⟨some a, cap, by rw [hxl], by rw [hxl]; exact hl, rfl, by rw [hxl]; unfold maxLen at hm; omega, fun _ => ⟨a, rfl, fun j p hj => ?_⟩⟩, by rw [hxl]; unfold maxLen at hm; omega, fun x hx => ?_⟩
   ·have hjl : j < len := by rw [← hxl]; exact (List.getElem?_eq_some_iff.1 hj).1
    obtain ⟨cs', h1, h2, _⟩ := hf j hjl
    have hp : p = f j hjl := by
     have := (List.getElem?_eq_some_iff.1 hj).2
     rw [← this]
     simp [xs]
    subst hp
    refine ⟨cs', d.K_len h2, h2, fun i u hu => ?_⟩
    have h3 := (cells_at h1).2 i u hu
    rw [Deep.add_add, he.sz] at h3
    exact h3
   ·obtain ⟨i, rfl⟩ := (List.mem_ofFn).1 hx
    exact (hf i.1 i.2).elim fun _ h => h.2.2⟩

/-- A struct's fields from one on. -/
structure OpensFs (P : Program) (fs : List Field) (off : Nat) {α : Type} (d : Kd α) (wf : α → Prop) : Prop where
 down : ∀ {H : Type} {enc : TypeId × Value → H} {w : World} {base : Nat} {spare : Nat → Bool} {held : Bool} {n : Nat} {cs : List Value}, cs.length = off + d.sz →
  (∀ f ∈ fs, ∃ y : DataW H × List MemPlace, DataW.trod enc P w base spare held n f.type ((cs.drop f.offset).take (P.cellsOf f.type)) = some y) → ∃ a : α, d.K w a (cs.drop off) ∧ wf a

theorem fields_one {f : Field} {off : Nat} {d : Kd α} {wf : α → Prop} (ho : f.offset = off) (hf : Opens P f.type d wf) : OpensFs P [f] off d wf :=
 ⟨fun {H enc w base spare held n cs} hl h => by
  obtain ⟨y, hy⟩ := h f (List.mem_singleton.2 rfl)
  rw [ho, hf.sz, List.take_of_length_le (by rw [List.length_drop]; omega)] at hy
  exact hf.down hy⟩
theorem fields_cons {f : Field} {fs : List Field} {off : Nat} {d : Kd α} {d' : Kd β} {wf : α → Prop} {wf' : β → Prop} (ho : f.offset = off) (hf : Opens P f.type d wf) (hr : OpensFs P fs (off + d.sz) d' wf') :
  OpensFs P (f :: fs) off (Kd.pair d d') (fun x => wf x.1 ∧ wf' x.2) :=
 ⟨fun {H enc w base spare held n cs} hl h => by
  have hl' : cs.length = off + (d.sz + d'.sz) := hl
  obtain ⟨y, hy⟩ := h f List.mem_cons_self
  rw [ho, hf.sz] at hy
  obtain ⟨a, ka, wa⟩ := hf.down hy
  obtain ⟨b, kb, wb⟩ := hr.down (by omega) (fun g hg => h g (List.mem_cons_of_mem _ hg))
  refine ⟨(a, b), ⟨_, _, ?_, ka, kb⟩, wa, wb⟩
  rw [← List.drop_drop, List.take_append_drop]⟩

theorem opens_struct {fs : Array Field} {d : Kd α} {wf : α → Prop} {f : β → α} (g : α → β) (hfg : ∀ a, f (g a) = a) (hc : P.cellsOf t = d.sz) (ht : P.underlying t = some (.struct fs)) (hf : OpensFs P fs.toList 0 d wf) :
  Opens P t (Kd.iso d f) (fun b => wf (f b)) :=
 ⟨hc, fun h => by
  obtain ⟨xs, n, rfl, _, hl, hx, hel⟩ := DataW.trod_struct ht h
  obtain ⟨a, ka, wa⟩ := hf.down (by rw [hl, hc]; simp) (fun q hq => by
   obtain ⟨i, hi, rfl⟩ := List.getElem_of_mem hq
   have h1 := hel i (fs.toList[i]) (by simp)
   have hi2 : i < xs.length := by rw [hx]; simpa using hi
   exact ⟨xs[i], by rw [h1]; exact List.getElem?_eq_getElem hi2⟩)
  exact ⟨g a, by show d.K _ (f (g a)) _; rw [hfg]; simpa using ka, by rw [hfg]; exact wa⟩⟩

/-- An array of two. -/
theorem opens_two {d : Kd α} {wf : α → Prop} {f : β → α × α} (g : α × α → β) (hfg : ∀ a, f (g a) = a) (hc : P.cellsOf t = d.sz + d.sz) (ht : P.underlying t = some (.array 2 e)) (he : Opens P e d wf) :
  Opens P t (Kd.iso (Kd.pair d d) f) (fun b => wf (f b).1 ∧ wf (f b).2) :=
 ⟨hc, fun {H enc w base spare held fuel cs x} h => by
  obtain ⟨xs, n, rfl, _, hl, hx, hel⟩ := DataW.trod_array ht h
  have h0 := hel 0 (by omega)
  have h1 := hel 1 (by omega)
  rw [List.getElem?_eq_getElem (by omega)] at h0 h1
  rw [he.sz] at h0 h1
  rw [Nat.zero_mul, List.drop_zero] at h0
  rw [Nat.one_mul, List.take_of_length_le (by rw [List.length_drop]; omega)] at h1
  obtain ⟨a, ka, wa⟩ := he.down h0
  obtain ⟨b, kb, wb⟩ := he.down h1
  refine ⟨g (a, b), ?_, by rw [hfg]; exact ⟨wa, wb⟩⟩
  show (Kd.pair d d).K w (f (g (a, b))) cs
  rw [hfg]
  exact ⟨_, _, (List.take_append_drop _ _).symm, ka, kb⟩⟩

/-- A value of more cells than one is written out. -/
theorem agg_of {v : Value} {cs : List Value} (h : v.cells.toList = cs) (hl : cs.length ≠ 1) : v = .agg cs.toArray := by
 subst h
 cases v <;> first | rfl | exact absurd rfl hl

end Go.Proofs.YtclollnicbcooaaDoor.Open
end

section
set_option linter.unusedVariables false
namespace Go.Proofs.YtclollnicbcooaaDoor.P
open Go.RowKit Go.Proofs.YtclollnicbcooaaDoor.Open Go.Proofs.YtclollnicbcooaaDoorW.PrintWords
def wf82 (x : S82) : Prop := (x.f0.size ≤ maxLen) ∧ ((x.f1.size ≤ maxLen) ∧ ((True) ∧ (((Lit.int .i64 x.f3).wf = true))))
theorem opens82 : Opens Tryd.prog 82 k82 wf82 := opens_struct (fun a => ⟨a.1, a.2.1, a.2.2.1, a.2.2.2⟩) (fun _ => rfl) (by kernel_rfl) Tryd.underlying82 (fields_cons rfl (opens_string (by kernel_rfl) Tryd.underlying9) (fields_cons rfl (opens_string (by kernel_rfl) Tryd.underlying9) (fields_cons rfl (opens_bool (by kernel_rfl) Tryd.underlying4) (fields_one rfl (opens_int (by kernel_rfl) Tryd.underlying3)))))
def wf101 (x : S101) : Prop := ((Lit.int .i64 x.f0).wf = true) ∧ (((Lit.int .i64 x.f1).wf = true))
theorem opens101 : Opens Tryd.prog 101 k101 wf101 := opens_two (fun a => ⟨a.1, a.2⟩) (fun _ => rfl) (by kernel_rfl) Tryd.underlying101 (opens_int (by kernel_rfl) Tryd.underlying3)
def wf64 (x : S64) : Prop := (x.f0.size ≤ maxLen) ∧ (((Lit.int .i64 x.f1).wf = true) ∧ ((x.f2.length ≤ 9223372036854775807 ∧ ∀ y ∈ x.f2, (Lit.int .i64 y).wf = true) ∧ (((Lit.int .i64 x.f3).wf = true))))
theorem opens64 : Opens Tryd.prog 64 k64 wf64 := opens_struct (fun a => ⟨a.1, a.2.1, a.2.2.1, a.2.2.2⟩) (fun _ => rfl) (by kernel_rfl) Tryd.underlying64 (fields_cons rfl (opens_string (by kernel_rfl) Tryd.underlying9) (fields_cons rfl (opens_int (by kernel_rfl) Tryd.underlying3) (fields_cons rfl (opens_slice (by kernel_rfl) Tryd.underlying62 (opens_int (by kernel_rfl) Tryd.underlying29)) (fields_one rfl (opens_int (by kernel_rfl) Tryd.underlying3)))))
def wf27 (x : S27) : Prop := (x.f0.length ≤ 9223372036854775807 ∧ ∀ y ∈ x.f0, wf82 y) ∧ ((x.f1.length ≤ 9223372036854775807 ∧ ∀ y ∈ x.f1, wf101 y) ∧ ((x.f2.length ≤ 9223372036854775807 ∧ ∀ y ∈ x.f2, y.size ≤ maxLen) ∧ ((x.f3.length ≤ 9223372036854775807 ∧ ∀ y ∈ x.f3, wf64 y) ∧ (((Lit.int .i64 x.f4).wf = true)))))
theorem opens27 : Opens Tryd.prog 27 k27 wf27 := opens_struct (fun a => ⟨a.1, a.2.1, a.2.2.1, a.2.2.2.1, a.2.2.2.2⟩) (fun _ => rfl) (by kernel_rfl) Tryd.underlying27 (fields_cons rfl (opens_slice (by kernel_rfl) Tryd.underlying22 opens82) (fields_cons rfl (opens_slice (by kernel_rfl) Tryd.underlying23 opens101) (fields_cons rfl (opens_slice (by kernel_rfl) Tryd.underlying24 (opens_string (by kernel_rfl) Tryd.underlying9)) (fields_cons rfl (opens_slice (by kernel_rfl) Tryd.underlying25 opens64) (fields_one rfl (opens_int (by kernel_rfl) Tryd.underlying3))))))
def wf37 (x : S37) : Prop := ((Lit.int .i64 x.f0).wf = true) ∧ (((Lit.int .i64 x.f1).wf = true))
end Go.Proofs.YtclollnicbcooaaDoor.P
end
