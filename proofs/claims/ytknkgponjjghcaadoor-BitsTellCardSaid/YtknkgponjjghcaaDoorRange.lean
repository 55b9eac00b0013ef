/- A range over a function whose iterator keeps a variable of its own in a cell (block b), and whose body never leaves early: the loop's rule. Conditions: the invariant bears stores to block b and turns of the loop's own two blocks; the body keeps block b. -/
import Derived.RangeFuncBox
import Derived.RangeFuncNested
import Derived.RangeFuncCalls
import Derived.RangeFuncLeaves
set_option linter.unusedVariables false
set_option linter.unusedSimpArgs false
namespace Go.Proofs.YtknkgponjjghcaaDoor
open Go Go.RowKit

/-- What bears that block b, or a block from B on that is no row of cells, turns. -/
def Bears {β : Type} (B b : Nat) (I : β → World → Prop) : Prop :=
  ∀ s W W' row, I s W → W.grownBy W' row → (∀ r, row = some r → r = b ∨ (B ≤ r ∧ ∃ o : Obj, W.heap[r]? = some o ∧ o.isCells = false)) → I s W'

/-- An iterator that hands over all of xs, at its own cell's block b. -/
def GivesCell {α : Type} (F : Fence) (n : Nat) (P : Program) (g : Nat) (lb : Array Value) (encs : α → Array Value) (b : Nat) (t : TypeId) (xs : List α) (G : World → Prop) (w : World) : Prop :=
  ∀ (l : Nat) (J : List α → World → Prop), (∀ s W W', J s W → W.grownBy W' (some b) → J s W') → (∀ s W, J s W → G W) →
    (∀ pre x W1 v, J pre W1 → pre.length < xs.length → Boxed W1 b t v → YieldAt F (n - 1) P l (encs x) W1 fun e W' => e = .returned (.bool true) ∧ J (pre ++ [x]) W' ∧ Boxed W' b t v) →
    ∀ W : World, J [] W → Below w.heap.size w W →
    CallsIn F n P g (#[.func (.yield l) #[] #[]] ++ lb) W fun e W' => (∃ v, e = .returned v) ∧ J xs W'

variable {F : Fence} {n : Nat} {P : Program}

theorem range_cell {α : Type} {g : Operand} {ps : Array Tmp} {assign body : Code} {Q : Exit → Act → World → Prop} {a : Act} {w : World}
    (hro : F.round = none) (h1 : 1 ≤ n) {gf : Nat} {lb : Array Value} (hg : a.eval g = .func (.func gf) #[] lb) (hFg : F.fn gf) (eg : ∀ args w, (callFunc gf args).run P w = .ok (.enter gf args) w)
    {encs : α → Array Value} {b : Nat} {t : TypeId} {xs : List α} {G : World → Prop} (hb : b < w.heap.size) (hseq : GivesCell F (n - 1) P gf lb encs b t xs G w) (hps : ∀ x, (encs x).size = ps.size)
    (I : List α → World → Prop) (hI : Bears w.heap.size b I) (hIG : ∀ s W, I s W → G W) (h0 : I [] w) (a₁ : α → Act)
    (hassign : ∀ (l : Nat) (x : α) (W : World) (K : Act → World → Prop), K (a₁ x) W →
      assign.wpIn (F.inRound l) (n - 1 - 1) P (Exit.then K (fun _ _ _ => False)) { tmps := (ps.zip (encs x)).foldl (fun t (p, v) => t.setIfInBounds p v) a.tmps, defers := [] } W)
    (hbody : ∀ (l : Nat) (pre : List α) (x : α) (W : World), I pre W → pre.length < xs.length →
      body.wpIn (F.inRound l) (n - 1 - 1) P (Exit.then (fun _ W' => KeepsFrom w.heap.size W W' ∧ (∀ v, Boxed W b t v → Boxed W' b t v) ∧ I (pre ++ [x]) W') (fun _ _ _ => False)) (a₁ x) W)
    (hdone : ∀ (D : Nat) (W : World), w.heap.size ≤ D → I xs W → W.heap[D]? = some (.deferred (some [])) → Q .normal { a with defers := { target := .collected D, args := #[] } :: a.defers } W) :
    (Code.rangeFunc g ps assign body).wpIn F n P Q a w := by
  refine wpIn_rangeFunc fun fn hfn => ?_
  rw [hro]
  -- the loop's record, by its state and its pending jump
  let rec_ : LoopState → Option Code → Loop := fun st pe => { state := st, pending := pe, fn, tmps := a.tmps, params := ps, assign, body, defers := w.heap.size }
  let wD := w.alloc (.deferred (some []))
  let wL := wD.alloc (.loop (rec_ .ready none))
  have sD : wD.heap.size = w.heap.size + 1 := World.size_alloc _ _
  have lL : wL.heap[w.heap.size + 1]? = some (.loop (rec_ .ready none)) := by rw [← sD]; exact World.alloc_heap_new wD _
  have lD : wL.heap[w.heap.size]? = some (.deferred (some [])) := (Below.heap_alloc wD _ _ (by rw [sD]; omega)).trans (World.alloc_heap_new w _)
  have iL : I [] wL := by
    have i1 : I [] wD := hI _ _ _ none h0 (World.grownBy_alloc w _ none) (by simp)
    exact hI _ _ _ none i1 (World.grownBy_alloc wD _ none) (by simp)
  have belowL : Below w.heap.size w wL := ((Below.refl _ w).alloc (Nat.le_refl _) _).alloc (by simp) _
  -- what holds between two rounds
  let J : List α → World → Prop := fun pre W => I pre W ∧ W.heap[w.heap.size + 1]? = some (.loop (rec_ .ready none)) ∧ W.heap[w.heap.size]? = some (.deferred (some []))
  have turn : ∀ {pre W} (r : Nat) (o o' : Obj), w.heap.size ≤ r → W.heap[r]? = some o → o.isCells = false → I pre W → I pre (W.putObj r o') := fun r o o' hr ho hc hi =>
    hI _ _ _ (some r) hi (grownBy_putObj' _ _ _) (fun r' e => by cases e; exact .inr ⟨hr, o, ho, hc⟩)
  have box : ∀ {W v} (r : Nat) (o o' : Obj), W.heap[r]? = some o → o.isCells = false → Boxed W b t v → Boxed (W.putObj r o') b t v := fun r o o' ho hc hv =>
    hv.kept (grownBy_putObj' _ r o') (fun e => by
      injection e with e
      subst e
      have h2 := ho.symm.trans hv
      injection h2 with h2
      subst h2
      cases hc)
  refine ⟨w.heap.size + 1, [{ target := .collected w.heap.size, args := #[] }], wL, { target := .fn (.func gf) lb, args := #[.func (.yield (w.heap.size + 1)) #[] #[]] }, wL, gf,
    #[.func (.yield (w.heap.size + 1)) #[] #[]] ++ lb, wL, run_enterLoop_outer _ _ _ _ _, ?_, ?_, ?_, fun _ => h1, ?_⟩
  · simp only [resolve, hg]
    simp [go_sem]
  · intro f' hf'
    simp [Target.leads] at hf'
    exact hf' ▸ hFg
  · simp [invoke, go_sem, eg]
  refine (hseq (w.heap.size + 1) J ?_ (fun s W h => hIG s W h.1) ?_ wL ⟨iL, lL, lD⟩ belowL).mono ?_
  · -- the iterator's store into its own cell
    rintro s W W' ⟨hi, hl, hk⟩ hg'
    refine ⟨hI _ _ _ (some b) hi hg' (fun r e => by cases e; exact .inl rfl), ?_, ?_⟩
    · exact (hg'.block _ (Array.getElem?_eq_some_iff.1 hl).1 (fun e => by injection e with e; omega)).trans hl
    · exact (hg'.block _ (Array.getElem?_eq_some_iff.1 hk).1 (fun e => by injection e with e; omega)).trans hk
  · -- a round
    rintro pre x W v ⟨hi, hl, hk⟩ hlen hv
    have hlt : w.heap.size + 1 < W.heap.size := (Array.getElem?_eq_some_iff.1 hl).1
    refine ⟨fn, _, assign, body, run_yield (P := P) (args := encs x) hl (hps x), roundIn_of_wpIn hfn (hassign _ x W _ ⟨_, run_beginRound hl rfl, ?_⟩)⟩
    let Wb := W.putObj (w.heap.size + 1) (.loop { rec_ .ready none with state := .busy })
    have lb2 : Wb.heap[w.heap.size + 1]? = some (.loop { rec_ .ready none with state := .busy }) := World.putObj_heap_same hlt
    have kb2 : Wb.heap[w.heap.size]? = some (.deferred (some [])) := (World.putObj_heap_other (by omega)).trans hk
    refine wpIn_mono (hbody _ pre x Wb (turn _ _ _ (by omega) hl rfl hi) hlen) ?_
    rintro e a3 W3 hp
    cases e with
    | normal =>
      obtain ⟨hk3, hb3, hi3⟩ := hp
      have l3 : W3.heap[w.heap.size + 1]? = some (.loop { rec_ .ready none with state := .busy }) := hk3.same _ _ (by omega) lb2 rfl
      have k3 : W3.heap[w.heap.size]? = some (.deferred (some [])) := hk3.same _ _ (Nat.le_refl _) kb2 rfl
      refine ⟨_, _, run_endRound none l3, rfl, ⟨turn _ _ _ (by omega) l3 rfl hi3, World.putObj_heap_same (Array.getElem?_eq_some_iff.1 l3).1, (World.putObj_heap_other (by omega)).trans k3⟩, ?_⟩
      exact box _ _ _ l3 rfl (hb3 v (box _ _ _ hl rfl hv))
    | _ => exact hp.elim
  · -- behind the iterator
    rintro e W2 ⟨⟨v, rfl⟩, hi, hl, hk⟩
    refine ⟨none, _, run_endLoop (P := P) hl (by simp [rec_]), hdone _ _ (Nat.le_refl _) (turn _ _ _ (by omega) hl rfl hi) ((World.putObj_heap_other (by omega)).trans hk)⟩

end Go.Proofs.YtknkgponjjghcaaDoor
