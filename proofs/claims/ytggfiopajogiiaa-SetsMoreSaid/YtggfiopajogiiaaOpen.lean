/- What a parameter reads as is told by a kind: a law for each form of type (whole numbers, bools, strings, slices, structs, arrays of two). Conditions: the type's row of the program's table. -/
import Derived.Test.YtggfiopajogiiaaWMore
import Derived.Test.YtggfiopajogiiaaWWords
import Derived.Deep.Slices
import Derived.OpenShut
import Derived.ShutString
import Derived.ProofKit
set_option linter.unusedVariables false
set_option linter.unusedSimpArgs false
namespace Go.Proofs.Ytggfiopajogiiaa.Open
open Go Go.RowKit Go.ChangeShapes Go.WideShapes Go.Deep Go.Proofs.YtggfiopajogiiaaW.PrintWords

/-- What reads as data of type t is told by the kind d; 'wf': what is known of its numbers and texts. -/
structure Opens (P : Program) (t : TypeId) {α : Type} (d : Kd α) (wf : α → Prop) : Prop where
  sz : P.cellsOf t = d.sz
  down : ∀ {H : Type} {enc : TypeId × Value → H} {w : World} {base : Nat} {spare : Nat → Bool} {held : Bool} {fuel : Nat} {cs : List Value} {x : DataW H × List MemPlace},
    DataW.trod enc P w base spare held fuel t cs = some x → ∃ a : α, d.K w a cs ∧ wf a

variable {P : Program} {t e : TypeId} {α β : Type}

theorem opens_int {k : IntKind} (hc : P.cellsOf t = 1) (ht : P.underlying t = some (.int k)) : Opens P t (Kd.int k) (fun n => (Lit.int k n).wf = true) :=
  ⟨hc, fun h => by
    obtain ⟨n, rfl, _, hw⟩ := DataW.trod_int ht h
    exact ⟨n, rfl, hw⟩⟩
theorem opens_bool (hc : P.cellsOf t = 1) (ht : P.underlying t = some .bool) : Opens P t Kd.bool (fun _ => True) :=
  ⟨hc, fun h => by
    obtain ⟨b, rfl, _⟩ := DataW.trod_bool ht h
    exact ⟨b, rfl, trivial⟩⟩
theorem opens_string (hc : P.cellsOf t = 1) (ht : P.underlying t = some .string) : Opens P t Kd.string (fun s => s.size ≤ maxLen) :=
  ⟨hc, fun h => by
    obtain ⟨s, rfl, _, hs⟩ := DataW.trod_string ht h
    exact ⟨s, rfl, hs⟩⟩

theorem cells_at {w : World} {base n : Nat} {a : Addr} {cs : List Value} (h : w.cells? base a n = some cs) : cs.length = n ∧ ∀ i u, cs[i]? = some u → w.cell? (a.add i) = some u := by
  unfold World.cells? at h
  split at h
  · have hl := mapM_some_length h
    rw [List.length_range] at hl
    refine ⟨hl, fun i u hu => ?_⟩
    have hi : i < n := by rw [← hl]; exact (List.getElem?_eq_some_iff.1 hu).1
    have := mapM_some_get h i i (by simp [hi])
    rw [this, hu]
  · cases h

/-- A slice's elements, by the element's law. -/
theorem opens_slice {d : Kd α} {wf : α → Prop} (hc : P.cellsOf t = 1) (ht : P.underlying t = some (.slice e)) (he : Opens P e d wf) : Opens P t (Kd.slice e d) (fun xs => xs.length ≤ 9223372036854775807 ∧ ∀ x ∈ xs, wf x) :=
  ⟨hc, fun {H enc w base spare held fuel cs x} h => by
    rcases open_slice ht h with ⟨rfl, _⟩ | ⟨a, len, cap, m, n, D, Pl, rfl, hb, hl, hm, hmd, _, hel⟩
    · exact ⟨[], ⟨none, 0, rfl, Nat.le_refl _, rfl, Nat.zero_le _, fun h => absurd h (Nat.lt_irrefl 0)⟩, Nat.zero_le _, fun x hx => by cases hx⟩
    · have hlm : len ≤ m := by rw [hmd]; split <;> omega
      have hex : ∀ i, i < len → ∃ y : α, ∃ cs', w.cells? base (a.add (i * P.cellsOf e)) (P.cellsOf e) = some cs' ∧ d.K w y cs' ∧ wf y := fun i hi => by
        obtain ⟨cs', h1, h2⟩ := hel i (by omega)
        obtain ⟨y, hk, hw⟩ := he.down h2
        exact ⟨y, cs', h1, hk, hw⟩
      obtain ⟨f, hf⟩ : ∃ f : (i : Nat) → i < len → α, ∀ i hi, ∃ cs', w.cells? base (a.add (i * P.cellsOf e)) (P.cellsOf e) = some cs' ∧ d.K w (f i hi) cs' ∧ wf (f i hi) :=
        ⟨fun i hi => Classical.choose (hex i hi), fun i hi => Classical.choose_spec (hex i hi)⟩
      let xs : List α := List.ofFn (fun i : Fin len => f i.1 i.2)
      have hxl : xs.length = len := by simp [xs]
      refine ⟨xs, ⟨some a, cap, by rw [hxl], by rw [hxl]; exact hl, rfl, by rw [hxl]; unfold maxLen at hm; omega, fun _ => ⟨a, rfl, fun j p hj => ?_⟩⟩, by rw [hxl]; unfold maxLen at hm; omega, fun x hx => ?_⟩
      · have hjl : j < len := by rw [← hxl]; exact (List.getElem?_eq_some_iff.1 hj).1
        obtain ⟨cs', h1, h2, _⟩ := hf j hjl
        have hp : p = f j hjl := by
          have := (List.getElem?_eq_some_iff.1 hj).2
          rw [← this]
          simp [xs]
        subst hp
        refine ⟨cs', d.K_len h2, h2, fun i u hu => ?_⟩
        have h3 := (cells_at h1).2 i u hu
        rw [Deep.add_add, he.sz] at h3
        exact h3
      · obtain ⟨i, rfl⟩ := (List.mem_ofFn).1 hx
        exact (hf i.1 i.2).elim fun _ h => h.2.2⟩

/-- A struct's fields from one on. -/
structure OpensFs (P : Program) (fs : List Field) (off : Nat) {α : Type} (d : Kd α) (wf : α → Prop) : Prop where
  down : ∀ {H : Type} {enc : TypeId × Value → H} {w : World} {base : Nat} {spare : Nat → Bool} {held : Bool} {n : Nat} {cs : List Value}, cs.length = off + d.sz →
    (∀ f ∈ fs, ∃ y : DataW H × List MemPlace, DataW.trod enc P w base spare held n f.type ((cs.drop f.offset).take (P.cellsOf f.type)) = some y) → ∃ a : α, d.K w a (cs.drop off) ∧ wf a

theorem fields_one {f : Field} {off : Nat} {d : Kd α} {wf : α → Prop} (ho : f.offset = off) (hf : Opens P f.type d wf) : OpensFs P [f] off d wf :=
  ⟨fun {H enc w base spare held n cs} hl h => by
    obtain ⟨y, hy⟩ := h f (List.mem_singleton.2 rfl)
    rw [ho, hf.sz, List.take_of_length_le (by rw [List.length_drop]; omega)] at hy
    exact hf.down hy⟩
theorem fields_cons {f : Field} {fs : List Field} {off : Nat} {d : Kd α} {d' : Kd β} {wf : α → Prop} {wf' : β → Prop} (ho : f.offset = off) (hf : Opens P f.type d wf) (hr : OpensFs P fs (off + d.sz) d' wf') :
    OpensFs P (f :: fs) off (Kd.pair d d') (fun x => wf x.1 ∧ wf' x.2) :=
  ⟨fun {H enc w base spare held n cs} hl h => by
    have hl' : cs.length = off + (d.sz + d'.sz) := hl
    obtain ⟨y, hy⟩ := h f List.mem_cons_self
    rw [ho, hf.sz] at hy
    obtain ⟨a, ka, wa⟩ := hf.down hy
    obtain ⟨b, kb, wb⟩ := hr.down (by omega) (fun g hg => h g (List.mem_cons_of_mem _ hg))
    refine ⟨(a, b), ⟨_, _, ?_, ka, kb⟩, wa, wb⟩
    rw [← List.drop_drop, List.take_append_drop]⟩

theorem opens_struct {fs : Array Field} {d : Kd α} {wf : α → Prop} {f : β → α} (g : α → β) (hfg : ∀ a, f (g a) = a) (hc : P.cellsOf t = d.sz) (ht : P.underlying t = some (.struct fs)) (hf : OpensFs P fs.toList 0 d wf) :
    Opens P t (Kd.iso d f) (fun b => wf (f b)) :=
  ⟨hc, fun h => by
    obtain ⟨xs, n, rfl, _, hl, hx, hel⟩ := DataW.trod_struct ht h
    obtain ⟨a, ka, wa⟩ := hf.down (by rw [hl, hc]; simp) (fun q hq => by
      obtain ⟨i, hi, rfl⟩ := List.getElem_of_mem hq
      have h1 := hel i (fs.toList[i]) (by simp)
      have hi2 : i < xs.length := by rw [hx]; simpa using hi
      exact ⟨xs[i], by rw [h1]; exact List.getElem?_eq_getElem hi2⟩)
    exact ⟨g a, by show d.K _ (f (g a)) _; rw [hfg]; simpa using ka, by rw [hfg]; exact wa⟩⟩

/-- An array of two. -/
theorem opens_two {d : Kd α} {wf : α → Prop} {f : β → α × α} (g : α × α → β) (hfg : ∀ a, f (g a) = a) (hc : P.cellsOf t = d.sz + d.sz) (ht : P.underlying t = some (.array 2 e)) (he : Opens P e d wf) :
    Opens P t (Kd.iso (Kd.pair d d) f) (fun b => wf (f b).1 ∧ wf (f b).2) :=
  ⟨hc, fun {H enc w base spare held fuel cs x} h => by
    obtain ⟨xs, n, rfl, _, hl, hx, hel⟩ := DataW.trod_array ht h
    have h0 := hel 0 (by omega)
    have h1 := hel 1 (by omega)
    rw [List.getElem?_eq_getElem (by omega)] at h0 h1
    rw [he.sz] at h0 h1
    rw [Nat.zero_mul, List.drop_zero] at h0
    rw [Nat.one_mul, List.take_of_length_le (by rw [List.length_drop]; omega)] at h1
    obtain ⟨a, ka, wa⟩ := he.down h0
    obtain ⟨b, kb, wb⟩ := he.down h1
    refine ⟨g (a, b), ?_, by rw [hfg]; exact ⟨wa, wb⟩⟩
    show (Kd.pair d d).K w (f (g (a, b))) cs
    rw [hfg]
    exact ⟨_, _, (List.take_append_drop _ _).symm, ka, kb⟩⟩

theorem opens_wf {d : Kd α} {wf wf' : α → Prop} (h : Opens P t d wf) (hw : ∀ a, wf a → wf' a) : Opens P t d wf' :=
  ⟨h.sz, fun x => by obtain ⟨a, k, w⟩ := h.down x; exact ⟨a, k, hw a w⟩⟩

/-- A value of more cells than one is written out. -/
theorem agg_of {v : Value} {cs : List Value} (h : v.cells.toList = cs) (hl : cs.length ≠ 1) : v = .agg cs.toArray := by
  subst h
  cases v <;> first | rfl | exact absurd rfl hl

end Go.Proofs.Ytggfiopajogiiaa.Open
