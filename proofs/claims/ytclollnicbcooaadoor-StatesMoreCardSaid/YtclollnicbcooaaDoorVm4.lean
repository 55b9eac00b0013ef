/- Texts of this claim put together: Open, Types, Px8, SRefV, Px9, Px10, Px2, Px11, Px12, Px13, Px14, Rf, Rf2, SFew, Pw, Pk, Pg, PureStatesMore, Glob. -/
import Derived.Test.YtclollnicbcooaaDoorVm0
import Derived.Deep.Slices
import Derived.OpenShut
import Derived.ShutString
import Derived.ProofKit
import Derived.Test.YtclollnicbcooaaDoorVm1
import Derived.IntWalk
import Derived.Test.YtclollnicbcooaaDoorVm2
import Derived.Test.YtclollnicbcooaaDoorVm3
import Derived.Test.YtclollnicbcooaaDoorRows
import Derived.Lib.LaidTab
import Derived.Lib.LaidU8
import Derived.LaidLaws
import Derived.Handed
set_option linter.unusedVariables false
set_option linter.unusedSimpArgs false
set_option linter.unusedSectionVars false
section
namespace Go.Proofs.YtclollnicbcooaaDoor.Open
open Go Go.RowKit Go.ChangeShapes Go.WideShapes Go.Deep Go.Proofs.YtclollnicbcooaaDoorW.PrintWords

/-- What reads as data of type t is told by the kind d; 'wf': what is known of its numbers and texts. -/
structure Opens (P : Program) (t : TypeId) {α : Type} (d : Kd α) (wf : α → Prop) : Prop where
 sz : P.cellsOf t = d.sz
 down : ∀ {H : Type} {enc : TypeId × Value → H} {w : World} {base : Nat} {spare : Nat → Bool} {held : Bool} {fuel : Nat} {cs : List Value} {x : DataW H × List MemPlace},
  DataW.trod enc P w base spare held fuel t cs = some x → ∃ a : α, d.K w a cs ∧ wf a

variable {P : Program} {t e : TypeId} {α β : Type}

theorem opens_int {k : IntKind} (hc : P.cellsOf t = 1) (ht : P.underlying t = some (.int k)) : Opens P t (Kd.int k) (fun n => (Lit.int k n).wf = true) :=
 ⟨hc, fun h => by
  obtain ⟨n, rfl, _, hw⟩ := DataW.trod_int ht h
  exact ⟨n, rfl, hw⟩⟩
theorem opens_bool (hc : P.cellsOf t = 1) (ht : P.underlying t = some .bool) : Opens P t Kd.bool (fun _ => True) :=
 ⟨hc, fun h => by
  obtain ⟨b, rfl, _⟩ := DataW.trod_bool ht h
  exact ⟨b, rfl, trivial⟩⟩
theorem opens_string (hc : P.cellsOf t = 1) (ht : P.underlying t = some .string) : Opens P t Kd.string (fun s => s.size ≤ maxLen) :=
 ⟨hc, fun h => by
  obtain ⟨s, rfl, _, hs⟩ := DataW.trod_string ht h
  exact ⟨s, rfl, hs⟩⟩

theorem cells_at {w : World} {base n : Nat} {a : Addr} {cs : List Value} (h : w.cells? base a n = some cs) : cs.length = n ∧ ∀ i u, cs[i]? = some u → w.cell? (a.add i) = some u := by
 unfold World.cells? at h
 split at h
 ·have hl := mapM_some_length h
  rw [List.length_range] at hl
  refine ⟨hl, fun i u hu => ?_⟩
  have hi : i < n := by rw [← hl]; exact (List.getElem?_eq_some_iff.1 hu).1
  have := mapM_some_get h i i (by simp [hi])
  rw [this, hu]
 ·cases h

/-- A slice's elements, by the element's law. -/
theorem opens_slice {d : Kd α} {wf : α → Prop} (hc : P.cellsOf t = 1) (ht : P.underlying t = some (.slice e)) (he : Opens P e d wf) : Opens P t (Kd.slice e d) (fun xs => xs.length ≤ 9223372036854775807 ∧ ∀ x ∈ xs, wf x) :=
 ⟨hc, fun {H enc w base spare held fuel cs x} h => by
  rcases open_slice ht h with ⟨rfl, _⟩ | ⟨a, len, cap, m, n, D, Pl, rfl, hb, hl, hm, hmd, _, hel⟩
  ·exact ⟨[], ⟨none, 0, rfl, Nat.le_refl _, rfl, Nat.zero_le _, fun h => absurd h (Nat.lt_irrefl 0)⟩, Nat.zero_le _, fun x hx => by cases hx⟩
  ·have hlm : len ≤ m := by rw [hmd]; split <;> omega
   have hex : ∀ i, i < len → ∃ y : α, ∃ cs', w.cells? base (a.add (i * P.cellsOf e)) (P.cellsOf e) = some cs' ∧ d.K w y cs' ∧ wf y := fun i hi => by
    obtain ⟨cs', h1, h2⟩ := hel i (by omega)
    obtain ⟨y, hk, hw⟩ := he.down h2
    exact ⟨y, cs', h1, hk, hw⟩
   obtain ⟨f, hf⟩ : ∃ f : (i : Nat) → i < len → α, ∀ i hi, ∃ cs', w.cells? base (a.add (i * P.cellsOf e)) (P.cellsOf e) = some cs' ∧ d.K w (f i hi) cs' ∧ wf (f i hi) :=
    ⟨fun i hi => Classical.choose (hex i hi), fun i hi => Classical.choose_spec (hex i hi)⟩
   let xs : List α := List.ofFn (fun i : Fin len => f i.1 i.2)
   have hxl : xs.length = len := by simp [xs]
   refine ⟨xs, ⟨some a, cap, by rw [hxl], by rw [hxl]; exact hl, rfl, by rw [hxl]; unfold maxLen at hm; omega, fun _ => ⟨a, rfl, fun j p hj => ?_⟩⟩, by rw [hxl]; unfold maxLen at hm; omega, fun x hx => ?_⟩
   ·have hjl : j < len := by rw [← hxl]; exact (List.getElem?_eq_some_iff.1 hj).1
    obtain ⟨cs', h1, h2, _⟩ := hf j hjl
    have hp : p = f j hjl := by
     have := (List.getElem?_eq_some_iff.1 hj).2
     rw [← this]
     simp [xs]
    subst hp
    refine ⟨cs', d.K_len h2, h2, fun i u hu => ?_⟩
    have h3 := (cells_at h1).2 i u hu
    rw [Deep.add_add, he.sz] at h3
    exact h3
   ·obtain ⟨i, rfl⟩ := (List.mem_ofFn).1 hx
    exact (hf i.1 i.2).elim fun _ h => h.2.2⟩

/-- A struct's fields from one on. -/
structure OpensFs (P : Program) (fs : List Field) (off : Nat) {α : Type} (d : Kd α) (wf : α → Prop) : Prop where
 down : ∀ {H : Type} {enc : TypeId × Value → H} {w : World} {base : Nat} {spare : Nat → Bool} {held : Bool} {n : Nat} {cs : List Value}, cs.length = off + d.sz →
  (∀ f ∈ fs, ∃ y : DataW H × List MemPlace, DataW.trod enc P w base spare held n f.type ((cs.drop f.offset).take (P.cellsOf f.type)) = some y) → ∃ a : α, d.K w a (cs.drop off) ∧ wf a

theorem fields_one {f : Field} {off : Nat} {d : Kd α} {wf : α → Prop} (ho : f.offset = off) (hf : Opens P f.type d wf) : OpensFs P [f] off d wf :=
 ⟨fun {H enc w base spare held n cs} hl h => by
  obtain ⟨y, hy⟩ := h f (List.mem_singleton.2 rfl)
  rw [ho, hf.sz, List.take_of_length_le (by rw [List.length_drop]; omega)] at hy
  exact hf.down hy⟩
theorem fields_cons {f : Field} {fs : List Field} {off : Nat} {d : Kd α} {d' : Kd β} {wf : α → Prop} {wf' : β → Prop} (ho : f.offset = off) (hf : Opens P f.type d wf) (hr : OpensFs P fs (off + d.sz) d' wf') :
  OpensFs P (f :: fs) off (Kd.pair d d') (fun x => wf x.1 ∧ wf' x.2) :=
 ⟨fun {H enc w base spare held n cs} hl h => by
  have hl' : cs.length = off + (d.sz + d'.sz) := hl
  obtain ⟨y, hy⟩ := h f List.mem_cons_self
  rw [ho, hf.sz] at hy
  obtain ⟨a, ka, wa⟩ := hf.down hy
  obtain ⟨b, kb, wb⟩ := hr.down (by omega) (fun g hg => h g (List.mem_cons_of_mem _ hg))
  refine ⟨(a, b), ⟨_, _, ?_, ka, kb⟩, wa, wb⟩
  rw [← List.drop_drop, List.take_append_drop]⟩

theorem opens_struct {fs : Array Field} {d : Kd α} {wf : α → Prop} {f : β → α} (g : α → β) (hfg : ∀ a, f (g a) = a) (hc : P.cellsOf t = d.sz) (ht : P.underlying t = some (.struct fs)) (hf : OpensFs P fs.toList 0 d wf) :
  Opens P t (Kd.iso d f) (fun b => wf (f b)) :=
 ⟨hc, fun h => by
  obtain ⟨xs, n, rfl, _, hl, hx, hel⟩ := DataW.trod_struct ht h
  obtain ⟨a, ka, wa⟩ := hf.down (by rw [hl, hc]; simp) (fun q hq => by
   obtain ⟨i, hi, rfl⟩ := List.getElem_of_mem hq
   have h1 := hel i (fs.toList[i]) (by simp)
   have hi2 : i < xs.length := by rw [hx]; simpa using hi
   exact ⟨xs[i], by rw [h1]; exact List.getElem?_eq_getElem hi2⟩)
  exact ⟨g a, by show d.K _ (f (g a)) _; rw [hfg]; simpa using ka, by rw [hfg]; exact wa⟩⟩

/-- An array of two. -/
theorem opens_two {d : Kd α} {wf : α → Prop} {f : β → α × α} (g : α × α → β) (hfg : ∀ a, f (g a) = a) (hc : P.cellsOf t = d.sz + d.sz) (ht : P.underlying t = some (.array 2 e)) (he : Opens P e d wf) :
  Opens P t (Kd.iso (Kd.pair d d) f) (fun b => wf (f b).1 ∧ wf (f b).2) :=
 ⟨hc, fun {H enc w base spare held fuel cs x} h => by
  obtain ⟨xs, n, rfl, _, hl, hx, hel⟩ := DataW.trod_array ht h
  have h0 := hel 0 (by omega)
  have h1 := hel 1 (by omega)
  rw [List.getElem?_eq_getElem (by omega)] at h0 h1
  rw [he.sz] at h0 h1
  rw [Nat.zero_mul, List.drop_zero] at h0
  rw [Nat.one_mul, List.take_of_length_le (by rw [List.length_drop]; omega)] at h1
  obtain ⟨a, ka, wa⟩ := he.down h0
  obtain ⟨b, kb, wb⟩ := he.down h1
  refine ⟨g (a, b), ?_, by rw [hfg]; exact ⟨wa, wb⟩⟩
  show (Kd.pair d d).K w (f (g (a, b))) cs
  rw [hfg]
  exact ⟨_, _, (List.take_append_drop _ _).symm, ka, kb⟩⟩

/-- A value of more cells than one is written out. -/
theorem agg_of {v : Value} {cs : List Value} (h : v.cells.toList = cs) (hl : cs.length ≠ 1) : v = .agg cs.toArray := by
 subst h
 cases v <;> first | rfl | exact absurd rfl hl

end Go.Proofs.YtclollnicbcooaaDoor.Open
end

section
namespace Go.Proofs.YtclollnicbcooaaDoor.P
open Go.RowKit Go.Proofs.YtclollnicbcooaaDoor.Open Go.Proofs.YtclollnicbcooaaDoorW.PrintWords
def wf82 (x : S82) : Prop := (x.f0.size ≤ maxLen) ∧ ((x.f1.size ≤ maxLen) ∧ ((True) ∧ (((Lit.int .i64 x.f3).wf = true))))
theorem opens82 : Opens Tryd.prog 82 k82 wf82 := opens_struct (fun a => ⟨a.1, a.2.1, a.2.2.1, a.2.2.2⟩) (fun _ => rfl) (by kernel_rfl) Tryd.underlying82 (fields_cons rfl (opens_string (by kernel_rfl) Tryd.underlying9) (fields_cons rfl (opens_string (by kernel_rfl) Tryd.underlying9) (fields_cons rfl (opens_bool (by kernel_rfl) Tryd.underlying4) (fields_one rfl (opens_int (by kernel_rfl) Tryd.underlying3)))))
def wf101 (x : S101) : Prop := ((Lit.int .i64 x.f0).wf = true) ∧ (((Lit.int .i64 x.f1).wf = true))
theorem opens101 : Opens Tryd.prog 101 k101 wf101 := opens_two (fun a => ⟨a.1, a.2⟩) (fun _ => rfl) (by kernel_rfl) Tryd.underlying101 (opens_int (by kernel_rfl) Tryd.underlying3)
def wf64 (x : S64) : Prop := (x.f0.size ≤ maxLen) ∧ (((Lit.int .i64 x.f1).wf = true) ∧ ((x.f2.length ≤ 9223372036854775807 ∧ ∀ y ∈ x.f2, (Lit.int .i64 y).wf = true) ∧ (((Lit.int .i64 x.f3).wf = true))))
theorem opens64 : Opens Tryd.prog 64 k64 wf64 := opens_struct (fun a => ⟨a.1, a.2.1, a.2.2.1, a.2.2.2⟩) (fun _ => rfl) (by kernel_rfl) Tryd.underlying64 (fields_cons rfl (opens_string (by kernel_rfl) Tryd.underlying9) (fields_cons rfl (opens_int (by kernel_rfl) Tryd.underlying3) (fields_cons rfl (opens_slice (by kernel_rfl) Tryd.underlying62 (opens_int (by kernel_rfl) Tryd.underlying29)) (fields_one rfl (opens_int (by kernel_rfl) Tryd.underlying3)))))
def wf27 (x : S27) : Prop := (x.f0.length ≤ 9223372036854775807 ∧ ∀ y ∈ x.f0, wf82 y) ∧ ((x.f1.length ≤ 9223372036854775807 ∧ ∀ y ∈ x.f1, wf101 y) ∧ ((x.f2.length ≤ 9223372036854775807 ∧ ∀ y ∈ x.f2, y.size ≤ maxLen) ∧ ((x.f3.length ≤ 9223372036854775807 ∧ ∀ y ∈ x.f3, wf64 y) ∧ (((Lit.int .i64 x.f4).wf = true)))))
theorem opens27 : Opens Tryd.prog 27 k27 wf27 := opens_struct (fun a => ⟨a.1, a.2.1, a.2.2.1, a.2.2.2.1, a.2.2.2.2⟩) (fun _ => rfl) (by kernel_rfl) Tryd.underlying27 (fields_cons rfl (opens_slice (by kernel_rfl) Tryd.underlying22 opens82) (fields_cons rfl (opens_slice (by kernel_rfl) Tryd.underlying23 opens101) (fields_cons rfl (opens_slice (by kernel_rfl) Tryd.underlying24 (opens_string (by kernel_rfl) Tryd.underlying9)) (fields_cons rfl (opens_slice (by kernel_rfl) Tryd.underlying25 opens64) (fields_one rfl (opens_int (by kernel_rfl) Tryd.underlying3))))))
def wf37 (x : S37) : Prop := ((Lit.int .i64 x.f0).wf = true) ∧ (((Lit.int .i64 x.f1).wf = true))
end Go.Proofs.YtclollnicbcooaaDoor.P
end

section
namespace Go.Proofs.YtclollnicbcooaaDoor.P
open Go.RowKit Go.Proofs.YtclollnicbcooaaDoorW.PrintWords Go.Proofs.YtclollnicbcooaaDoorW.PrintLast Go.Proofs.YtclollnicbcooaaDoorW.PrintMore
attribute [local go_sem] max2_int min2_int max_two min_two max_three min_three max_four min_four

/-! ### sl14_Row: function 14 -/
def sl14_Row.l0 : Nat → List (S37) → List (S39) → Int → Option ((List (S39)))
 | 0, _, _, _ => none
 | k + 1, x0, x3, x4 => if x4 < (x0.length : Int) then (if 0 ≤ x4 then (if x3.length < 8796093022208 then (sl14_Row.l0 k x0 (x3 ++ [(⟨(rd_T37 x0 x4).f0, (rd_T37 x0 x4).f1⟩ : S39)]) (wrap64 (x4 + 1))) else (none)) else (none)) else (some x3)
def sl14_Row.f (k : Nat) (l0 : List (S37)) : Option ((List (S39))) := sl14_Row.l0 k l0 ([] : List (S39)) 0
def sl14_Row.T5 : Bool × List (List Nat × List Nat) := (true, [([], []), ([], []), ([], []), ([1, 2], [1, 2]), ([3], [3]), ([4], [4]), ([], []), ([], []), ([6, 7], [6, 7]), ([8], [8]), ([9], [9]), ([5, 10], [5, 10]), ([11], [11]), ([0, 12], [0, 12]), ([13, 13, 0, 1, 2, 3, 4, 5, 6, 7, 8, 9, 10, 11, 12, 13], [0, 13])])
def sl14_Row.B5 : List Nat := [0, 0, 0, 6, 14, 30, 0, 0, 192, 448, 960, 2046, 4094, 8191, 16383]
/-! ### sr14_Right: function 37 -/
def sr14_Right.f (l0_0 : List (S82)) (l0_1 : List (S101)) (l0_2 : List ByteArray) (l0_3 : List (S64)) (a0_4 : Int) (a1 : Int) : Option (List Int) := if a1 = (-1) then (some (([wrap64 ((-1) - a0_4)] : List Int))) else (if 0 ≤ a1 then (if a1 < (l0_3.length : Int) then (some ((rd_T64 l0_3 a1).f2)) else (none)) else (none))
end Go.Proofs.YtclollnicbcooaaDoor.P
end

section
namespace Go.Proofs.YtclollnicbcooaaDoor.P
open Go.Proofs.YtclollnicbcooaaDoor.Base Go.RowKit Go.Proofs.YtclollnicbcooaaDoorW.PrintWords Go.Proofs.YtclollnicbcooaaDoorW.PrintLast Go.Proofs.YtclollnicbcooaaDoorW.PrintMore

def bad5 (l0 : List S82) (l2 : List ByteArray) (l3 : List S64) (st : Int) : Bool := decide (60 < l0.length) || decide (60 < l2.length) || decide (120 < l3.length) || decide (st < 0) || decide ((l2.length : Int) ≤ st)
section
variable {l0 : List S82} {l1 : List S101} {l2 : List ByteArray} {l3 : List S64} {st : Int}
theorem RisesTo.down {f : Int → ByteArray} {k n : Nat} (h : RisesTo f k) (hn : n ≤ k) : RisesTo f n := fun i h0 hi => h i h0 (by omega)
end
/-- As a printed function: the answer of symbols within what numbers there are. -/
def sr12_Valid.f (l0 : List S82) (l1 : List S101) (l2 : List ByteArray) (l3 : List S64) (st : Int) : Option Bool :=
 if ∀ p ∈ l3, ∀ s ∈ p.f2, -9223372036854775808 ≤ s ∧ s ≤ 9223372036854775807 then some (validB l0 l1 l2 l3 st) else none
end Go.Proofs.YtclollnicbcooaaDoor.P
end

section
namespace Go.Proofs.YtclollnicbcooaaDoor.P
open Go.RowKit Go.Proofs.YtclollnicbcooaaDoorW.PrintWords Go.Proofs.YtclollnicbcooaaDoorW.PrintLast Go.Proofs.YtclollnicbcooaaDoorW.PrintMore
attribute [local go_sem] max2_int min2_int max_two min_two max_three min_three max_four min_four

/-! ### sr14_Is: function 36 -/
def sr14_Is.f (l0_0 : List (S82)) (l0_1 : List (S101)) (l0_2 : List ByteArray) (l0_3 : List (S64)) (a0_4 : Int) (a1_0 : Int) (a1_1 : Int) : Option (Bool) := (sr12_Valid.f l0_0 l0_1 l0_2 l0_3 a0_4).bind fun t220 => (if t220 = true then (if a1_0 ≥ (-1) then (if a1_0 < (l0_3.length : Int) then (if a1_1 ≥ 0 then ((sr14_Right.f l0_0 l0_1 l0_2 l0_3 a0_4 a1_0).bind fun t221 => (some (decide (a1_1 ≤ (t221.length : Int))))) else (some false)) else (some false)) else (some false)) else (some false))
def sr14_Is.T2 : Bool × List (List Nat × List Nat) := (true, [([], []), ([0], [0]), ([1], [1]), ([2, 1], [1, 2]), ([3, 1], [1, 3]), ([1, 4], [1, 4]), ([5, 1], [5]), ([6], [6]), ([7, 6], [6, 7]), ([6], [6]), ([9, 6], [6, 9]), ([10, 6], [6, 10]), ([8, 11, 6], [6, 8, 11]), ([6, 12], [6, 12]), ([13, 6], [13]), ([14], [14]), ([15, 14], [14, 15]), ([16, 14], [14, 16]), ([14, 17], [14, 17]), ([18, 14], [18]), ([19], [19]), ([20, 19], [19, 20]), ([19], [19]), ([19], [19]), ([23, 19], [19, 23]), ([22, 24, 19, 19], [19, 22, 24]), ([25, 19], [19, 25]), ([21, 26, 19], [19, 21, 26]), ([19, 27], [19, 27]), ([28, 25, 0, 1, 2, 3, 4, 5, 6, 7, 8, 9, 10, 11, 12, 13, 14, 15, 16, 17, 18, 19, 20, 21, 22, 23, 24, 25, 26, 27, 28], [28])])
def sr14_Is.B2 : List Nat := [0, 1, 3, 7, 15, 31, 63, 127, 255, 127, 639, 1663, 4095, 8191, 16383, 32767, 65535, 131071, 262143, 524287, 1048575, 2097151, 1048575, 1048575, 9437183, 30408703, 63963135, 134217727, 268435455, 536870911]
end Go.Proofs.YtclollnicbcooaaDoor.P
end

section
namespace Go.Proofs.YtclollnicbcooaaDoor.P
open Go.RowKit Go.Proofs.YtclollnicbcooaaDoorW.PrintWords Go.Proofs.YtclollnicbcooaaDoorW.PrintLast Go.Proofs.YtclollnicbcooaaDoorW.PrintMore
attribute [local go_sem] max2_int min2_int max_two min_two max_three min_three max_four min_four

/-! ### sr14_Behind: function 16 -/
def sr14_Behind.f (l0_0 : List (S82)) (l0_1 : List (S101)) (l0_2 : List ByteArray) (l0_3 : List (S64)) (a0_4 : Int) (a1_0 : Int) (a1_1 : Int) : Option (Int × Bool) := (sr14_Is.f l0_0 l0_1 l0_2 l0_3 a0_4 a1_0 a1_1).bind fun t226 => (if t226 = true then ((sr14_Right.f l0_0 l0_1 l0_2 l0_3 a0_4 a1_0).bind fun t227 => (if a1_1 ≥ (t227.length : Int) then (some (0, false)) else ((sr14_Right.f l0_0 l0_1 l0_2 l0_3 a0_4 a1_0).bind fun t230 => (if 0 ≤ a1_1 then (if a1_1 < (t230.length : Int) then (some (rd t230 a1_1, true)) else (none)) else (none))))) else (some (0, false)))
def sr14_Behind.T1 : Bool × List (List Nat × List Nat) := (true, [([], []), ([], []), ([0, 1], [0, 1]), ([2], [2]), ([3, 2], [3]), ([4], [4]), ([5, 4], [4, 5]), ([4], [4]), ([4], [4]), ([8, 4], [4, 8]), ([7, 9, 4, 4], [4, 7, 9]), ([10, 4], [4, 10]), ([6, 11, 4], [4, 6, 11]), ([4, 12], [4, 12])])
def sr14_Behind.B1 : List Nat := [0, 0, 3, 7, 15, 31, 63, 31, 31, 287, 927, 1951, 4095, 8191]
def sr14_Behind.T3 : Bool × List (List Nat × List Nat) := (true, [([], []), ([], []), ([1], [1]), ([0, 2], [0, 2]), ([], []), ([4], [4]), ([3, 5], [3, 5]), ([6], [6]), ([7, 3, 0, 1, 2, 3, 4, 5, 6, 7], [7]), ([8, 0, 1, 2, 3, 4, 5, 6, 7, 8], [])])
def sr14_Behind.B3 : List Nat := [0, 0, 2, 7, 0, 16, 63, 127, 255, 511]
end Go.Proofs.YtclollnicbcooaaDoor.P
end

section
namespace Go.Proofs.YtclollnicbcooaaDoor.P
open Go.RowKit Go.Proofs.YtclollnicbcooaaDoorW.PrintWords Go.Proofs.YtclollnicbcooaaDoorW.PrintLast Go.Proofs.YtclollnicbcooaaDoorW.PrintMore
attribute [local go_sem] max2_int min2_int max_two min_two max_three min_three max_four min_four

theorem eqA39 (d : Nat) (w : World) (x0 y0 : Int) (x1 y1 : Int) :
  (Op.equalIn (d + 2) 39 (.agg #[.int .i64 x0, .int .i64 x1]) (.agg #[.int .i64 y0, .int .i64 y1])).run Tryd.prog w = .ok (x0 == y0 && (x1 == y1)) w := by
 refine eqA_of Tryd.underlying39 (by kernel_rfl) ?_
 refine eqf_cons (by rfl) (by go_simp; rfl) (by go_simp; rfl) (by go_simp) ?_
 exact eqf_last (by rfl) (by go_simp; rfl) (by go_simp; rfl) (by go_simp)
end Go.Proofs.YtclollnicbcooaaDoor.P
end

section
namespace Go.Proofs.YtclollnicbcooaaDoor.P
open Go.RowKit Go.Proofs.YtclollnicbcooaaDoorW.PrintWords Go.Proofs.YtclollnicbcooaaDoorW.PrintLast Go.Proofs.YtclollnicbcooaaDoorW.PrintMore
attribute [local go_sem] max2_int min2_int max_two min_two max_three min_three max_four min_four

attribute [local go_sem high] eqA39
/-! ### sr14_Row: function 17 -/
def sr14_Row.l0 : Nat → List (S39) → List (S39) → Int → Option (Bool)
 | 0, _, _, _ => none
 | k + 1, x0, x1, x5 => if x5 < (x0.length : Int) then (if 0 ≤ x5 then (if x5 < (x1.length : Int) then (if (!(((rd_T39 x0 x5).f0) == ((rd_T39 x1 x5).f0)) || (!(((rd_T39 x0 x5).f1) == ((rd_T39 x1 x5).f1)))) = true then (some false) else (sr14_Row.l0 k x0 x1 (wrap64 (x5 + 1)))) else (none)) else (none)) else (some true)
def sr14_Row.f (k : Nat) (l0 : List (S39)) (l1 : List (S39)) : Option (Bool) := if (l0.length : Int) = (l1.length : Int) then (sr14_Row.l0 k l0 l1 0) else (some false)
/-! ### sr14_has: function 39 -/
def sr14_has.l0 : Nat → List (S39) → Int → Int → Int → Option (Bool)
 | 0, _, _, _, _ => none
 | k + 1, x0, x5, xA, xB => if x5 < (x0.length : Int) then (if 0 ≤ x5 then (if (((rd_T39 x0 x5).f0) == xA && (((rd_T39 x0 x5).f1) == xB)) = true then (some true) else (sr14_has.l0 k x0 (wrap64 (x5 + 1)) xA xB)) else (none)) else (some false)
def sr14_has.f (k : Nat) (l0 : List (S39)) (a1_0 : Int) (a1_1 : Int) : Option (Bool) := sr14_has.l0 k l0 0 a1_0 a1_1
/-! ### sr14_less: function 69 -/
def sr14_less.f (a0_0 : Int) (a0_1 : Int) (a1_0 : Int) (a1_1 : Int) : Option (Bool) := if a0_0 < a1_0 then (some true) else (if a0_0 = a1_0 then (some (decide (a0_1 < a1_1))) else (some false))
end Go.Proofs.YtclollnicbcooaaDoor.P
end

section
namespace Go.Proofs.YtclollnicbcooaaDoor.P
open Go.RowKit Go.Proofs.YtclollnicbcooaaDoorW.PrintWords Go.Proofs.YtclollnicbcooaaDoorW.PrintLast Go.Proofs.YtclollnicbcooaaDoorW.PrintMore
attribute [local go_sem] max2_int min2_int max_two min_two max_three min_three max_four min_four

/-! ### sr14_rising: function 40 -/
mutual
def sr14_rising.l0 : Nat → List (S39) → List (S39) → Int → Option ((List (S39)))
 | 0, _, _, _ => none
 | k + 1, x0, x3, x4 => if x4 < (x0.length : Int) then (sr14_rising.l1 k x0 x3 x4 (-1) 0) else (some x3)
def sr14_rising.l1 : Nat → List (S39) → List (S39) → Int → Int → Int → Option ((List (S39)))
 | 0, _, _, _, _, _ => none
 | k + 1, x0, x3, x4, x5, x6 => if x6 < (x0.length : Int) then (if 0 ≤ x6 then ((sr14_has.f k x3 ((rd_T39 x0 x6).f0) ((rd_T39 x0 x6).f1)).bind fun t245 => (if t245 = true then (sr14_rising.l1 k x0 x3 x4 x5 (wrap64 (x6 + 1))) else (if x5 < 0 then (sr14_rising.l1 k x0 x3 x4 x6 (wrap64 (x6 + 1))) else (if 0 ≤ x5 then (if x5 < (x0.length : Int) then ((sr14_less.f ((rd_T39 x0 x6).f0) ((rd_T39 x0 x6).f1) ((rd_T39 x0 x5).f0) ((rd_T39 x0 x5).f1)).bind fun t248 => (if t248 = true then (sr14_rising.l1 k x0 x3 x4 x6 (wrap64 (x6 + 1))) else (sr14_rising.l1 k x0 x3 x4 x5 (wrap64 (x6 + 1))))) else (none)) else (none))))) else (none)) else (if x5 ≥ 0 then (if 0 ≤ x5 then (if x5 < (x0.length : Int) then (if x3.length < 8796093022208 then (sr14_rising.l0 k x0 (x3 ++ [(⟨(rd_T39 x0 x5).f0, (rd_T39 x0 x5).f1⟩ : S39)]) (wrap64 (x4 + 1))) else (none)) else (none)) else (none)) else (sr14_rising.l0 k x0 x3 (wrap64 (x4 + 1))))
end
def sr14_rising.f (k : Nat) (l0 : List (S39)) : Option ((List (S39))) := sr14_rising.l0 k l0 ([] : List (S39)) 0
def sr14_rising.T9 : Bool × List (List Nat × List Nat) := (true, [([], []), ([], []), ([], []), ([1, 2], [1, 2]), ([3], [3]), ([0, 4], [0, 4]), ([5], [5]), ([6, 5], [6]), ([7], [7]), ([8, 7], [7, 8]), ([9, 7, 7], [7, 9]), ([10], [10]), ([10], [10]), ([11, 12, 10], [10, 11, 12]), ([13, 10], [10, 13]), ([10], [10]), ([10], [10]), ([15, 16, 10], [10, 15, 16]), ([17, 10], [10, 17]), ([14, 18, 10, 10], [10, 14, 18]), ([10, 19, 7], [7, 10, 19]), ([7, 20], [7, 20])])
def sr14_rising.B9 : List Nat := [0, 0, 0, 6, 14, 31, 63, 127, 255, 511, 1023, 2047, 2047, 8191, 16383, 2047, 2047, 100351, 231423, 524287, 1048575, 2097151]
end Go.Proofs.YtclollnicbcooaaDoor.P
end

section
namespace Go.Proofs.YtclollnicbcooaaDoor.P
open Go.RowKit Go.Proofs.YtclollnicbcooaaDoorW.PrintWords Go.Proofs.YtclollnicbcooaaDoorW.PrintLast Go.Proofs.YtclollnicbcooaaDoorW.PrintMore
attribute [local go_sem] max2_int min2_int max_two min_two max_three min_three max_four min_four

/-! ### sr14_Close: function 19 -/
mutual
def sr14_Close.l0 : Nat → List (S39) → List (S39) → Int → List (S82) → List (S101) → List ByteArray → List (S64) → Int → Option ((List (S39)))
 | 0, _, _, _, _, _, _, _, _ => none
 | k + 1, x1, x5, x6, xA, xB, xC, xD, xE => if x6 < (x1.length : Int) then (if 0 ≤ x6 then ((sr14_Is.f xA xB xC xD xE ((rd_T39 x1 x6).f0) ((rd_T39 x1 x6).f1)).bind fun t251 => (if t251 = true then ((sr14_has.f k x5 ((rd_T39 x1 x6).f0) ((rd_T39 x1 x6).f1)).bind fun t253 => (if t253 = true then (sr14_Close.l0 k x1 x5 (wrap64 (x6 + 1)) xA xB xC xD xE) else (if x5.length < 8796093022208 then (sr14_Close.l0 k x1 (x5 ++ [(⟨(rd_T39 x1 x6).f0, (rd_T39 x1 x6).f1⟩ : S39)]) (wrap64 (x6 + 1)) xA xB xC xD xE) else (none)))) else (sr14_Close.l0 k x1 x5 (wrap64 (x6 + 1)) xA xB xC xD xE))) else (none)) else (sr14_Close.l1 k x5 0 xA xB xC xD xE)
def sr14_Close.l1 : Nat → List (S39) → Int → List (S82) → List (S101) → List ByteArray → List (S64) → Int → Option ((List (S39)))
 | 0, _, _, _, _, _, _, _ => none
 | k + 1, x5, x7, xA, xB, xC, xD, xE => if x7 < (x5.length : Int) then (if 0 ≤ x7 then ((sr14_Behind.f xA xB xC xD xE ((rd_T39 x5 x7).f0) ((rd_T39 x5 x7).f1)).bind fun bt262 => (sr14_Close.l2 k x5 x7 bt262.1 bt262.2 0 xA xB xC xD xE)) else (none)) else ((sr14_rising.f k x5).bind fun t258 => (some t258))
def sr14_Close.l2 : Nat → List (S39) → Int → Int → Bool → Int → List (S82) → List (S101) → List ByteArray → List (S64) → Int → Option ((List (S39)))
 | 0, _, _, _, _, _, _, _, _, _, _ => none
 | k + 1, x5, x7, x8, x9, x10, xA, xB, xC, xD, xE => if x10 < (xD.length : Int) then (if x9 = true then (sr14_Close.j3 k x5 x7 x8 x9 x10 (decide (x8 < 0)) xA xB xC xD xE) else (sr14_Close.j3 k x5 x7 x8 x9 x10 false xA xB xC xD xE)) else (sr14_Close.j3 k x5 x7 x8 x9 x10 false xA xB xC xD xE)
def sr14_Close.j3 : Nat → List (S39) → Int → Int → Bool → Int → Bool → List (S82) → List (S101) → List ByteArray → List (S64) → Int → Option ((List (S39)))
 | 0, _, _, _, _, _, _, _, _, _, _, _ => none
 | k + 1, x5, x7, x8, x9, x10, x66, xA, xB, xC, xD, xE => if x66 = true then (if 0 ≤ x10 then (if x10 < (xD.length : Int) then (if ((rd_T64 xD x10).f1) = (wrap64 ((-1) - x8)) then ((sr14_has.f k x5 x10 0).bind fun t266 => (if t266 = true then (sr14_Close.l2 k x5 x7 x8 x9 (wrap64 (x10 + 1)) xA xB xC xD xE) else (if x5.length < 8796093022208 then (sr14_Close.l2 k (x5 ++ [(⟨x10, 0⟩ : S39)]) x7 x8 x9 (wrap64 (x10 + 1)) xA xB xC xD xE) else (none)))) else (sr14_Close.l2 k x5 x7 x8 x9 (wrap64 (x10 + 1)) xA xB xC xD xE)) else (none)) else (none)) else (sr14_Close.l1 k x5 (wrap64 (x7 + 1)) xA xB xC xD xE)
end
def sr14_Close.f (k : Nat) (l0_0 : List (S82)) (l0_1 : List (S101)) (l0_2 : List ByteArray) (l0_3 : List (S64)) (a0_4 : Int) (l1 : List (S39)) : Option ((List (S39))) := sr14_Close.l0 k l1 ([] : List (S39)) 0 l0_0 l0_1 l0_2 l0_3 a0_4
def sr14_Close.T5 : Bool × List (List Nat × List Nat) := (true, [([], []), ([], []), ([], []), ([1, 2], [1, 2]), ([3], [3]), ([0, 4], [0, 4]), ([5, 5], [5]), ([6], [6]), ([6], [6]), ([6], [6]), ([8, 9, 6], [6, 8, 9]), ([10, 6], [6, 10]), ([7, 11, 6, 6], [6, 7, 11]), ([12, 6], [6, 12]), ([6, 13], [6, 13])])
def sr14_Close.B5 : List Nat := [0, 0, 0, 6, 14, 31, 63, 127, 127, 127, 895, 1919, 4095, 8191, 16383]
def sr14_Close.T10 : Bool × List (List Nat × List Nat) := (true, [([], []), ([], []), ([], []), ([1, 2], [1, 2]), ([3], [3]), ([0, 4], [0, 4]), ([5], [5]), ([6], [6]), ([6], [6]), ([7, 5, 0, 1, 2, 3, 4, 5, 6, 7], [7]), ([8, 9, 0, 1, 2, 3, 4, 5, 6, 7, 8, 9], [8])])
def sr14_Close.B10 : List Nat := [0, 0, 0, 6, 14, 31, 63, 127, 127, 255, 1023]
end Go.Proofs.YtclollnicbcooaaDoor.P
end

section
namespace Go.Proofs.YtclollnicbcooaaDoor.P
open Go.RowKit Go.Proofs.YtclollnicbcooaaDoorW.PrintWords Go.Proofs.YtclollnicbcooaaDoorW.PrintLast Go.Proofs.YtclollnicbcooaaDoorW.PrintMore
attribute [local go_sem] max2_int min2_int max_two min_two max_three min_three max_four min_four

/-! ### sr14_Step: function 21 -/
def sr14_Step.l0 : Nat → Int → List (S39) → List (S39) → Int → List (S82) → List (S101) → List ByteArray → List (S64) → Int → Option ((List (S39)))
 | 0, _, _, _, _, _, _, _, _, _ => none
 | k + 1, x2, x7, x8, x9, xA, xB, xC, xD, xE => if x9 < (x8.length : Int) then (if 0 ≤ x9 then ((sr14_Behind.f xA xB xC xD xE ((rd_T39 x8 x9).f0) ((rd_T39 x8 x9).f1)).bind fun bt275 => (if bt275.2 = true then (if bt275.1 = x2 then (if x7.length < 8796093022208 then (sr14_Step.l0 k x2 (x7 ++ [(⟨(rd_T39 x8 x9).f0, wrap64 (((rd_T39 x8 x9).f1) + 1)⟩ : S39)]) x8 (wrap64 (x9 + 1)) xA xB xC xD xE) else (none)) else (sr14_Step.l0 k x2 x7 x8 (wrap64 (x9 + 1)) xA xB xC xD xE)) else (sr14_Step.l0 k x2 x7 x8 (wrap64 (x9 + 1)) xA xB xC xD xE))) else (none)) else ((sr14_rising.f k x7).bind fun t282 => (some t282))
def sr14_Step.f (k : Nat) (l0_0 : List (S82)) (l0_1 : List (S101)) (l0_2 : List ByteArray) (l0_3 : List (S64)) (a0_4 : Int) (l1 : List (S39)) (a2 : Int) : Option ((List (S39))) := (sr14_Close.f k l0_0 l0_1 l0_2 l0_3 a0_4 l1).bind fun t271 => (sr14_Step.l0 k a2 ([] : List (S39)) t271 0 l0_0 l0_1 l0_2 l0_3 a0_4)
def sr14_Step.T6 : Bool × List (List Nat × List Nat) := (true, [([], []), ([], []), ([], []), ([1, 2], [1, 2]), ([3], [3]), ([0, 4], [0, 4]), ([5], [5]), ([6], [6]), ([6], [6]), ([7, 5, 0, 1, 2, 3, 4, 5, 6, 7], [7]), ([8, 9, 0, 1, 2, 3, 4, 5, 6, 7, 8, 9], [8])])
def sr14_Step.B6 : List Nat := [0, 0, 0, 6, 14, 31, 63, 127, 127, 255, 1023]
def sr14_Step.T8 : Bool × List (List Nat × List Nat) := (true, [([], []), ([], []), ([], []), ([1, 2], [1, 2]), ([3], [3]), ([4], [4]), ([], []), ([], []), ([6, 7], [6, 7]), ([8], [8]), ([9], [9]), ([10], [10]), ([5, 11], [5, 11]), ([12], [12]), ([0, 13], [0, 13]), ([14, 14, 0, 1, 2, 3, 4, 5, 6, 7, 8, 9, 10, 11, 12, 13, 14], [0, 14])])
def sr14_Step.B8 : List Nat := [0, 0, 0, 6, 14, 30, 0, 0, 192, 448, 960, 1984, 4094, 8190, 16383, 32767]
end Go.Proofs.YtclollnicbcooaaDoor.P
end

section
namespace Go.Proofs.YtclollnicbcooaaDoor.P
open Go.RowKit Go.Proofs.YtclollnicbcooaaDoorW.PrintWords Go.Proofs.YtclollnicbcooaaDoorW.PrintLast Go.Proofs.YtclollnicbcooaaDoorW.PrintMore St

def toJ (x : S39) : Itm := (x.f0, x.f1)
def ofJ (x : Itm) : S39 := ⟨x.1, x.2⟩
theorem wrap_up (i : Nat) (h : i < 9223372036854775807) : wrap64 ((i : Int) + 1) = ((i + 1 : Nat) : Int) := by unfold wrap64; omega

def AtR (l : List S39) (a : Int) (r : Option Itm) : Prop := (a = -1 ∧ r = none) ∨ ∃ (j : Nat) (h : j < l.length), a = (j : Int) ∧ r = some (toJ l[j])
section
variable {l0 : List S82} {l1 : List S101} {l2 : List ByteArray} {l3 : List S64} {st : Int} (h : Fits l2 l3 st) (hv : validB l0 l1 l2 l3 st = true) (hr : ∀ p ∈ l3, ∀ s ∈ p.f2, -9223372036854775808 ≤ s ∧ s ≤ 9223372036854775807)
include h hv hr
end
end Go.Proofs.YtclollnicbcooaaDoor.P
end

section
namespace Go.Proofs.YtclollnicbcooaaDoor.P
open Go.RowKit Go.Proofs.YtclollnicbcooaaDoorW.PrintWords Go.Proofs.YtclollnicbcooaaDoorW.PrintLast Go.Proofs.YtclollnicbcooaaDoorW.PrintMore St

theorem rd37 (l : List S37) (i : Nat) (h : i < l.length) : rd_T37 l (i : Int) = l[i] := by
 unfold rd_T37
 rw [Int.toNat_natCast, List.getD_eq_getElem?_getD, List.getElem?_eq_getElem h]
 rfl
section
variable {l0 : List S82} {l1 : List S101} {l2 : List ByteArray} {l3 : List S64} {st : Int} (h : Fits l2 l3 st) (hv : validB l0 l1 l2 l3 st = true) (hr : ∀ p ∈ l3, ∀ s ∈ p.f2, -9223372036854775808 ≤ s ∧ s ≤ 9223372036854775807)
include h hv hr
end

/-! ### of a grammar that may not be -/
section
variable {l0 : List S82} {l1 : List S101} {l2 : List ByteArray} {l3 : List S64} {st : Int} (hv : validB l0 l1 l2 l3 st = false) (hr : ∀ p ∈ l3, ∀ s ∈ p.f2, -9223372036854775808 ≤ s ∧ s ≤ 9223372036854775807)
include hv hr
end
end Go.Proofs.YtclollnicbcooaaDoor.P
end

section
namespace Go.Proofs.YtclollnicbcooaaDoor.P
open Go.RowKit Go.Proofs.YtclollnicbcooaaDoorW.PrintWords Go.Proofs.YtclollnicbcooaaDoorW.PrintLast Go.Proofs.YtclollnicbcooaaDoorW.PrintMore

theorem few_end (l0 : List S82) (l1 : List S101) (l2 : List ByteArray) (l3 : List S64) (st : Int) (k : Nat) (i : Int) :
  ∃ b, sl13_Few.j1 (k + 1) i false l0 l1 l2 l3 st = some b ∧ (b = true → l0.length ≤ 10 ∧ l2.length ≤ 8 ∧ l3.length ≤ 14 ∧ l1.length ≤ 30) := by
 unfold sl13_Few.j1
 rw [if_neg (by decide)]
 split
 ·split
  ·split
   ·exact ⟨_, rfl, fun h => by have := of_decide_eq_true h; omega⟩
   ·exact ⟨_, rfl, fun h => by cases h⟩
  ·exact ⟨_, rfl, fun h => by cases h⟩
 ·exact ⟨_, rfl, fun h => by cases h⟩

theorem few_l0 (l0 : List S82) (l1 : List S101) (l2 : List ByteArray) (l3 : List S64) (st : Int) : ∀ (m i : Nat), i + m = 15 → ∀ k, 2 * m + 2 ≤ k →
  ∃ b, sl13_Few.l0 k i l0 l1 l2 l3 st = some b ∧ (b = true → l0.length ≤ 10 ∧ l2.length ≤ 8 ∧ l3.length ≤ 14 ∧ l1.length ≤ 30)
 | m, i, hi, 0, hk => by omega
 | m, i, hi, 1, hk => by omega
 | 0, i, hi, k + 2, hk => by
  unfold sl13_Few.l0
  have e : decide ((i : Int) < 15) = false := decide_eq_false (by omega)
  rw [e]
  split
  ·exact few_end l0 l1 l2 l3 st k i
  ·exact few_end l0 l1 l2 l3 st k i
 | m + 1, i, hi, k + 2, hk => by
  unfold sl13_Few.l0
  have e : decide ((i : Int) < 15) = true := decide_eq_true (by omega)
  rw [e]
  split
  ·unfold sl13_Few.j1
   rw [if_pos rfl, if_pos (by omega), if_pos (by assumption)]
   split
   ·exact ⟨_, rfl, fun h => by cases h⟩
   ·have w : wrap64 ((i : Int) + 1) = ((i + 1 : Nat) : Int) := by unfold wrap64; omega
    rw [w]
    exact few_l0 l0 l1 l2 l3 st m (i + 1) (by omega) k (by omega)
  ·exact few_end l0 l1 l2 l3 st k i

theorem few_is (l0 : List S82) (l1 : List S101) (l2 : List ByteArray) (l3 : List S64) (st : Int) (k : Nat) (hk : 32 ≤ k) :
  ∃ b, sl13_Few.f k l0 l1 l2 l3 st = some b ∧ (b = true → l0.length ≤ 10 ∧ l2.length ≤ 8 ∧ l3.length ≤ 14 ∧ l1.length ≤ 30) :=
 few_l0 l0 l1 l2 l3 st 15 0 rfl k (by omega)

end Go.Proofs.YtclollnicbcooaaDoor.P
end

section
namespace Go.Proofs.YtclollnicbcooaaDoor.P
open Go.RowKit Go.Proofs.YtclollnicbcooaaDoorW.PrintWords Go.Proofs.YtclollnicbcooaaDoorW.PrintLast Go.Proofs.YtclollnicbcooaaDoorW.PrintMore St

theorem i64_range {x : Int} (h : (Lit.int .i64 x).wf = true) : -9223372036854775808 ≤ x ∧ x ≤ 9223372036854775807 := by
 have := bounds_i64 h
 omega
theorem prods_range {x : S27} (h : wf27 x) : ∀ p ∈ x.f3, ∀ s ∈ p.f2, -9223372036854775808 ≤ s ∧ s ≤ 9223372036854775807 :=
 fun p hp s hs => i64_range ((h.2.2.2.1.2 p hp).2.2.1.2 s hs)
theorem okP_of {l3 : List S64} (hr : ∀ p ∈ l3, ∀ s ∈ p.f2, -9223372036854775808 ≤ s ∧ s ≤ 9223372036854775807) : l3.all okP = true :=
 List.all_eq_true.2 fun p hp => List.all_eq_true.2 fun s hs => decide_eq_true (hr p hp s hs).1
/-! ### the program and the document -/
section
variable {l0 : List S82} {l1 : List S101} {l2 : List ByteArray} {l3 : List S64} {st : Int} (hr : ∀ p ∈ l3, ∀ s ∈ p.f2, -9223372036854775808 ≤ s ∧ s ≤ 9223372036854775807)
include hr
/-- The automaton is built, or has too many states. -/
theorem build_ok (hv : validB l0 l1 l2 l3 st = true) : (∃ R, builtL l0.length l2.length (gr st l3) = some R ∧ states_Build.f l0 l1 l2 l3 st = some (outB R)) := by
 obtain ⟨R, hR⟩ := buildL_ends (Sg (gr st l3)) (symsL l0.length l2.length) 2000 2001 2003 0 [[(-1, 0)]] [] (by omega) (by omega) (by simp)
 refine ⟨R, hR, ?_⟩
 unfold states_Build.f
 rw [if_pos hv, if_pos (okP_of hr)]
 show Option.map outB (builtL l0.length l2.length (gr st l3)) = _
 unfold builtL
 rw [hR]
 rfl
omit hr in
theorem build_not (hv : validB l0 l1 l2 l3 st = false) : states_Build.f l0 l1 l2 l3 st = some ([], [], 1) := by
 unfold states_Build.f
 rw [hv, if_neg (by decide)]
end
theorem built_is {T S : Nat} {g : Gr} {K : List (List Itm)} {N : List (List Int)} (h : builtL T S g = some (some (K, N))) : Built (Sg g) (symsL T S) [(-1, 0)] K N ∧ N.length = K.length :=
 buildL_is (Sg g) (symsL T S) 2000 [(-1, 0)] 2003 [[(-1, 0)]] [] (K, N) (Built.start _ _ _) h
end Go.Proofs.YtclollnicbcooaaDoor.P
end

section
namespace Go.Proofs.YtclollnicbcooaaDoor.P
open Go.RowKit Go.Proofs.YtclollnicbcooaaDoorW.PrintWords Go.Proofs.YtclollnicbcooaaDoorW.PrintLast Go.Proofs.YtclollnicbcooaaDoorW.PrintMore St

theorem works_true : sl14_works.f = some true := by
 have h1 := e_build
 have h2 := e_close
 have h3 := e_step
 have h4 : states_Behind.f e0 [] e2 e3 0 0 0 = some (0, true) := by kernel_rfl
 unfold e0 e2 e3 at h1 h2 h3 h4
 unfold sl14_works.f
 rw [Option.bind_some, Option.bind_some, Option.bind_some, h1, Option.bind_some, h2, Option.bind_some, h3, Option.bind_some, h4, Option.bind_some]
 show _ = some true
 kernel_rfl

end Go.Proofs.YtclollnicbcooaaDoor.P
end

section
namespace Go.Proofs.YtclollnicbcooaaDoor.P
open Go.RowKit Go.Proofs.YtclollnicbcooaaDoorW.PrintWords Go.Proofs.YtclollnicbcooaaDoorW.PrintLast Go.Proofs.YtclollnicbcooaaDoorW.PrintMore St

theorem little_l0 (x3 : Bool) (l0 : List S82) (l1 : List S101) (l2 : List ByteArray) (l3 : List S64) (st : Int) : ∀ (m i : Nat), i + m = 15 → ∃ b, Ev (fun k => sl14_Little.l0 k x3 i l0 l1 l2 l3 st) b
 | 0, i, hi => by
  refine ⟨if x3 = true then decide ((l3.length : Int) ≤ 10) else false, ?_⟩
  have hj : Ev (fun k => sl14_Little.j1 k x3 i false l0 l1 l2 l3 st) (if x3 = true then decide ((l3.length : Int) ≤ 10) else false) := by
   refine Ev.step (f := fun _ => some (if x3 = true then decide ((l3.length : Int) ≤ 10) else false)) (fun k => ?_) (Ev.now _)
   rw [sl14_Little.j1, if_neg (by decide)]
   split <;> rfl
  refine Ev.step (fun k => ?_) hj
  rw [sl14_Little.l0, decide_eq_false (by omega)]
  split <;> rfl
 | m + 1, i, hi => by
  have hw := wrap_up i (by omega)
  by_cases hlt : i < l3.length
  ·by_cases h5 : (((rd_T64 l3 (i : Int)).f2).length : Int) > 5
   ·refine ⟨false, ?_⟩
    have hj : Ev (fun k => sl14_Little.j1 k x3 i true l0 l1 l2 l3 st) false := by
     refine Ev.step (f := fun _ => some false) (fun k => ?_) (Ev.now _)
     rw [sl14_Little.j1, if_pos rfl, if_pos (by omega), if_pos (by omega), if_pos h5]
    refine Ev.step (fun k => ?_) hj
    rw [sl14_Little.l0, if_pos (by omega), decide_eq_true (by omega)]
   ·obtain ⟨b, ih⟩ := little_l0 x3 l0 l1 l2 l3 st m (i + 1) (by omega)
    refine ⟨b, ?_⟩
    have hj : Ev (fun k => sl14_Little.j1 k x3 i true l0 l1 l2 l3 st) b := by
     refine Ev.step (fun k => ?_) ih
     rw [sl14_Little.j1, if_pos rfl, if_pos (by omega), if_pos (by omega), if_neg h5, hw]
    refine Ev.step (fun k => ?_) hj
    rw [sl14_Little.l0, if_pos (by omega), decide_eq_true (by omega)]
  ·refine ⟨if x3 = true then decide ((l3.length : Int) ≤ 10) else false, ?_⟩
   have hj : Ev (fun k => sl14_Little.j1 k x3 i false l0 l1 l2 l3 st) (if x3 = true then decide ((l3.length : Int) ≤ 10) else false) := by
    refine Ev.step (f := fun _ => some (if x3 = true then decide ((l3.length : Int) ≤ 10) else false)) (fun k => ?_) (Ev.now _)
    rw [sl14_Little.j1, if_neg (by decide)]
    split <;> rfl
   refine Ev.step (fun k => ?_) hj
   rw [sl14_Little.l0, if_neg (by omega)]
theorem little_ev (l0 : List S82) (l1 : List S101) (l2 : List ByteArray) (l3 : List S64) (st : Int) : ∃ b, Ev (fun k => sl14_Little.f k l0 l1 l2 l3 st) b := by
 obtain ⟨b0, hf, -⟩ := few_is l0 l1 l2 l3 st 32 (Nat.le_refl _)
 obtain ⟨b, hb⟩ := little_l0 b0 l0 l1 l2 l3 st 15 0 rfl
 refine ⟨b, ?_⟩
 unfold sl14_Little.f
 exact Ev.bind (f := fun k t => sl14_Little.l0 k t 0 l0 l1 l2 l3 st) (Ev.of (fun k => sl13_Few.mono _ _ _ _ _ k) hf) hb

theorem rdL15 (K : List (List Itm)) (i : Nat) (h : i < K.length) : rd_L15 (K.map (·.map ofI)) (i : Int) = K[i].map ofI := by
 unfold rd_L15
 rw [Int.toNat_natCast, List.getD_eq_getElem?_getD, List.getElem?_map, List.getElem?_eq_getElem h]
 rfl
section
variable {l0 : List S82} {l1 : List S101} {l2 : List ByteArray} {l3 : List S64} {st : Int} (hv : validB l0 l1 l2 l3 st = true) (hr : ∀ p ∈ l3, ∀ s ∈ p.f2, -9223372036854775808 ≤ s ∧ s ≤ 9223372036854775807)
include hv
theorem built_small {K : List (List Itm)} {N : List (List Int)} (h : Built (Sg (gr st l3)) (symsL l0.length l2.length) [(-1, 0)] K N) : ∀ c ∈ K, c.length ≤ 1562 ∧ ∀ x ∈ c, rngI x := by
 intro c hc
 obtain ⟨j, hj, rfl⟩ := List.mem_iff_getElem.1 hc
 have hx : K[j]? = some K[j] := List.getElem?_eq_getElem hj
 by_cases h0 : j = 0
 ·subst h0
  have := h.first
  rw [hx] at this
  rw [Option.some.inj this]
  refine ⟨by simp, fun x hx => ?_⟩
  rw [List.mem_singleton] at hx
  subst hx
  unfold rngI
  simp only
  omega
 ·obtain ⟨i, d, s, _, _, _, _, e⟩ := h.come j _ hx h0
  rw [e]
  exact Sg_small (fits_of hv) d s
end
end Go.Proofs.YtclollnicbcooaaDoor.P
end

section
namespace Go.Proofs.YtclollnicbcooaaDoor.Pure
open Go.RowKit Go.Proofs.YtclollnicbcooaaDoor.P Go.Proofs.YtclollnicbcooaaDoorW.PrintWords Go.Proofs.YtclollnicbcooaaDoorW.PrintLast Go.Proofs.YtclollnicbcooaaDoorW.PrintMore St

theorem rdmore (C : List Itm) (i : Nat) (h : i < C.length) : rd_T37 (C.map ofI) (i : Int) = ⟨C[i].1, C[i].2⟩ := by
 rw [rd37 _ i (by rw [List.length_map]; exact h), List.getElem_map]
 rfl
section
variable {K L : List (List Itm)} {N M : List (List Int)} (hK : K.length ≤ 1000000) (hL : L.length ≤ 1000000) (hKs : ∀ c ∈ K, c.length ≤ 1562) (hLs : ∀ c ∈ L, c.length ≤ 1562)
include hK hL hKs hLs
theorem mo_l3 (i : Nat) (hi : i < K.length) (k : Nat) (hk : k < L.length) (found all : Bool) (j : Nat) (hj : j < K[i].length)
  (hE : Ev (fun f => sl14_StatesMore.l2 f true i found k (all && decide (K[i][j] ∈ L[k])) ((j + 1 : Nat) : Int) (K.map (·.map ofI)) N (L.map (·.map ofI)) M) true) :
  ∀ (m x : Nat) (b : Bool), x + m = L[k].length → b = decide (K[i][j] ∈ L[k].take x) → Ev (fun f => sl14_StatesMore.l3 f true i found k all j b x (K.map (·.map ofI)) N (L.map (·.map ofI)) M) true
 | 0, x, b, hx, hb => by
  have hci := hKs _ (List.getElem_mem hi)
  rw [show x = L[k].length by omega, List.take_length] at hb
  rw [← hb] at hE
  refine Ev.step (fun f => ?_) hE
  rw [sl14_StatesMore.l3, if_pos (by omega), if_pos (by rw [List.length_map]; omega), rdL15 L k hk, if_neg (by rw [List.length_map]; omega), wrap_up j (by omega)]
  cases all
  ·rw [if_neg (by decide)]; rfl
  ·rw [if_pos rfl, Bool.true_and]
 | m + 1, x, b, hx, hb => by
  have hci := hKs _ (List.getElem_mem hi)
  have hlt : x < L[k].length := by omega
  have hls := hLs _ (List.getElem_mem hk)
  have ih := mo_l3 i hi k hk found all j hj hE m (x + 1) (decide (K[i][j] ∈ L[k].take (x + 1))) (by omega) rfl
  have e : (K[i][j] ∈ L[k].take (x + 1)) ↔ (K[i][j] ∈ L[k].take x ∨ K[i][j] = L[k][x]) := by
   rw [List.take_add_one, List.getElem?_eq_getElem hlt, List.mem_append]
   simp
  refine Ev.step (fun f => ?_) ih
  rw [sl14_StatesMore.l3, if_pos (by omega), if_pos (by rw [List.length_map]; omega), rdL15 L k hk, if_pos (by rw [List.length_map]; omega), wrap_up x (by omega)]
  cases b with
  | true =>
   have hin := of_decide_eq_true hb.symm
   rw [if_pos rfl, decide_eq_true (e.2 (.inl hin))]
  | false =>
   have hin := of_decide_eq_false hb.symm
   rw [if_neg (by decide), if_pos (by omega), if_pos (by omega), if_pos (by rw [List.length_map]; omega), if_pos (by omega), rdL15 K i hi, if_pos (by rw [List.length_map]; omega), rdmore L[k] x hlt, rdmore K[i] j hj]
   congr 1
   rw [Bool.eq_iff_iff, Bool.and_eq_true, beq_iff_eq, beq_iff_eq, decide_eq_true_iff, e]
   constructor
   ·rintro ⟨h1, h2⟩
    exact .inr (Prod.ext h1.symm h2.symm)
   ·rintro (h | h)
    ·exact absurd h hin
    ·exact ⟨(congrArg Prod.fst h).symm, (congrArg Prod.snd h).symm⟩
theorem mo_l2 (i : Nat) (hi : i < K.length) (k : Nat) (hk : k < L.length) (found : Bool)
  (hE : Ev (fun f => sl14_StatesMore.l1 f true i (found || (K[i].all fun x => decide (x ∈ L[k]))) ((k + 1 : Nat) : Int) (K.map (·.map ofI)) N (L.map (·.map ofI)) M) true) :
  ∀ (m j : Nat) (all : Bool), j + m = K[i].length → all = ((K[i].take j).all fun x => decide (x ∈ L[k])) → Ev (fun f => sl14_StatesMore.l2 f true i found k all j (K.map (·.map ofI)) N (L.map (·.map ofI)) M) true
 | 0, j, all, hj, ha => by
  rw [show j = K[i].length by omega, List.take_length] at ha
  rw [← ha] at hE
  refine Ev.step (fun f => ?_) hE
  rw [sl14_StatesMore.l2, if_pos (by omega), if_pos (by rw [List.length_map]; omega), rdL15 K i hi, if_neg (by rw [List.length_map]; omega), wrap_up k (by omega)]
  cases found
  ·rw [if_neg (by decide), Bool.false_or]
  ·rw [if_pos rfl, Bool.true_or]
 | m + 1, j, all, hj, ha => by
  have hlt : j < K[i].length := by omega
  have hci := hKs _ (List.getElem_mem hi)
  have ih := mo_l2 i hi k hk found hE m (j + 1) (((K[i].take (j + 1)).all fun x => decide (x ∈ L[k]))) (by omega) rfl
  have e : ((K[i].take (j + 1)).all fun x => decide (x ∈ L[k])) = (all && decide (K[i][j] ∈ L[k])) := by
   rw [ha, List.take_add_one, List.getElem?_eq_getElem hlt, List.all_append]
   simp
  rw [e] at ih
  have h3 := mo_l3 hK hL hKs hLs i hi k hk found all j hlt ih L[k].length 0 false (by omega) (by simp)
  refine Ev.step (fun f => ?_) h3
  rw [sl14_StatesMore.l2, if_pos (by omega), if_pos (by rw [List.length_map]; omega), rdL15 K i hi, if_pos (by rw [List.length_map]; omega)]
  rfl
theorem mo_l1 (i : Nat) (hi : i < K.length) (hE : Ev (fun f => sl14_StatesMore.l0 f true ((i + 1 : Nat) : Int) (K.map (·.map ofI)) N (L.map (·.map ofI)) M) true) :
  ∀ (m k : Nat) (found : Bool), k + m = L.length → (found = true ∨ ∃ (t : Nat) (ht : t < L.length), k ≤ t ∧ ∀ x ∈ K[i], x ∈ L[t]) → Ev (fun f => sl14_StatesMore.l1 f true i found k (K.map (·.map ofI)) N (L.map (·.map ofI)) M) true
 | 0, k, found, hk, hf => by
  have hft : found = true := by
   rcases hf with h | ⟨t, ht, h, _⟩
   ·exact h
   ·omega
  subst hft
  refine Ev.step (fun f => ?_) hE
  rw [sl14_StatesMore.l1, if_neg (by rw [List.length_map]; omega), if_pos rfl, wrap_up i (by omega)]
 | m + 1, k, found, hk, hf => by
  have hlt : k < L.length := by omega
  have ih := mo_l1 i hi hE m (k + 1) (found || (K[i].all fun x => decide (x ∈ L[k]))) (by omega) (by
   rcases hf with h | ⟨t, ht, h1, h2⟩
   ·exact .inl (by rw [h, Bool.true_or])
   ·by_cases e : t = k
    ·subst e
     exact .inl (by rw [List.all_eq_true.2 (fun x hx => decide_eq_true (h2 x hx)), Bool.or_true])
    ·exact .inr ⟨t, ht, by omega, h2⟩)
  have h2 := mo_l2 hK hL hKs hLs i hi k hlt found ih K[i].length 0 true (by omega) (by simp)
  refine Ev.step (fun f => ?_) h2
  rw [sl14_StatesMore.l1, if_pos (by rw [List.length_map]; omega)]
  rfl
theorem mo_l0 (hw : ∀ (i : Nat) (hi : i < K.length), ∃ (t : Nat) (ht : t < L.length), ∀ x ∈ K[i], x ∈ L[t]) : ∀ (m i : Nat), i + m = K.length → Ev (fun f => sl14_StatesMore.l0 f true i (K.map (·.map ofI)) N (L.map (·.map ofI)) M) true
 | 0, i, hi => by
  refine Ev.step (f := fun _ => some true) (fun f => ?_) (Ev.now _)
  rw [sl14_StatesMore.l0, if_neg (by rw [List.length_map]; omega)]
 | m + 1, i, hi => by
  have hlt : i < K.length := by omega
  obtain ⟨t, ht, h⟩ := hw i hlt
  have h1 := mo_l1 hK hL hKs hLs i hlt (mo_l0 hw m (i + 1) (by omega)) L.length 0 false (by omega) (.inr ⟨t, ht, Nat.zero_le _, h⟩)
  refine Ev.step (fun f => ?_) h1
  rw [sl14_StatesMore.l0, if_pos (by rw [List.length_map]; omega)]
  rfl
end
theorem mo_rows (S : List Itm → Int → List Itm) (syms : List Int) (most : Nat) : ∀ (n i : Nat) (K : List (List Itm)) (N : List (List Int)) (R : List (List Itm) × List (List Int)), buildL S syms most n i K N = some (some R) → R.2.length ≤ N.length + n := by
 intro n
 induction n with
 | zero => intro i K N R h; cases h
 | succ n ih =>
  intro i K N R h
  rw [buildL] at h
  split at h
  ·have h := Option.some.inj (Option.some.inj h)
   rw [← h]
   simp only
   omega
  ·split at h
   ·cases h
   ·have := ih _ _ _ _ h
    rw [List.length_append, List.length_singleton] at this
    omega
theorem Sg_mem {l0 : List S82} {l1 : List S101} {l2 : List ByteArray} {l3 : List S64} {st : Int} (hv : validB l0 l1 l2 l3 st = true) (c : List Itm) (s : Int) (x : Itm) : x ∈ Sg (gr st l3) c s ↔ Sp (gr st l3) (Cl (gr st l3) (· ∈ c)) s x := by
 unfold Sg
 rw [(risen_is _).mem, stepL_mem]
 have hR := closedL_rise (fits_of hv) c
 exact ⟨fun ⟨y, h1, h2⟩ => ⟨y, (hR.mem y).1 h1, h2⟩, fun ⟨y, h1, h2⟩ => ⟨y, (hR.mem y).2 h1, h2⟩⟩
theorem gr_more (st : Int) (l3 : List S64) (p : S64) : gr st (l3 ++ [p]) = ⟨(gr st l3).start, (gr st l3).ps ++ [(p.f1, p.f2)]⟩ := by
 unfold gr
 rw [List.map_append]
 rfl
theorem StatesMore (x0 : S27) (x1 : S64) (w0 : wf27 x0) (w1 : wf64 x1) : ∃ k, sl14_StatesMore.f k x0.f0 x0.f1 x0.f2 x0.f3 x0.f4 x1.f0 x1.f1 x1.f2 x1.f3 = some true := by
 have hr := prods_range w0
 obtain ⟨p, hp⟩ : ∃ p : S64, p = ⟨⟨#[122, 122]⟩, x1.f1, x1.f2, x1.f3⟩ := ⟨_, rfl⟩
 have hr' : ∀ q ∈ x0.f3 ++ [p], ∀ s ∈ q.f2, -9223372036854775808 ≤ s ∧ s ≤ 9223372036854775807 := fun q hq s hs => by
  rcases List.mem_append.1 hq with h | h
  ·exact hr q h s hs
  ·rw [List.mem_singleton] at h
   subst h
   subst hp
   exact i64_range (w1.2.2.1.2 s hs)
 obtain ⟨b, Kb, hb⟩ := little_ev x0.f0 x0.f1 x0.f2 x0.f3 x0.f4
 have hout : Ev (fun k => sl14_StatesMore.j0 k true true x0.f0 x0.f1 x0.f2 x0.f3 x0.f4 x1.f0 x1.f1 x1.f2 x1.f3) true := by
  refine Ev.step (f := fun _ => some true) (fun k => ?_) (Ev.now _)
  rw [sl14_StatesMore.j0, if_pos rfl]
 have j1out : ∀ (a : List (List S37)) (b : List (List Int)) (c : List (List S37)) (d : List (List Int)), Ev (fun k => sl14_StatesMore.j1 k true true a b c d) true := fun a b c d => by
  refine Ev.step (f := fun _ => some true) (fun k => ?_) (Ev.now _)
  rw [sl14_StatesMore.j1, if_pos rfl]
 have main : ∃ r r', states_Build.f x0.f0 x0.f1 x0.f2 x0.f3 x0.f4 = some r ∧ states_Build.f x0.f0 x0.f1 x0.f2 (x0.f3 ++ [p]) x0.f4 = some r' ∧ Ev (fun k => if r.2.2 = 0 then sl14_StatesMore.j1 k true (r'.2.2 != 0) r.1 r.2.1 r'.1 r'.2.1 else sl14_StatesMore.j1 k true true r.1 r.2.1 r'.1 r'.2.1) true := by
  cases hv' : validB x0.f0 x0.f1 x0.f2 (x0.f3 ++ [p]) x0.f4 with
  | false =>
   have hf' := build_not hv'
   cases hv : validB x0.f0 x0.f1 x0.f2 x0.f3 x0.f4 with
   | false => exact ⟨_, _, build_not hv, hf', Ev.congr (fun k => by rw [if_neg (by decide)]) (j1out _ _ _ _)⟩
   | true =>
    obtain ⟨R, hR, hf⟩ := build_ok hr hv
    refine ⟨_, _, hf, hf', Ev.congr (fun k => ?_) (j1out (outB R).1 (outB R).2.1 [] [])⟩
    split <;> rfl
  | true =>
   obtain ⟨R', hR', hf'⟩ := build_ok hr' hv'
   cases hv : validB x0.f0 x0.f1 x0.f2 x0.f3 x0.f4 with
   | false => exact ⟨_, _, build_not hv, hf', Ev.congr (fun k => by rw [if_neg (by decide)]) (j1out _ _ _ _)⟩
   | true =>
    obtain ⟨R, hR, hf⟩ := build_ok hr hv
    refine ⟨_, _, hf, hf', ?_⟩
    cases R with
    | none => exact Ev.congr (fun k => by rw [if_neg (by decide)]) (j1out _ _ _ _)
    | some KN =>
     cases R' with
     | none => exact Ev.congr (fun k => by split <;> rfl) (j1out (outB (some KN)).1 (outB (some KN)).2.1 [] [])
     | some LM =>
      obtain ⟨K, N⟩ := KN
      obtain ⟨L, M⟩ := LM
      obtain ⟨hBu, hN⟩ := built_is hR
      obtain ⟨hBu', hM⟩ := built_is hR'
      have h1 := mo_rows _ _ _ _ _ _ _ _ hR
      have h2 := mo_rows _ _ _ _ _ _ _ _ hR'
      simp only [List.length_nil] at h1 h2
      have hw := within hBu hBu' hM (fun s hs => hs) (fun c d s hcd x hx => by
       rw [Sg_mem hv] at hx
       rw [Sg_mem hv', gr_more]
       exact sp_more (more_snoc _ _) _ _ hcd s x hx)
      have hz := mo_l0 (N := N) (M := M) (by omega : K.length ≤ 1000000) (by omega : L.length ≤ 1000000) (fun c hc => (built_small hv hBu c hc).1) (fun c hc => (built_small hv' hBu' c hc).1) (fun i hi => by
       obtain ⟨t, y, ht, hy⟩ := hw i K[i] (List.getElem?_eq_getElem hi)
       obtain ⟨htl, hte⟩ := List.getElem?_eq_some_iff.1 ht
       exact ⟨t, htl, by rw [hte]; exact hy⟩) K.length 0 (by omega)
      obtain ⟨K2, h3⟩ := hz
      refine ⟨K2 + 1, fun k hk => ?_⟩
      obtain ⟨k, rfl⟩ : ∃ j, k = j + 1 := ⟨k - 1, by omega⟩
      show (if (0 : Int) = 0 then sl14_StatesMore.j1 (k + 1) true ((0 : Int) != 0) (K.map (·.map ofI)) N (L.map (·.map ofI)) M else _) = some true
      rw [if_pos rfl, sl14_StatesMore.j1, if_neg (by decide)]
      exact h3 k (by omega)
 obtain ⟨r, r', hf, hf', hE⟩ := main
 have hj : (x0.f3.length : Int) ≤ 8 → Ev (fun k => sl14_StatesMore.j0 k true false x0.f0 x0.f1 x0.f2 x0.f3 x0.f4 x1.f0 x1.f1 x1.f2 x1.f3) true := fun hl => by
  refine Ev.step (fun k => ?_) hE
  rw [sl14_StatesMore.j0, if_neg (by decide), Option.bind_some, if_pos (by simp only [List.length_nil]; omega), Option.bind_some, Option.bind_some, if_pos (by simp only [List.nil_append, List.length_singleton]; omega), List.nil_append, ← hp, hf, Option.bind_some, hf', Option.bind_some]
 have hfin : Ev (fun k => if b = true then (if (x1.f2.length : Int) > 5 then (sl14_StatesMore.j0 k true true x0.f0 x0.f1 x0.f2 x0.f3 x0.f4 x1.f0 x1.f1 x1.f2 x1.f3) else (sl14_StatesMore.j0 k true (decide ((x0.f3.length : Int) > 8)) x0.f0 x0.f1 x0.f2 x0.f3 x0.f4 x1.f0 x1.f1 x1.f2 x1.f3)) else (sl14_StatesMore.j0 k true true x0.f0 x0.f1 x0.f2 x0.f3 x0.f4 x1.f0 x1.f1 x1.f2 x1.f3)) true := by
  cases b with
  | false => exact Ev.congr (fun k => by rw [if_neg (by decide)]) hout
  | true =>
   by_cases h5 : (x1.f2.length : Int) > 5
   ·exact Ev.congr (fun k => by rw [if_pos rfl, if_pos h5]) hout
   ·by_cases h8 : (x0.f3.length : Int) > 8
    ·exact Ev.congr (fun k => by rw [if_pos rfl, if_neg h5, decide_eq_true h8]) hout
    ·exact Ev.congr (fun k => by rw [if_pos rfl, if_neg h5, decide_eq_false h8]) (hj (by omega))
 obtain ⟨K3, h3⟩ := hfin
 refine ⟨Kb + K3, ?_⟩
 have h4 := hb (Kb + K3) (by omega)
 have h5 := h3 (Kb + K3) (by omega)
 dsimp only at h4 h5
 unfold sl14_StatesMore.f
 rw [works_true, Option.bind_some, if_pos rfl, h4, Option.bind_some]
 exact h5
end Go.Proofs.YtclollnicbcooaaDoor.Pure
end

section
namespace Go.Proofs.YtclollnicbcooaaDoor.Glob
open Go.ChangeShapes Go.WideShapes Go.ChangeAt Go.RowKit

def laidL : List (String × DataW Unit) := [("math/bits.deBruijn32tab", Rows.laid_math_bits_deBruijn32tab), ("math/bits.deBruijn64tab", Rows.laid_math_bits_deBruijn64tab), ("internal/strconv.uint64pow10", Rows.laid_internal_strconv_uint64pow10)]
theorem named : Tryd.prog.globalNamed "internal/strconv.uint64pow10" = some 0 := by kernel_rfl
theorem typed : (Tryd.prog.globals[0]?).map (·.type) = some 172 := by kernel_rfl
theorem und172 : Tryd.prog.underlying 172 = some (.array 20 75) := by kernel_rfl
theorem und75 : Tryd.prog.underlying 75 = some (.int .u64) := by kernel_rfl
theorem cells172 : Tryd.prog.cellsOf 172 = 20 := by kernel_rfl
theorem cells75 : Tryd.prog.cellsOf 75 = 1 := by kernel_rfl
theorem table_is : (Rows.laid_internal_strconv_uint64pow10 : DataW Unit) = Lib.tabData .u64 Lib.pow10Tab := by rfl
theorem of_laid {W : World} (h : laidMet Tryd.prog laidL W) : P.GTab W := by
 obtain ⟨g', t', cs, fuel, p, hg', ht', hvar, hd⟩ := Lib.laidMet.reads h (n := "internal/strconv.uint64pow10") (d := Rows.laid_internal_strconv_uint64pow10) (List.mem_cons_of_mem _ (List.mem_cons_of_mem _ List.mem_cons_self))
 obtain rfl := Option.some.inj (named.symm.trans hg')
 obtain rfl := Option.some.inj (typed.symm.trans ht')
 rw [table_is] at hd
 unfold P.GTab Lib.TabIs
 rw [hvar, ← Lib.cells_of_tab und172 und75 cells75 cells172 hd]

/-- A row of literals as cells. -/
def litCells : DataW Unit → Array Value
 | .agg l => (l.map fun | .lit (.int k z) => Value.int k z | _ => Value.int .i64 0).toArray
 | _ => #[]
noncomputable def laidWorld (os : Os) : World :=
 let w := World.holding Tryd.prog os ⟨#[], #[], []⟩
 let put (b : Nat) (cs : Array Value) (h : Array Obj) : Array Obj := h.modify b fun
   | .cells _ t frozen => .cells cs t frozen
   | o => o
 { w with heap := put 0 (litCells Rows.laid_internal_strconv_uint64pow10) (put 1 (litCells Rows.laid_math_bits_deBruijn32tab) (put 2 (litCells Rows.laid_math_bits_deBruijn64tab) w.heap)) }
theorem laid_met (os : Os) (args : Array Value) : laidMet Tryd.prog laidL ((laidWorld os).forCall (fun _ _ => 0) ⟨#[], args, []⟩).memory :=
 laidMet_of_run' 8 (by kernel_rfl) (by kernel_rfl)
end Go.Proofs.YtclollnicbcooaaDoor.Glob
end
