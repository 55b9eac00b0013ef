/- A word laid to the row of words: walked. Conditions: each theorem's own. -/
import Derived.Test.YtageaahlkiaigaaDoorPx0
import Derived.Test.YtageaahlkiaigaaDoorWd5
import Derived.Deep.RegionLaw
import Derived.Lib.SmallJoins
set_option linter.unusedVariables false
set_option linter.unusedSimpArgs false
namespace Go.Proofs.YtageaahlkiaigaaDoor.Wd
open Go Go.RowKit Go.Proofs.YtageaahlkiaigaaDoorW.PrintWords P

theorem info32 : (Tryd.prog.info? 32).map (fun i => (i.zero, i.size, i.bytes)) = some (some (.agg #[.int .i64 0, .string ⟨#[]⟩, .int .i64 0, .int .i64 0]), 4, 40) := by kernel_rfl

/-- The reader's own block, and the row of words that it holds. -/
structure RS (s : ByteArray) (B X : Nat) (w0 : World) (a : Int) (acc : List S32) (w : World) : Prop where
  at_ : ∃ lv, w.heap[X]? = some (.cells #[.string s, .int .i64 a, lv] 48 (0, 0)) ∧ k32.R 32 w B (fun k => k ≠ X) lv acc
  below : Below B w0 w
  ge : B ≤ X

theorem RS.lt {s : ByteArray} {B X : Nat} {w0 : World} {a : Int} {acc : List S32} {w : World} (h : RS s B X w0 a acc w) : X < w.heap.size := by
  obtain ⟨lv, h, _⟩ := h.at_
  rcases Nat.lt_or_ge X w.heap.size with h1 | h1
  · exact h1
  · rw [Array.getElem?_eq_none h1] at h; cases h
theorem RS.drew {s : ByteArray} {B X : Nat} {w0 : World} {a : Int} {acc : List S32} {w : World} (h : RS s B X w0 a acc w) : RS s B X w0 a acc w.drew := by
  obtain ⟨⟨lv, h1, h2⟩, h3, h4⟩ := h
  exact ⟨⟨lv, h1, Kd.R_move h2 fun _ _ => rfl⟩, h3.drew, h4⟩
/-- The place is set. -/
theorem RS.to {s : ByteArray} {B X : Nat} {w0 : World} {a : Int} {acc : List S32} {w : World} (h : RS s B X w0 a acc w) (a' : Int) : RS s B X w0 a' acc (w.setCell ⟨X, 1, none⟩ (.int .i64 a')) := by
  obtain ⟨⟨lv, h1, h2⟩, h3, h4⟩ := h
  exact ⟨⟨lv, heap_setCell_same w X 1 _ 48 _ h1, Kd.R_far h2 (fun k hk => hk) _⟩, h3.setCell h4 _, h4⟩
/-- The row is set. -/
theorem RS.row {s : ByteArray} {B X : Nat} {w0 : World} {a : Int} {w : World} {lv lv' : Value} {acc' : List S32} (h1 : w.heap[X]? = some (.cells #[.string s, .int .i64 a, lv] 48 (0, 0))) (h2 : k32.R 32 w B (fun k => k ≠ X) lv' acc') (h3 : Below B w0 w) (h4 : B ≤ X) : RS s B X w0 a acc' (w.setCell ⟨X, 2, none⟩ lv') :=
  ⟨⟨lv', heap_setCell_same w X 2 _ 48 _ h1, Kd.R_far h2 (fun k hk => hk) _⟩, h3.setCell h4 _, h4⟩

theorem froz {w : World} {X : Nat} {cs : Array Value} {t : TypeId} (h : w.heap[X]? = some (.cells cs t (0, 0))) (i : Nat) : w.frozen? ⟨X, i, none⟩ = false := by simp [World.frozen?, h]

set_option maxRecDepth 100000 in
set_option maxHeartbeats 4000000 in
theorem add_calls {s : ByteArray} {B X : Nat} {w0 : World} {a : Int} {acc : List S32} {w : World} (H : RS s B X w0 a acc w) (hl : acc.length < 20002) (ha : 0 ≤ a ∧ a ≤ 20000) (k : Int) (t : ByteArray) (n long : Int) (hlo : 0 ≤ long ∧ long ≤ 20000) :
    Calls Tryd.prog 27 #[.pointer (some ⟨X, 0, none⟩), .int .i64 k, .string t, .int .i64 n, .int .i64 long] w fun e w' => e = .returned (.tuple #[]) ∧ RS s B X w0 (a + long) (acc ++ [⟨k, t, n, a⟩]) w' := by
  obtain ⟨⟨lv, h1, h2⟩, h3, h4⟩ := H
  have hX : X < w.heap.size := by
    rcases Nat.lt_or_ge X w.heap.size with h | h
    · exact h
    · rw [Array.getElem?_eq_none h] at h1; cases h1
  have c1 : w.cell? ⟨X, 1, none⟩ = some (.int .i64 a) := by rw [Joins.cell_of_block h1]; rfl
  have c2 : w.cell? ⟨X, 2, none⟩ = some lv := by rw [Joins.cell_of_block h1]; rfl
  have key : ∀ (ops : Array Oper) (o : Oper) (ac : Act) (Q : Exit → Act → World → Prop) (Kc : Act → World → Prop) (hw : Region.wanted o (yielded ops ac.tmps) = true)
      (ho : o.op = .call { callee := .builtin .append, args := #[.tmp 14, .tmp 23], argTypes := #[26, 26] }) (hs : ac.eval (.tmp 14) = lv) (hx : ac.eval (.tmp 23) = .slice (some ⟨w.drew.heap.size, 0, none⟩) 1 1)
      (h : ∀ v1 w1, w1.heap[X]? = some (.cells #[.string s, .int .i64 a, lv] 48 (0, 0)) → k32.R 32 w1 B (fun k => k ≠ X) v1 (acc ++ [⟨k, t, n, a⟩]) → Below B w0 w1 → Kc (ac.put o.dst v1) w1),
      if Region.wanted o (yielded ops ac.tmps) = true then Oper.wp Tryd.prog o ac (w.drew.alloc (.cells #[.int .i64 k, .string t, .int .i64 n, .int .i64 a] 32)) Kc Q else Kc (ac.put o.dst undef) (w.drew.alloc (.cells #[.int .i64 k, .string t, .int .i64 n, .int .i64 a] 32)) := by
    intro ops o ac Q Kc hw ho hs hx h
    refine Kd.R_append_step k32 (w0 := w0) B hw (.tmp 14) (.tmp 23) 26 32 _ 40 ho (by kernel_rfl) info32 rfl (by decide) (by decide) lv acc ⟨k, t, n, a⟩ [.int .i64 k, .string t, .int .i64 n, .int .i64 a] (fun k => k ≠ X) (fun _ => False) hs hx (k32_mkM _ _ _ ⟨k, t, n, a⟩) (fun _ h => h.elim) (fun k hk => by have : w.drew.heap.size = w.heap.size := rfl; omega) (Kd.R_move h2 fun _ _ => rfl) h3.drew (by have : w.drew.heap.size = w.heap.size := rfl; omega) (by omega) ?_
    intro v1 w1 hR hB hg hat
    refine h v1 w1 ?_ hR hB
    rw [hg.block X hX (Kd.R_away h2 fun k hk => hk)]
    exact h1
  have KEY := Lib.hid key
  clear key
  have HX := Lib.hid h1
  clear h1
  go_enter Tryd.func27, Tryd.ntmps27
  go_wp2_with fail
  go_region_law (refine KEY.out _ _ _ _ _ (by rfl) rfl (by simp [Act.eval, Act.put]) (by simp [Act.eval, Act.put]) ?_; intro v1 w1 hh hR hB; obtain ⟨g, cap, rfl, _⟩ := Kd.R_form hR (by simp); have d2 : w1.cell? ⟨X, 2, none⟩ = some lv := (by rw [Joins.cell_of_block hh]; rfl); have f2 := froz hh 2; have d1 : w1.cell? ⟨X, 1, none⟩ = some (.int .i64 a) := (by rw [Joins.cell_of_block hh]; rfl); have f1 := froz hh 1; replace hh := Lib.hid hh)
  all_goals go_wp2
  all_goals go_end0
  all_goals
    have R := (RS.row hh.out hR hB h4).to (a + long)
    simp only [List.length_append, List.length_singleton] at R
    exact ⟨rfl, R⟩
end Go.Proofs.YtageaahlkiaigaaDoor.Wd
