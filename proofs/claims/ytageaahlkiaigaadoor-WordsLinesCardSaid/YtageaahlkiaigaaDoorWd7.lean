/- A line's end: walked. Conditions: each theorem's own. -/
import Derived.Test.YtageaahlkiaigaaDoorWd6
set_option linter.unusedVariables false
set_option linter.unusedSimpArgs false
namespace Go.Proofs.YtageaahlkiaigaaDoor.Wd
open Go Go.RowKit Go.Proofs.YtageaahlkiaigaaDoorW.PrintWords P

/-- No word is there, or an end is the last one. -/
def enS (acc : List S32) : Bool := (acc.length == 0) || ((rd_T32 acc ((acc.length : Int) - 1)).f0 == 4)
theorem enS_nil : enS [] = true := rfl
theorem enS_snoc (acc : List S32) (x : S32) : enS (acc ++ [x]) = (x.f0 == 4) := by
  have h : rd_T32 (acc ++ [x]) (((acc ++ [x]).length : Int) - 1) = x := by
    unfold rd_T32
    have : ((((acc ++ [x]).length : Nat) : Int) - 1).toNat = acc.length := by rw [List.length_append, List.length_singleton]; omega
    rw [this, List.getD_eq_getElem?_getD, List.getElem?_append_right (Nat.le_refl _)]
    simp
  unfold enS
  rw [h]; simp

theorem RS.drewN {s : ByteArray} {B X : Nat} {w0 : World} {a : Int} {acc : List S32} {w : World} (h : RS s B X w0 a acc w) (n : Nat) : RS s B X w0 a acc (w.drewN n) := by
  obtain ⟨⟨lv, h1, h2⟩, h3, h4⟩ := h
  exact ⟨⟨lv, h1, Kd.R_move h2 fun _ _ => rfl⟩, h3.trans ⟨rfl, rfl, rfl, Nat.le_refl _, fun _ _ => rfl⟩, h4⟩

set_option maxRecDepth 100000 in
set_option maxHeartbeats 4000000 in
theorem end_calls {s : ByteArray} {B X : Nat} {w0 : World} {a : Int} {acc : List S32} {w : World} (H : RS s B X w0 a acc w) (hl : acc.length < 20002) (ha : 0 ≤ a ∧ a ≤ 20000) (long : Int) (hlo : 0 ≤ long ∧ long ≤ 20000) :
    Calls Tryd.prog 22 #[.pointer (some ⟨X, 0, none⟩), .int .i64 long] w fun e w' => e = .returned (.tuple #[]) ∧ RS s B X w0 (a + long) (if enS acc then acc else acc ++ [⟨4, ⟨#[]⟩, 0, a⟩]) w' := by
  obtain ⟨lv, h1, h2⟩ := H.at_
  obtain ⟨A, c, rfl, hc, hC⟩ := Kd.R_reads h2
  have c1 : w.cell? ⟨X, 1, none⟩ = some (.int .i64 a) := by rw [Joins.cell_of_block h1]; rfl
  have c2 : w.cell? ⟨X, 2, none⟩ = some (.slice A acc.length c) := by rw [Joins.cell_of_block h1]; rfl
  have f1 := froz h1 1
  by_cases h0 : acc = []
  · subst h0
    rw [enS_nil, if_pos rfl]
    have HH := Lib.hid H
    clear h1 h2 hC H
    go_enter Tryd.func22, Tryd.ntmps22
    go_wp2_with fail
    go_quiet (fail)
    go_wp2
    go_end0
    exact ⟨rfl, (HH.out.drewN nq).to _⟩
  · have hp : 0 < acc.length := List.length_pos_iff.2 h0
    have hi : 0 < (acc.length : Int) := by omega
    have b1 : 1 ≤ (acc.length : Int) := by omega
    have hw : IntKind.i64.wrap ((acc.length : Int) - 1) = (acc.length : Int) - 1 := by rw [IntKind.wrap_i64]; omega
    have b2 : (acc.length : Int) - 1 < (acc.length : Int) := by omega
    obtain ⟨ad, hA, k0, _⟩ := at_T32 hC ((acc.length : Int) - 1) (by omega) (by omega)
    subst hA
    rw [show ((acc.length : Int) - 1).toNat = acc.length - 1 by omega] at k0
    have hen : enS acc = ((rd_T32 acc ((acc.length : Int) - 1)).f0 == 4) := by
      unfold enS; rw [beq_eq_false_iff_ne.2 (by omega)]; rfl
    cases hb : (rd_T32 acc ((acc.length : Int) - 1)).f0 == 4
    · have hb2 : ((rd_T32 acc ((acc.length : Int) - 1)).f0 != 4) = true := by rw [bne, hb]; rfl
      rw [hen, hb, if_neg (by decide)]
      have HH := Lib.hid H
      clear h1 h2 hC H hen
      go_enter Tryd.func22, Tryd.ntmps22
      go_wp2_with fail
      go_quiet (fail)
      go_wp2_with (go_at_call 27; (with_reducible refine (add_calls (HH.out.drewN nq) hl ha 4 ⟨#[]⟩ 0 long hlo).mono ?_); rintro e W1 ⟨rfl, hR⟩; replace hR := Lib.hid hR)
      refine bodyPost_ret (v := .tuple #[]) (results_none rfl _ _ _) rfl ⟨rfl, hR.out⟩
    · have hb2 : ((rd_T32 acc ((acc.length : Int) - 1)).f0 != 4) = false := by rw [bne, hb]; rfl
      rw [hen, hb, if_pos rfl]
      have HH := Lib.hid H
      clear h1 h2 hC H hen
      go_enter Tryd.func22, Tryd.ntmps22
      go_wp2_with fail
      go_quiet (fail)
      go_wp2
      go_end0
      exact ⟨rfl, (HH.out.drewN nq).to _⟩
end Go.Proofs.YtageaahlkiaigaaDoor.Wd
