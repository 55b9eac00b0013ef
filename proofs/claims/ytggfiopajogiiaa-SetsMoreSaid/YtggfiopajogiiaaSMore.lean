/- sets.all's closure: what a production tells of its sort. Conditions: the captured boxes, the row that grows, the indices in range. -/
import Derived.Test.YtggfiopajogiiaaPx0
import Derived.Test.YtggfiopajogiiaaSBase
import Derived.IntWalk
set_option linter.unusedVariables false
set_option linter.unusedSimpArgs false
namespace Go.Proofs.Ytggfiopajogiiaa.P
open Go.RowKit Go.Proofs.YtggfiopajogiiaaW.PrintWords Go.Proofs.YtggfiopajogiiaaW.PrintLast Go.Proofs.YtggfiopajogiiaaW.PrintMore

/-- Is a symbol not (yet) so? -/
def badB (term : Bool) (xs : List Bool) (s : Int) : Bool := (decide (0 ≤ s) && !term) || (decide (s < 0) && !rdOf false xs (IntKind.i64.wrap (-1 - s)))
def moreB (term : Bool) (xs : List Bool) (p : S45) : Bool := if p.f2.any (badB term xs) then rdOf false xs p.f1 else true

theorem any_here {α : Type} (f : α → Bool) (l : List α) (k : Nat) (hk : k < l.length) (h : f l[k] = true) : l.any f = true := List.any_eq_true.2 ⟨l[k], List.getElem_mem hk, h⟩
theorem any_take {α : Type} (f : α → Bool) (l : List α) (k : Nat) (hk : k < l.length) : (l.take (k + 1)).any f = ((l.take k).any f || f l[k]) := by
  rw [List.take_add_one, List.getElem?_eq_getElem hk, List.any_append]
  simp
theorem rd_at (l : List Int) (k : Nat) (hk : k < l.length) : rd l (k : Int) = l[k] := by unfold rd; simp [List.getD, hk]

set_option maxHeartbeats 4000000 in
theorem all1_calls (term : Bool) (bt b5 G n cap : Nat) (xs : List Bool) (base : Nat) (ok : Nat → Prop) (p : S45) (A : Option Addr) (c : Nat) (w : World)
    (hbt : w.cell? ⟨bt, 0, none⟩ = some (.bool term)) (hb5 : w.cell? ⟨b5, 0, none⟩ = some (.slice (some ⟨G, 0, none⟩) n cap)) (hR : Kd.R Kd.bool 4 w base ok (.slice (some ⟨G, 0, none⟩) n cap) xs)
    (hp : Kd.C (Kd.int .i64) w A p.f2.length p.f2) (hs : ∀ s ∈ p.f2, s < 0 → 0 ≤ IntKind.i64.wrap (-1 - s) ∧ IntKind.i64.wrap (-1 - s) < n) (h0 : 0 ≤ p.f1) (h1 : p.f1 < n) :
    Calls Try.prog 47 #[.agg #[.string p.f0, .int .i64 p.f1, .slice A p.f2.length c, .int .i64 p.f3], .pointer (some ⟨bt, 0, none⟩), .pointer (some ⟨b5, 0, none⟩)] w fun e w' => e = .returned (.tuple #[.int .i64 p.f1, .bool (moreB term xs p)]) ∧ Below w.heap.size w w' := by
  have HR := Aside0.mk hR
  have HP := Aside0.mk hp
  have HS := Aside0.mk hs
  have Bt := Aside0.mk hbt
  have B5 := Aside0.mk hb5
  have hmx : p.f2.length ≤ 9223372036854775807 := hp.2.1
  have P0 := Aside0.mk h0
  have P1 := Aside0.mk h1
  have hu := Try.underlying45
  clear hR hp hs hbt hb5 h0 h1
  obtain ⟨nl, hnl⟩ : ∃ nl, p.f2.length = nl := ⟨_, rfl⟩
  rw [hnl] at hmx ⊢
  have HN := Aside0.mk hnl
  clear hnl
  obtain ⟨lab, hlab⟩ : ∃ lab, p.f0 = lab := ⟨_, rfl⟩
  obtain ⟨srt, hsrt⟩ : ∃ srt, p.f1 = srt := ⟨_, rfl⟩
  obtain ⟨cls, hcls⟩ : ∃ cls, p.f3 = cls := ⟨_, rfl⟩
  rw [hlab, hsrt, hcls]
  replace hsrt := Aside0.mk hsrt
  clear hlab hcls
  go_enter Try.func47, Try.ntmps47
  go_upto_region 1 with fail
  have HZ : Aside0 (Below w.heap.size w (w.alloc (Obj.cells #[.string lab, .int .i64 srt, .slice A nl c, .int .i64 cls] 45))) := ⟨below_alloc (Below.refl _ _) _⟩
  have G1 : (w.alloc (Obj.cells #[.string lab, .int .i64 srt, .slice A nl c, .int .i64 cls] 45)).cell? ⟨w.heap.size, 1, none⟩ = some (.int .i64 srt) := by go_simp
  have G2 : (w.alloc (Obj.cells #[.string lab, .int .i64 srt, .slice A nl c, .int .i64 cls] 45)).cell? ⟨w.heap.size, 2, none⟩ = some (.slice A nl c) := by go_simp
  generalize w.alloc (Obj.cells #[.string lab, .int .i64 srt, .slice A nl c, .int .i64 cls] 45) = wy at *
  replace HR := Aside0.mk (Kd.R_below HR.out HZ.out)
  replace HP := Aside0.mk (Kd.C_below HP.out HZ.out)
  replace Bt := Aside0.mk (pw_cell_below HZ.out Bt.out)
  replace B5 := Aside0.mk (pw_cell_below HZ.out B5.out)
  generalize hg : w.heap.size = gy at G1 G2 ⊢
  clear hg
  go_wp2
  replace G1 := Aside0.mk G1
  clear G2
  go_loopw [11] (fun v wr => ∃ k : Nat, v = .int .i64 k ∧ k ≤ nl ∧ Aside0 ((p.f2.take k).any (badB term xs) = false) ∧ Aside0 (∃ m, wr = wy.drewN m)) (fun v _ => nl - (intOf v).toNat)
  case atStart => exact ⟨0, rfl, Nat.zero_le _, ⟨by simp⟩, ⟨⟨0, rfl⟩⟩⟩
  case round =>
    obtain ⟨k, rfl, hk, HT, ⟨m, rfl⟩⟩ := hrel
    by_cases hlt : k < nl
    · have hltb : decide (k < nl) = true := decide_eq_true (by omega)
      have hlt' : k < p.f2.length := by rw [HN.out]; exact hlt
      obtain ⟨ad, e1, hx1⟩ := Kd.at_int HP.out (k : Int) (by omega) (by omega)
      rw [Int.toNat_natCast] at hx1
      obtain ⟨s, hsx⟩ : ∃ s, rd p.f2 (k : Int) = s := ⟨_, rfl⟩
      rw [hsx] at hx1
      rw [rd_at _ _ hlt'] at hsx
      subst e1
      have hmem : s < 0 → 0 ≤ IntKind.i64.wrap (-1 - s) ∧ IntKind.i64.wrap (-1 - s) < n := HS.out s (by rw [← hsx]; exact List.getElem_mem hlt')
      have HSX := Aside0.mk hsx
      have BT := Bt.out
      clear hsx
      by_cases hs0 : 0 ≤ s
      · have hb0 : decide (0 ≤ s) = true := decide_eq_true hs0
        have hb1 : decide (s < 0) = false := decide_eq_false (by omega)
        cases term
        · have g1 := G1.out
          have b5 := B5.out
          obtain ⟨hxs, -⟩ := Kd.R_celln false HR.out srt (by rw [← hsrt.out]; exact P0.out) (by rw [← hsrt.out]; exact P1.out)
          have q0 : (0 ≤ srt) = True := eq_true (by rw [← hsrt.out]; exact P0.out)
          have q1 : (srt < (n : Int)) = True := eq_true (by rw [← hsrt.out]; exact P1.out)
          go_wp2
          go_quiet (fail)
          go_wp2
          go_ret2
          exact ⟨by rw [moreB, if_pos (any_here _ _ k hlt' (by rw [HSX.out]; simp [badB, hb0])), hsrt.out]; rfl, pw_below_drewN (pw_below_drewN HZ.out _) _⟩
        · go_wp2
          go_roundw
          case rel => exact ⟨k + 1, rfl, by omega, ⟨by rw [any_take _ _ k hlt', HT.out, HSX.out]; simp [badB, hb0, hb1]⟩, ⟨⟨_, rfl⟩⟩⟩
          case measure => simp [intOf]; omega
      · have hb0 : decide (0 ≤ s) = false := decide_eq_false hs0
        have hb1 : decide (s < 0) = true := decide_eq_true (by omega)
        obtain ⟨hj0, hj1⟩ := hmem (by omega)
        obtain ⟨j, hj⟩ : ∃ j, IntKind.i64.wrap (-1 - s) = j := ⟨_, rfl⟩
        rw [hj] at hj0 hj1
        obtain ⟨hxj, -⟩ := Kd.R_celln false HR.out j hj0 hj1
        replace hj0 : (0 ≤ j) = True := eq_true hj0
        replace hj1 : (j < (n : Int)) = True := eq_true hj1
        have b5' := B5.out
        have HJ := Aside0.mk hj
        obtain ⟨o, ho⟩ : ∃ o, rdOf false xs j = o := ⟨_, rfl⟩
        rw [ho] at hxj
        have HO := Aside0.mk ho
        clear ho
        cases o
        · have g1 := G1.out
          have b5 := B5.out
          obtain ⟨hxs, -⟩ := Kd.R_celln false HR.out srt (by rw [← hsrt.out]; exact P0.out) (by rw [← hsrt.out]; exact P1.out)
          have q0 : (0 ≤ srt) = True := eq_true (by rw [← hsrt.out]; exact P0.out)
          have q1 : (srt < (n : Int)) = True := eq_true (by rw [← hsrt.out]; exact P1.out)
          go_wp2
          go_quiet (fail)
          go_wp2
          go_ret2
          exact ⟨by rw [moreB, if_pos (any_here _ _ k hlt' (by rw [HSX.out]; simp [badB, hb0, hb1, HJ.out, HO.out])), hsrt.out]; rfl, pw_below_drewN (pw_below_drewN HZ.out _) _⟩
        · go_wp2
          go_roundw
          case rel => exact ⟨k + 1, rfl, by omega, ⟨by rw [any_take _ _ k hlt', HT.out, HSX.out]; simp [badB, hb0, hb1, HJ.out, HO.out]⟩, ⟨⟨_, rfl⟩⟩⟩
          case measure => simp [intOf]; omega
    · have hltb : decide (k < nl) = false := decide_eq_false (by omega)
      have HA : Aside0 (p.f2.any (badB term xs) = false) := ⟨by have := HT.out; rwa [List.take_of_length_le (by rw [HN.out]; omega)] at this⟩
      replace G1 := G1.out
      go_wp2
      go_ret2
      exact ⟨by simp [moreB, HA.out], pw_below_drewN HZ.out _⟩

end Go.Proofs.Ytggfiopajogiiaa.P
