/- table.row: with what a row of symbols begins. Conditions: the table's cells; both of its rows are as long as there are sorts. -/
import Derived.Test.YtggfiopajogiiaaPx0
import Derived.Test.YtggfiopajogiiaaPx1
import Derived.IntWalk
set_option linter.unusedVariables false
set_option linter.unusedSimpArgs false
namespace Go.Proofs.Ytggfiopajogiiaa.P
open Go.RowKit Go.Proofs.YtggfiopajogiiaaW.PrintWords Go.Proofs.YtggfiopajogiiaaW.PrintLast Go.Proofs.YtggfiopajogiiaaW.PrintMore

def rowF (nT nS : Int) (es : List Bool) (fs : List Int) (behind : Int) : List Int → Int → Option Int
  | [], out => bits_Union.f out behind
  | s :: l, out => if nT ≤ s ∨ s < -nS then some out else if 0 ≤ s then bits_With.f out s else
      (bits_Union.f out (rd fs (-1 - s))).bind fun o => if rdOf false es (-1 - s) = true then rowF nT nS es fs behind l o else some o

theorem rowF_drop (nT nS : Int) (es : List Bool) (fs : List Int) (behind : Int) (l : List Int) (k : Nat) (hk : k < l.length) (out : Int) :
    rowF nT nS es fs behind (l.drop k) out = if nT ≤ l[k] ∨ l[k] < -nS then some out else if 0 ≤ l[k] then bits_With.f out l[k] else
      (bits_Union.f out (rd fs (-1 - l[k]))).bind fun o => if rdOf false es (-1 - l[k]) = true then rowF nT nS es fs behind (l.drop (k + 1)) o else some o := by
  rw [List.drop_eq_getElem_cons hk]; rfl

set_option maxHeartbeats 4000000 in
theorem row_calls (tb nT nS : Nat) (A0 A2 E F : Option Addr) (c0 c2 cE cF : Nat) (es : List Bool) (fs : List Int) (A : Option Addr) (c : Nat) (l : List Int) (behind r : Int) (w : World)
    (hl : Kd.C (Kd.int .i64) w A l.length l) (hnS : nS ≤ 60) (ht0 : w.cell? ⟨tb, 0, none⟩ = some (.slice A0 nT c0)) (ht2 : w.cell? ⟨tb, 2, none⟩ = some (.slice A2 nS c2)) (ht5 : w.cell? ⟨tb, 5, none⟩ = some (.slice E nS cE)) (ht6 : w.cell? ⟨tb, 6, none⟩ = some (.slice F nS cF))
    (hE : Kd.C Kd.bool w E nS es) (hF : Kd.C (Kd.int .u64) w F nS fs) (h : rowF nT nS es fs behind l 0 = some r) :
    Calls Try.prog 33 #[.pointer (some ⟨tb, 0, none⟩), .slice A l.length c, .int .u64 behind] w fun e w' => e = .returned (.int .u64 r) ∧ Drawn0 w w' := by
  have HL := Aside0.mk hl
  have HE := Aside0.mk hE
  have HF := Aside0.mk hF
  have H := Aside0.mk h
  have hmx : l.length ≤ 9223372036854775807 := hl.2.1
  have hu56 := Try.underlying56
  have hu27 := Try.underlying27
  have hneg : IntKind.i64.wrap (-(nS : Int)) = -(nS : Int) := IntWalk.i64_in _ (by omega)
  have HnS := Aside0.mk hnS
  clear hl hE hF h hnS
  go_enter Try.func33, Try.ntmps33
  go_wp2
  go_loopw [7, 12] (fun v7 v12 wr => ∃ (k : Nat) (out : Int), v7 = .int .u64 out ∧ v12 = .int .i64 k ∧ k ≤ l.length ∧ Aside0 (rowF nT nS es fs behind (l.drop k) out = some r) ∧ Aside0 (∃ m, wr = w.drewN m)) (fun _ v12 _ => l.length - (intOf v12).toNat)
  case atStart => exact ⟨0, 0, rfl, rfl, Nat.zero_le _, ⟨by rw [List.drop_zero]; exact H.out⟩, ⟨⟨0, rfl⟩⟩⟩
  case round =>
    obtain ⟨k, out, rfl, rfl, hk, HT, ⟨m, rfl⟩⟩ := hrel
    by_cases hlt : k < l.length
    · have hltb : decide (k < l.length) = true := decide_eq_true (by omega)
      obtain ⟨ad, e1, hx1⟩ := Kd.at_int HL.out (k : Int) (by omega) (by omega)
      rw [Int.toNat_natCast] at hx1
      have hrk : rd l (k : Int) = l[k] := by unfold rd; simp [List.getD, hlt]
      obtain ⟨s, hs⟩ : ∃ s, l[k] = s := ⟨_, rfl⟩
      rw [hrk, hs] at hx1
      have HT2 := HT.out
      rw [rowF_drop _ _ _ _ _ l k hlt, hs] at HT2
      clear hrk hs
      subst e1
      by_cases h1 : (nT : Int) ≤ s
      · rw [if_pos (.inl h1)] at HT2
        replace HT2 := Aside0.mk HT2
        go_wp2
        go_ret
        exact ⟨by have := HT2.out; injection this with this; rw [← this]; rfl, ⟨_, rfl⟩⟩
      · by_cases h2 : s < -(nS : Int)
        · rw [if_pos (.inr h2)] at HT2
          replace HT2 := Aside0.mk HT2
          have h2b : decide (s < -(nS : Int)) = true := decide_eq_true h2
          go_wp2
          go_ret
          exact ⟨by have := HT2.out; injection this with this; rw [← this]; rfl, ⟨_, rfl⟩⟩
        · rw [if_neg (by rintro (h | h) <;> omega)] at HT2
          have h2b : decide (s < -(nS : Int)) = false := decide_eq_false h2
          by_cases h3 : 0 ≤ s
          · rw [if_pos h3] at HT2
            replace HT2 := Aside0.mk HT2
            have h3b : decide (0 ≤ s) = true := decide_eq_true h3
            go_wp2_with (go_at_call 51; refine (bits_With.calls _ _ _ _ HT2.out).mono ?_; rintro e wx ⟨rfl, m2, rfl⟩)
            go_ret
            exact ⟨rfl, ⟨_, rfl⟩⟩
          · rw [if_neg h3] at HT2
            have h3b : decide (0 ≤ s) = false := decide_eq_false h3
            obtain ⟨j, hj⟩ : ∃ j, -1 - s = j := ⟨_, rfl⟩
            have hw : IntKind.i64.wrap (-1 - s) = j := by rw [IntWalk.i64_in _ (by have := HnS.out; omega)]; exact hj
            obtain ⟨adf, e2, hx2⟩ := Kd.at_int HF.out j (by omega) (by omega)
            obtain ⟨ade, e3, hx3⟩ := Kd.at_bool HE.out j (by omega) (by omega)
            subst e2
            subst e3
            rw [hj] at HT2
            have q0 : (0 ≤ j) = True := eq_true (by omega)
            have q1 : (j < (nS : Int)) = True := eq_true (by omega)
            obtain ⟨o, ho⟩ : ∃ o, rdOf false es j = o := ⟨_, rfl⟩
            obtain ⟨u, hu⟩ : ∃ u, bits_Union.f out (rd fs j) = some u := ⟨_, rfl⟩
            rw [ho] at HT2 hx3
            rw [hu] at HT2
            have HU := Aside0.mk hu
            clear ho hu hj
            cases o
            · replace HT2 : Aside0 (some u = some r) := ⟨by simpa using HT2⟩
              go_wp2_with (go_at_call 32; refine (bits_Union.calls _ _ _ _ HU.out).mono ?_; rintro e wx ⟨rfl, m2, rfl⟩)
              go_ret
              exact ⟨by have := HT2.out; injection this with this; rw [← this]; rfl, ⟨_, rfl⟩⟩
            · replace HT2 : Aside0 (rowF nT nS es fs behind (l.drop (k + 1)) u = some r) := ⟨by simpa using HT2⟩
              go_wp2_with (go_at_call 32; refine (bits_Union.calls _ _ _ _ HU.out).mono ?_; rintro e wx ⟨rfl, m2, rfl⟩)
              exact ⟨⟨k + 1, u, rfl, rfl, by omega, HT2, ⟨⟨_, rfl⟩⟩⟩, by simp [intOf]; omega⟩
    · have hltb : decide (k < l.length) = false := decide_eq_false (by omega)
      have HU : Aside0 (bits_Union.f out behind = some r) := ⟨by have := HT.out; rwa [List.drop_eq_nil_of_le (by omega)] at this⟩
      go_wp2_with (go_at_call 32; refine (bits_Union.calls _ _ _ _ HU.out).mono ?_; rintro e wx ⟨rfl, m2, rfl⟩)
      go_ret
      exact ⟨rfl, ⟨_, rfl⟩⟩

end Go.Proofs.Ytggfiopajogiiaa.P
