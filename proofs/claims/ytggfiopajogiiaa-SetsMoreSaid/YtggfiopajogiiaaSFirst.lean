/- sets.First: with what sorts begin. -/
import Derived.Test.YtggfiopajogiiaaSKnown
set_option linter.unusedVariables false
set_option linter.unusedSimpArgs false
namespace Go.Proofs.Ytggfiopajogiiaa.P
open Go.Proofs.Ytggfiopajogiiaa.Base Go.RowKit Go.Proofs.YtggfiopajogiiaaW.PrintWords Go.Proofs.YtggfiopajogiiaaW.PrintLast Go.Proofs.YtggfiopajogiiaaW.PrintMore

theorem With_some (out s : Int) (h0 : 0 ≤ s) (h1 : s < 64) : ∃ q, bits_With.f out s = some q := by
  unfold bits_With.f bits_bit.f
  rw [if_neg (by omega), if_neg (by omega), if_pos h0]
  exact ⟨_, rfl⟩

theorem rowF_total (nT nS : Int) (hT : nT ≤ 60) (es : List Bool) (fs : List Int) (behind : Int) : ∀ (l : List Int) (out : Int), ∃ q, rowF nT nS es fs behind l out = some q
  | [], out => ⟨_, rfl⟩
  | s :: l, out => by
    unfold rowF
    split
    · exact ⟨_, rfl⟩
    · rename_i hn
      split
      · exact With_some _ _ (by assumption) (by omega)
      · have hu : bits_Union.f out (rd fs (-1 - s)) = some (Go.bits .or .u64 out (rd fs (-1 - s))) := rfl
        rw [hu]
        simp only [Option.bind_some]
        split
        · exact rowF_total nT nS hT es fs behind l _
        · exact ⟨_, rfl⟩

theorem Empty_len {k : Nat} {l0 : List S51} {l1 : List S63} {l2 : List ByteArray} {l3 : List S45} {st : Int} {es : List Bool} (hv : validB l0 l1 l2 l3 st = true) (h : sets_Empty.f k l0 l1 l2 l3 st = some es) : es.length = l2.length := by
  unfold sets_Empty.f sets_all.f at h
  rw [if_pos hv] at h
  have h' : growG false (moreB false) l3 k (List.replicate l2.length false) = some es := by simpa using h
  rw [growG_length _ _ _ _ _ _ h', List.length_replicate]

theorem valid_terms {l0 : List S51} {l1 : List S63} {l2 : List ByteArray} {l3 : List S45} {st : Int} (h : validB l0 l1 l2 l3 st = true) : (l0.length : Int) ≤ 60 := by
  simp only [validB, Bool.and_eq_true, Bool.not_eq_true', decide_eq_false_iff_not, List.all_eq_true] at h
  obtain ⟨⟨⟨⟨⟨⟨⟨⟨h0, -⟩, -⟩, -⟩, -⟩, -⟩, -⟩, -⟩, -⟩ := h
  omega

def sets_First.f (k : Nat) (l0 : List S51) (l1 : List S63) (l2 : List ByteArray) (l3 : List S45) (st : Int) : Option (List Int) :=
  if validB l0 l1 l2 l3 st = true then (sets_Empty.f k l0 l1 l2 l3 st).bind fun es => growG (0 : Int) (moreS l0.length l2.length es) l3 k (List.replicate l2.length 0) else some []

theorem sets_First.mono (l0 : List S51) (l1 : List S63) (l2 : List ByteArray) (l3 : List S45) (st : Int) (k : Nat) : LeO (sets_First.f k l0 l1 l2 l3 st) (sets_First.f (k + 1) l0 l1 l2 l3 st) := by
  unfold sets_First.f
  split
  · intro r h
    obtain ⟨es, he, h⟩ := Option.bind_eq_some_iff.1 h
    exact Option.bind_eq_some_iff.2 ⟨es, sets_Empty.mono _ _ _ _ _ _ _ he, growG_mono _ _ _ _ _ _ h⟩
  · exact fun _ h => h

set_option maxHeartbeats 4000000 in
theorem sets_First.calls (k : Nat) (A0 : Option Addr) (c0 : Nat) (l0 : List S51) (A1 : Option Addr) (c1 : Nat) (l1 : List S63) (A2 : Option Addr) (c2 : Nat) (l2 : List ByteArray) (A3 : Option Addr) (c3 : Nat) (l3 : List S45) (st : Int) (r : List Int) (w : World)
    (hr0 : Kd.C k51 w A0 l0.length l0) (hc0 : l0.length ≤ c0) (hr1 : Kd.C k63 w A1 l1.length l1) (hc1 : l1.length ≤ c1) (hr2 : Kd.C Kd.string w A2 l2.length l2) (hc2 : l2.length ≤ c2) (hr3 : Kd.C k45 w A3 l3.length l3) (hc3 : l3.length ≤ c3)
    (h : sets_First.f k l0 l1 l2 l3 st = some r) :
    Calls Try.prog 17 #[.agg #[.slice A0 l0.length c0, .slice A1 l1.length c1, .slice A2 l2.length c2, .slice A3 l3.length c3, .int .i64 st]] w fun e w' => ∃ v0_ : Value, e = .returned v0_ ∧ Kd.R (Kd.int .u64) 30 w' w.heap.size (fun _ => True) v0_ r ∧ Below w.heap.size w w' := by
  have HB : Aside0 (Below w.heap.size w (w.alloc (Obj.cells #[.slice A0 l0.length c0, .slice A1 l1.length c1, .slice A2 l2.length c2, .slice A3 l3.length c3, .int .i64 st] 27))) := ⟨below_alloc (Below.refl _ _) _⟩
  have hsz : Aside0 (w.heap.size ≤ (w.alloc (Obj.cells #[.slice A0 l0.length c0, .slice A1 l1.length c1, .slice A2 l2.length c2, .slice A3 l3.length c3, .int .i64 st] 27)).heap.size) := ⟨HB.out.size⟩
  have r0 := Kd.C_below hr0 HB.out
  have r1 := Kd.C_below hr1 HB.out
  have r2 := Kd.C_below hr2 HB.out
  have r3 := Kd.C_below hr3 HB.out
  have hu27 := Try.underlying27
  have hu56 := Try.underlying56
  unfold sets_First.f at h
  cases hv : validB l0 l1 l2 l3 st
  · have hkn := Aside0.mk (known_nil A0 c0 l0 A1 c1 l1 A2 c2 l2 A3 c3 l3 st (w.alloc (Obj.cells #[.slice A0 l0.length c0, .slice A1 l1.length c1, .slice A2 l2.length c2, .slice A3 l3.length c3, .int .i64 st] 27)) r0 r1 r2 r3 hv)
    have hr : Aside0 (([] : List Int) = r) := ⟨by rw [hv] at h; simpa using h⟩
    clear hr0 hr1 hr2 hr3 r0 r1 r2 r3 hv h
    go_enter Try.func17, Try.ntmps17
    go_wp2_with (go_at_call 29; refine hkn.out.mono ?_; rintro e w3 ⟨rfl, hb3⟩; replace hb3 := Aside0.mk hb3)
    go_ret
    exact ⟨_, rfl, by rw [← hr.out]; exact Kd.R_nil _ _ _ _ _, below_step HB.out hb3.out⟩
  · rw [if_pos hv] at h
    obtain ⟨es, he, hf⟩ := Option.bind_eq_some_iff.1 h
    have hkn := Aside0.mk (known_calls k A0 c0 l0 A1 c1 l1 A2 c2 l2 A3 c3 l3 st es r (w.alloc (Obj.cells #[.slice A0 l0.length c0, .slice A1 l1.length c1, .slice A2 l2.length c2, .slice A3 l3.length c3, .int .i64 st] 27)) r0 hc0 r1 hc1 r2 hc2 r3 hc3 hv he (Empty_len hv he) hf (fun p hp => ⟨((valid_has hv).2.2 p hp).1, fun xs => rowF_total _ _ (valid_terms hv) _ _ _ _ _⟩))
    clear hr0 hr1 hr2 hr3 r0 r1 r2 r3 hv h he hf
    go_enter Try.func17, Try.ntmps17
    go_wp2_with (go_at_call 29; refine hkn.out.mono ?_; rintro e w3 ⟨tb, G, cap, dE, E, rfl, y0, y2, y5, y6, hE, hR, hb3⟩; replace hb3 := Aside0.mk hb3; replace hR := Aside0.mk hR; clear hE)
    go_ret
    exact ⟨_, rfl, Kd.R_lower hR.out hsz.out, below_step HB.out hb3.out⟩

end Go.Proofs.Ytggfiopajogiiaa.P
