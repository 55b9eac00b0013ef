/- sets.Of: with what a row of symbols begins. -/
import Derived.Test.YtggfiopajogiiaaSFirst
set_option linter.unusedVariables false
set_option linter.unusedSimpArgs false
namespace Go.Proofs.Ytggfiopajogiiaa.P
open Go.Proofs.Ytggfiopajogiiaa.Base Go.RowKit Go.Proofs.YtggfiopajogiiaaW.PrintWords Go.Proofs.YtggfiopajogiiaaW.PrintLast Go.Proofs.YtggfiopajogiiaaW.PrintMore

def sets_Of.f (k : Nat) (l0 : List S51) (l1 : List S63) (l2 : List ByteArray) (l3 : List S45) (st : Int) (l : List Int) (behind : Int) : Option Int :=
  if validB l0 l1 l2 l3 st = true then (sets_Empty.f k l0 l1 l2 l3 st).bind fun es => (growG (0 : Int) (moreS l0.length l2.length es) l3 k (List.replicate l2.length 0)).bind fun fs => rowF l0.length l2.length es fs behind l 0 else some 0

theorem sets_Of.mono (l0 : List S51) (l1 : List S63) (l2 : List ByteArray) (l3 : List S45) (st : Int) (l : List Int) (behind : Int) (k : Nat) : LeO (sets_Of.f k l0 l1 l2 l3 st l behind) (sets_Of.f (k + 1) l0 l1 l2 l3 st l behind) := by
  unfold sets_Of.f
  split
  · intro r h
    obtain ⟨es, he, h⟩ := Option.bind_eq_some_iff.1 h
    obtain ⟨fs, hf, h⟩ := Option.bind_eq_some_iff.1 h
    exact Option.bind_eq_some_iff.2 ⟨es, sets_Empty.mono _ _ _ _ _ _ _ he, Option.bind_eq_some_iff.2 ⟨fs, growG_mono _ _ _ _ _ _ hf, h⟩⟩
  · exact fun _ h => h

set_option maxHeartbeats 4000000 in
theorem sets_Of.calls (k : Nat) (A0 : Option Addr) (c0 : Nat) (l0 : List S51) (A1 : Option Addr) (c1 : Nat) (l1 : List S63) (A2 : Option Addr) (c2 : Nat) (l2 : List ByteArray) (A3 : Option Addr) (c3 : Nat) (l3 : List S45) (st : Int) (A : Option Addr) (c : Nat) (l : List Int) (behind : Int) (r : Int) (w : World)
    (hr0 : Kd.C k51 w A0 l0.length l0) (hc0 : l0.length ≤ c0) (hr1 : Kd.C k63 w A1 l1.length l1) (hc1 : l1.length ≤ c1) (hr2 : Kd.C Kd.string w A2 l2.length l2) (hc2 : l2.length ≤ c2) (hr3 : Kd.C k45 w A3 l3.length l3) (hc3 : l3.length ≤ c3) (hr : Kd.C (Kd.int .i64) w A l.length l) (hc : l.length ≤ c)
    (h : sets_Of.f k l0 l1 l2 l3 st l behind = some r) :
    Calls Try.prog 21 #[.agg #[.slice A0 l0.length c0, .slice A1 l1.length c1, .slice A2 l2.length c2, .slice A3 l3.length c3, .int .i64 st], .slice A l.length c, .int .u64 behind] w fun e w' => e = .returned (.int .u64 r) ∧ Below w.heap.size w w' := by
  have HB : Aside0 (Below w.heap.size w (w.alloc (Obj.cells #[.slice A0 l0.length c0, .slice A1 l1.length c1, .slice A2 l2.length c2, .slice A3 l3.length c3, .int .i64 st] 27))) := ⟨below_alloc (Below.refl _ _) _⟩
  have hsz : Aside0 (w.heap.size ≤ (w.alloc (Obj.cells #[.slice A0 l0.length c0, .slice A1 l1.length c1, .slice A2 l2.length c2, .slice A3 l3.length c3, .int .i64 st] 27)).heap.size) := ⟨HB.out.size⟩
  have r0 := Kd.C_below hr0 HB.out
  have r1 := Kd.C_below hr1 HB.out
  have r2 := Kd.C_below hr2 HB.out
  have r3 := Kd.C_below hr3 HB.out
  have hu27 := Try.underlying27
  have hu56 := Try.underlying56
  unfold sets_Of.f at h
  cases hv : validB l0 l1 l2 l3 st
  · have hkn := Aside0.mk (known_nil A0 c0 l0 A1 c1 l1 A2 c2 l2 A3 c3 l3 st (w.alloc (Obj.cells #[.slice A0 l0.length c0, .slice A1 l1.length c1, .slice A2 l2.length c2, .slice A3 l3.length c3, .int .i64 st] 27)) r0 r1 r2 r3 hv)
    have hrr : Aside0 ((0 : Int) = r) := ⟨by rw [hv] at h; simpa using h⟩
    clear hr hr0 hr1 hr2 hr3 r0 r1 r2 r3 hv h
    go_enter Try.func21, Try.ntmps21
    go_wp2_with (go_at_call 29; refine hkn.out.mono ?_; rintro e w3 ⟨rfl, hb3⟩; replace hb3 := Aside0.mk hb3)
    go_ret
    exact ⟨by rw [← hrr.out]; rfl, below_step HB.out hb3.out⟩
  · rw [if_pos hv] at h
    obtain ⟨es, he, h⟩ := Option.bind_eq_some_iff.1 h
    obtain ⟨fs, hf, h⟩ := Option.bind_eq_some_iff.1 h
    have HH := Aside0.mk h
    have HL := Aside0.mk (Kd.C_below hr HB.out)
    have h60 := Aside0.mk (valid_has hv).1
    have hkn := Aside0.mk (known_calls k A0 c0 l0 A1 c1 l1 A2 c2 l2 A3 c3 l3 st es fs (w.alloc (Obj.cells #[.slice A0 l0.length c0, .slice A1 l1.length c1, .slice A2 l2.length c2, .slice A3 l3.length c3, .int .i64 st] 27)) r0 hc0 r1 hc1 r2 hc2 r3 hc3 hv he (Empty_len hv he) hf (fun p hp => ⟨((valid_has hv).2.2 p hp).1, fun xs => rowF_total _ _ (valid_terms hv) _ _ _ _ _⟩))
    clear hr hr0 hr1 hr2 hr3 r0 r1 r2 r3 hv h he hf
    go_enter Try.func21, Try.ntmps21
    go_wp2_with (first | (go_at_call 29; refine hkn.out.mono ?_; rintro e w3 ⟨tb, G, cap, dE, E, rfl, y0, y2, y5, y6, hE, hR, hb3⟩; have hrow := row_calls tb l0.length l2.length A0 A2 E (some ⟨G, 0, none⟩) c0 c2 dE cap es fs A c l behind r w3 (Kd.C_below HL.out hb3) h60.out y0 y2 y5 y6 hE (by have := (Kd.R_reads' hR).2.2; rwa [← (Kd.R_reads' hR).1] at this) HH.out; replace hb3 := Aside0.mk hb3; replace hR := Aside0.mk hR; replace hrow := Aside0.mk hrow; clear hE) | (go_at_call 33; refine hrow.out.mono ?_; rintro e w4 ⟨rfl, m, rfl⟩))
    go_ret
    exact ⟨rfl, pw_below_drewN (below_step HB.out hb3.out) _⟩

end Go.Proofs.Ytggfiopajogiiaa.P
