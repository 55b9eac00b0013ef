/- A production more makes no set less. Conditions: the statement's own. -/
import Derived.Test.YtggfiopajogiiaaSMoreW
set_option linter.unusedVariables false
set_option linter.unusedSimpArgs false
namespace Go.Proofs.Ytggfiopajogiiaa.P
open Go.RowKit Go.Proofs.YtggfiopajogiiaaW.PrintWords

/-- The law's answer, of symbols within what numbers there are. -/
def syntagmlaw13_SetsMore.f (l0 : List S51) (l1 : List S63) (l2 : List ByteArray) (l3 : List S45) (st : Int) (lab : ByteArray) (srt : Int) (r5 : List Int) (cls : Int) : Option Bool :=
  if (∀ p ∈ l3, ∀ s ∈ p.f2, -9223372036854775808 ≤ s ∧ s ≤ 9223372036854775807) ∧ (∀ s ∈ r5, -9223372036854775808 ≤ s ∧ s ≤ 9223372036854775807) then some true else none
theorem syntagmlaw13_SetsMore.calls (A0 : Option Addr) (c0 : Nat) (l0 : List S51) (A1 : Option Addr) (c1 : Nat) (l1 : List S63) (A2 : Option Addr) (c2 : Nat) (l2 : List ByteArray) (A3 : Option Addr) (c3 : Nat) (l3 : List S45) (st : Int) (lab : ByteArray) (srt : Int) (A5 : Option Addr) (c5 : Nat) (r5 : List Int) (cls : Int) (r : Bool) (w : World) (hT : r = true)
    (hr0 : Kd.C k51 w A0 l0.length l0) (hc0 : l0.length ≤ c0) (hr1 : Kd.C k63 w A1 l1.length l1) (hc1 : l1.length ≤ c1) (hr2 : Kd.C Kd.string w A2 l2.length l2) (hc2 : l2.length ≤ c2) (hr3 : Kd.C k45 w A3 l3.length l3) (hc3 : l3.length ≤ c3) (hr5 : Kd.C (Kd.int .i64) w A5 r5.length r5) (hc5 : r5.length ≤ c5) (h : syntagmlaw13_SetsMore.f l0 l1 l2 l3 st lab srt r5 cls = some r) :
    Calls Try.prog 7 #[.agg #[.slice A0 l0.length c0, .slice A1 l1.length c1, .slice A2 l2.length c2, .slice A3 l3.length c3, .int .i64 st], .agg #[.string lab, .int .i64 srt, .slice A5 r5.length c5, .int .i64 cls]] w fun e w' => e = .returned (.bool r) ∧ Below w.heap.size w w' := by
  subst hT
  unfold syntagmlaw13_SetsMore.f at h
  split at h
  · rename_i hh
    exact more_walk A0 c0 l0 A1 c1 l1 A2 c2 l2 A3 c3 l3 st lab srt A5 c5 r5 cls w hr0 hc0 hr1 hc1 hr2 hc2 hr3 hc3 hr5 hc5 hh.1 hh.2
  · cases h
end Go.Proofs.Ytggfiopajogiiaa.P
namespace Go.Proofs.Ytggfiopajogiiaa.Pure
open Go.RowKit Go.Proofs.Ytggfiopajogiiaa.P Go.Proofs.YtggfiopajogiiaaW.PrintWords

theorem SetsMore (x0 : S27) (x1 : S45) (w0 : wf27 x0) (w1 : wf45 x1) : syntagmlaw13_SetsMore.f x0.f0 x0.f1 x0.f2 x0.f3 x0.f4 x1.f0 x1.f1 x1.f2 x1.f3 = some true := by
  unfold syntagmlaw13_SetsMore.f
  rw [if_pos ⟨prods_range w0, fun s hs => i64_range (w1.2.2.1.2 s hs)⟩]
end Go.Proofs.Ytggfiopajogiiaa.Pure
