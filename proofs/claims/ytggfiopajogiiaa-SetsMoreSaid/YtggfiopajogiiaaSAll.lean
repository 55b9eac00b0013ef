/- sets.all: which sorts have a right side all of whose symbols are so. -/
import Derived.Test.YtggfiopajogiiaaPx0
import Derived.Test.YtggfiopajogiiaaSValid
import Derived.Test.YtggfiopajogiiaaSGrow
set_option linter.unusedVariables false
set_option linter.unusedSimpArgs false
namespace Go.Proofs.Ytggfiopajogiiaa.P
open Go.Proofs.Ytggfiopajogiiaa.Base Go.RowKit Go.Proofs.YtggfiopajogiiaaW.PrintWords Go.Proofs.YtggfiopajogiiaaW.PrintLast Go.Proofs.YtggfiopajogiiaaW.PrintMore

def sets_all.f (k : Nat) (l0 : List S51) (l1 : List S63) (l2 : List ByteArray) (l3 : List S45) (st : Int) (term : Bool) : Option (List Bool) :=
  if validB l0 l1 l2 l3 st = true then growG false (moreB term) l3 k (List.replicate l2.length false) else some []

theorem sets_all.mono (l0 : List S51) (l1 : List S63) (l2 : List ByteArray) (l3 : List S45) (st : Int) (term : Bool) (k : Nat) : LeO (sets_all.f k l0 l1 l2 l3 st term) (sets_all.f (k + 1) l0 l1 l2 l3 st term) := by
  unfold sets_all.f
  split
  · exact growG_mono _ _ _ _ _
  · exact fun _ h => h

/-- What a grammar that may be has: sorts in range, symbols too. -/
theorem valid_has {l0 : List S51} {l1 : List S63} {l2 : List ByteArray} {l3 : List S45} {st : Int} (h : validB l0 l1 l2 l3 st = true) :
    l2.length ≤ 60 ∧ (0 ≤ st ∧ st < l2.length) ∧ ∀ p ∈ l3, (0 ≤ p.f1 ∧ p.f1 < l2.length) ∧ ∀ s ∈ p.f2, s < 0 → 0 ≤ IntKind.i64.wrap (-1 - s) ∧ IntKind.i64.wrap (-1 - s) < l2.length := by
  simp only [validB, Bool.and_eq_true, Bool.not_eq_true', decide_eq_false_iff_not, List.all_eq_true] at h
  obtain ⟨⟨⟨⟨⟨⟨⟨⟨h0, h1⟩, h2⟩, h3⟩, h4⟩, h5⟩, -⟩, -⟩, -⟩ := h
  refine ⟨by omega, by simpa [inB] using h3, fun p hp => ?_⟩
  have := h5 p hp
  simp only [prodB, Bool.and_eq_true, Bool.not_eq_true', decide_eq_false_iff_not] at this
  obtain ⟨⟨h6, h7⟩, h8⟩ := this
  refine ⟨by simpa [inB] using h6, fun s hs hneg => ?_⟩
  have h9 : ¬ oddB l0.length l2.length s = true := fun ho => by
    have : p.f2.any (oddB l0.length l2.length) = true := List.any_eq_true.2 ⟨s, hs, ho⟩
    rw [h8] at this; cases this
  have hn : decide (0 ≤ s) = false := decide_eq_false (by omega)
  have hy : decide (s < 0) = true := decide_eq_true hneg
  simp only [oddB, hn, hy, Bool.false_and, Bool.false_or, Bool.true_and, Bool.not_eq_true', Bool.not_eq_true, Bool.not_eq_false] at h9
  simpa [inB] using h9

theorem below_of_grown0 {w w' : World} (h : w.grownBy w' none) : Below w.heap.size w w' := ⟨h.os, h.tape, h.output, h.size, fun k hk => h.block k hk (by simp)⟩

set_option maxHeartbeats 4000000 in
theorem sets_all.calls (k : Nat) (A0 : Option Addr) (c0 : Nat) (l0 : List S51) (A1 : Option Addr) (c1 : Nat) (l1 : List S63) (A2 : Option Addr) (c2 : Nat) (l2 : List ByteArray) (A3 : Option Addr) (c3 : Nat) (l3 : List S45) (st : Int) (term : Bool) (r : List Bool) (w : World)
    (hr0 : Kd.C k51 w A0 l0.length l0) (hc0 : l0.length ≤ c0) (hr1 : Kd.C k63 w A1 l1.length l1) (hc1 : l1.length ≤ c1) (hr2 : Kd.C Kd.string w A2 l2.length l2) (hc2 : l2.length ≤ c2) (hr3 : Kd.C k45 w A3 l3.length l3) (hc3 : l3.length ≤ c3)
    (h : sets_all.f k l0 l1 l2 l3 st term = some r) :
    Calls Try.prog 27 #[.agg #[.slice A0 l0.length c0, .slice A1 l1.length c1, .slice A2 l2.length c2, .slice A3 l3.length c3, .int .i64 st], .bool term] w fun e w' => ∃ v0_ : Value, e = .returned v0_ ∧ Kd.R Kd.bool 4 w' w.heap.size (fun _ => True) v0_ r ∧ Below w.heap.size w w' := by
  have HR0 := Aside0.mk hr0
  have HR1 := Aside0.mk hr1
  have HR2 := Aside0.mk hr2
  have HR3 := Aside0.mk hr3
  clear hr0 hr1 hr2 hr3 hc0 hc1 hc2 hc3
  obtain ⟨vb, hv⟩ : ∃ vb, validB l0 l1 l2 l3 st = vb := ⟨_, rfl⟩
  unfold sets_all.f at h
  rw [hv] at h
  have HV := Aside0.mk hv
  have H := Aside0.mk h
  have hu27 := Try.underlying27
  clear hv h
  go_enter Try.func27, Try.ntmps27
  go_upto_region 1 with fail
  have HB : Aside0 (Below w.heap.size w ((w.alloc (Obj.cells #[.slice A0 l0.length c0, .slice A1 l1.length c1, .slice A2 l2.length c2, .slice A3 l3.length c3, .int .i64 st] 27)).alloc (Obj.cells #[.bool term] 4))) := ⟨below_alloc (below_alloc (Below.refl _ _) _) _⟩
  have f0 : ((w.alloc (Obj.cells #[.slice A0 l0.length c0, .slice A1 l1.length c1, .slice A2 l2.length c2, .slice A3 l3.length c3, .int .i64 st] 27)).alloc (Obj.cells #[.bool term] 4)).cell? ⟨w.heap.size, 0, none⟩ = some (.slice A0 l0.length c0) := by go_simp
  have f1 : ((w.alloc (Obj.cells #[.slice A0 l0.length c0, .slice A1 l1.length c1, .slice A2 l2.length c2, .slice A3 l3.length c3, .int .i64 st] 27)).alloc (Obj.cells #[.bool term] 4)).cell? ⟨w.heap.size, 1, none⟩ = some (.slice A1 l1.length c1) := by go_simp
  have f2 : ((w.alloc (Obj.cells #[.slice A0 l0.length c0, .slice A1 l1.length c1, .slice A2 l2.length c2, .slice A3 l3.length c3, .int .i64 st] 27)).alloc (Obj.cells #[.bool term] 4)).cell? ⟨w.heap.size, 2, none⟩ = some (.slice A2 l2.length c2) := by go_simp
  have f3 : ((w.alloc (Obj.cells #[.slice A0 l0.length c0, .slice A1 l1.length c1, .slice A2 l2.length c2, .slice A3 l3.length c3, .int .i64 st] 27)).alloc (Obj.cells #[.bool term] 4)).cell? ⟨w.heap.size, 3, none⟩ = some (.slice A3 l3.length c3) := by go_simp
  have f4 : ((w.alloc (Obj.cells #[.slice A0 l0.length c0, .slice A1 l1.length c1, .slice A2 l2.length c2, .slice A3 l3.length c3, .int .i64 st] 27)).alloc (Obj.cells #[.bool term] 4)).cell? ⟨w.heap.size, 4, none⟩ = some (.int .i64 st) := by go_simp
  have f5 : ((w.alloc (Obj.cells #[.slice A0 l0.length c0, .slice A1 l1.length c1, .slice A2 l2.length c2, .slice A3 l3.length c3, .int .i64 st] 27)).alloc (Obj.cells #[.bool term] 4)).cell? ⟨w.heap.size + 1, 0, none⟩ = some (.bool term) := by go_simp
  have hsz : Aside0 (((w.alloc (Obj.cells #[.slice A0 l0.length c0, .slice A1 l1.length c1, .slice A2 l2.length c2, .slice A3 l3.length c3, .int .i64 st] 27)).alloc (Obj.cells #[.bool term] 4)).heap.size = w.heap.size + 2) := ⟨by simp⟩
  generalize ((w.alloc (Obj.cells #[.slice A0 l0.length c0, .slice A1 l1.length c1, .slice A2 l2.length c2, .slice A3 l3.length c3, .int .i64 st] 27)).alloc (Obj.cells #[.bool term] 4)) = wy at *
  have E0 := Aside0.mk f0
  have E1 := Aside0.mk f1
  have E2 := Aside0.mk f2
  have E3 := Aside0.mk f3
  have E4 := Aside0.mk f4
  have E5 := Aside0.mk f5
  have HX : Aside0 (∃ gb gt : Nat, gb = w.heap.size ∧ gt = w.heap.size + 1) := ⟨_, _, rfl, rfl⟩
  generalize hgb : w.heap.size = gb at f0 f1 f2 f3 f4 f5 E0 E1 E2 E3 E4 E5 hsz ⊢
  obtain ⟨gt, hgt⟩ : ∃ gt, gb + 1 = gt := ⟨_, rfl⟩
  rw [hgt] at f5 E5 ⊢
  have HGT : Aside0 (gb < wy.heap.size ∧ gt < wy.heap.size) := ⟨by have := hsz.out; omega⟩
  clear hgb hgt hsz HX
  have hval : Aside0 (Calls Try.prog 23 #[.agg #[.slice A0 l0.length c0, .slice A1 l1.length c1, .slice A2 l2.length c2, .slice A3 l3.length c3, .int .i64 st]] wy fun e w' => e = .returned (.bool vb) ∧ Below wy.heap.size wy w') := ⟨by
    have := valid_calls A0 c0 l0 A1 c1 l1 A2 c2 l2 A3 c3 l3 st wy (Kd.C_below HR0.out HB.out) (Kd.C_below HR1.out HB.out) (Kd.C_below HR2.out HB.out) (Kd.C_below HR3.out HB.out)
    rwa [HV.out] at this⟩
  cases vb
  · go_wp2_with (go_at_call 23; refine hval.out.mono ?_; rintro e w3 ⟨rfl, hb3⟩; replace hb3 := Aside0.mk hb3)
    go_ret
    have hr : ([] : List Bool) = r := by have := H.out; simpa using this
    subst hr
    exact ⟨_, rfl, Kd.R_nil _ _ _ _ _, below_step HB.out hb3.out⟩
  · have HH : Aside0 (growG false (moreB term) l3 k (List.replicate l2.length false) = some r) := ⟨by have := H.out; simpa using this⟩
    have hvh := Aside0.mk (valid_has HV.out)
    have h60 : (l2.length : Int) ≤ 60 := by have := hvh.out.1; omega
    have hpos : Aside0 (0 < l2.length) := ⟨by have := hvh.out.2.1; omega⟩
    clear H
    go_upto_region 4 with (first | (go_at_call 23; refine hval.out.mono ?_; rintro e w3 ⟨rfl, hb3⟩; have F2 := pw_cell_below hb3 E2.out; replace hb3 := Aside0.mk hb3) | ((with_reducible refine gate_dst (N := 12) rfl ?_); refine Kd.R_make (w0 := w) Kd.bool w.heap.size 4 rfl (N := 12) rfl 33 _ _ rfl (l2.length : Int) rfl rfl Try.underlying33 (.bool false) 1 info4 rfl (by decide) (by omega) false (ok := fun _ => True) (okp := fun _ => True) rfl (fun _ hk => hk) trivial (by omega) (by omega) (below_step HB.out hb3.out) (below_size (below_step HB.out hb3.out)) ?_; intro v1 w4 ho hb4 hg4 hnew4; rw [Int.toNat_natCast] at ho; obtain ⟨G, cap, hv1, hGb, hGs, hGc⟩ := Kd.R_form ho (by rw [List.length_replicate]; exact hpos.out); rw [List.length_replicate] at hv1; subst hv1; replace ho := Aside0.mk ho; replace hb4 := Aside0.mk hb4; replace hg4 := Aside0.mk hg4; replace hnew4 := Aside0.mk hnew4; replace hGb := Aside0.mk (And.intro hGb hGs); clear hGs hGc))
    have hmf : ∀ (fn : Fn) (first cap : Array Value) (w : World), (Instr.makeFunc fn first cap).run Try.prog w = .ok (.func fn first cap) w := fun _ _ _ _ => rfl
    have hG3 : Aside0 (w3.heap.size ≤ G) := ⟨by obtain ⟨b, e, hb⟩ := hnew4.out; simp only [Value.ownBlock] at e; injection e with e; rw [e]; exact hb⟩
    have H34 : Aside0 (Below w3.heap.size w3 (w4.alloc (Obj.cells #[.slice (some ⟨G, 0, none⟩) l2.length cap] 33))) := ⟨below_alloc (below_of_grown0 hg4.out) _⟩
    have Hy5 : Aside0 (Below wy.heap.size wy (w4.alloc (Obj.cells #[.slice (some ⟨G, 0, none⟩) l2.length cap] 33))) := ⟨below_step hb3.out H34.out⟩
    have Hw5 : Aside0 (Below w.heap.size w (w4.alloc (Obj.cells #[.slice (some ⟨G, 0, none⟩) l2.length cap] 33))) := ⟨below_alloc hb4.out _⟩
    have hR5 := Aside0.mk (Kd.R_alloc ho.out (Obj.cells #[.slice (some ⟨G, 0, none⟩) l2.length cap] 33))
    have q5 : (w4.alloc (Obj.cells #[.slice (some ⟨G, 0, none⟩) l2.length cap] 33)).cell? ⟨w4.heap.size, 0, none⟩ = some (.slice (some ⟨G, 0, none⟩) l2.length cap) := by go_simp
    have hs5 : Aside0 (w4.heap.size < (w4.alloc (Obj.cells #[.slice (some ⟨G, 0, none⟩) l2.length cap] 33)).heap.size) := ⟨by simp⟩
    have hb5n : Aside0 (w4.heap.size ≠ G) := ⟨by have := hGb.out.2; omega⟩
    have hgtn : Aside0 (gt ≠ G) := ⟨by have := hG3.out; have := hb3.out.size; have := HGT.out.2; omega⟩
    clear f0 f1 f2 f3 f4 f5 F2
    generalize (w4.alloc (Obj.cells #[.slice (some ⟨G, 0, none⟩) l2.length cap] 33)) = w5 at *
    generalize w4.heap.size = b5 at *
    have f0 := pw_cell_below Hy5.out E0.out
    have f1 := pw_cell_below Hy5.out E1.out
    have f2 := pw_cell_below Hy5.out E2.out
    have f3 := pw_cell_below Hy5.out E3.out
    have f4 := pw_cell_below Hy5.out E4.out
    have hgrow := Aside0.mk (grow_bool k term A0 c0 l0 A1 c1 l1 A2 c2 l2 A3 c3 l3 st gt b5 G l2.length cap w.heap.size (fun _ => True) (List.replicate l2.length false) r w w5 HR3.out Hw5.out hGb.out.1 (Nat.lt_trans hGb.out.2 hs5.out) (pw_cell_below Hy5.out E5.out) q5 hgtn.out hb5n.out hR5.out hvh.out.2.2 HH.out)
    go_wp2_with (go_at_call 46; refine hgrow.out.mono ?_; rintro e w6 ⟨rfl, hr6, hg6⟩; replace hr6 := Aside0.mk hr6; replace hg6 := Aside0.mk hg6)
    go_ret
    exact ⟨_, rfl, hr6.out, below_grown Hw5.out hg6.out hGb.out.1⟩

end Go.Proofs.Ytggfiopajogiiaa.P
