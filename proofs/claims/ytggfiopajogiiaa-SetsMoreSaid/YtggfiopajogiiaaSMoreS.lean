/- sets.known's closure: what a production adds to what its sort begins with. -/
import Derived.Test.YtggfiopajogiiaaPx0
import Derived.Test.YtggfiopajogiiaaSRow
import Derived.Test.YtggfiopajogiiaaSBelow
set_option linter.unusedVariables false
set_option linter.unusedSimpArgs false
namespace Go.Proofs.Ytggfiopajogiiaa.P
open Go.Proofs.Ytggfiopajogiiaa.Base Go.RowKit Go.Proofs.YtggfiopajogiiaaW.PrintWords Go.Proofs.YtggfiopajogiiaaW.PrintLast Go.Proofs.YtggfiopajogiiaaW.PrintMore

def moreS (nT nS : Int) (es : List Bool) (xs : List Int) (p : S45) : Int := Go.bits .or .u64 (rdOf 0 xs p.f1) ((rowF nT nS es xs 0 p.f2 0).getD 0)

theorem below_drawn {w w' : World} (h : Drawn0 w w') : Below w.heap.size w w' := by
  obtain ⟨m, rfl⟩ := h; exact pw_below_drewN (Below.refl _ _) m

set_option maxHeartbeats 4000000 in
theorem known1_calls (b3 tb nT nS G cap : Nat) (A0 A2 E : Option Addr) (c0 c2 cE : Nat) (es : List Bool) (xs : List Int) (base : Nat) (ok : Nat → Prop) (p : S45) (A : Option Addr) (c : Nat) (w : World)
    (hnS : nS ≤ 60) (h3 : w.cell? ⟨b3, 0, none⟩ = some (.pointer (some ⟨tb, 0, none⟩))) (ht0 : w.cell? ⟨tb, 0, none⟩ = some (.slice A0 nT c0)) (ht2 : w.cell? ⟨tb, 2, none⟩ = some (.slice A2 nS c2)) (ht5 : w.cell? ⟨tb, 5, none⟩ = some (.slice E nS cE)) (ht6 : w.cell? ⟨tb, 6, none⟩ = some (.slice (some ⟨G, 0, none⟩) nS cap))
    (hE : Kd.C Kd.bool w E nS es) (hR : Kd.R (Kd.int .u64) 30 w base ok (.slice (some ⟨G, 0, none⟩) nS cap) xs) (hp : Kd.C (Kd.int .i64) w A p.f2.length p.f2) (h0 : 0 ≤ p.f1) (h1 : p.f1 < nS) (hq : ∃ q, rowF nT nS es xs 0 p.f2 0 = some q) :
    Calls Try.prog 49 #[.agg #[.string p.f0, .int .i64 p.f1, .slice A p.f2.length c, .int .i64 p.f3], .pointer (some ⟨b3, 0, none⟩)] w fun e w' => e = .returned (.tuple #[.int .i64 p.f1, .int .u64 (moreS nT nS es xs p)]) ∧ Below w.heap.size w w' := by
  obtain ⟨q, hq⟩ := hq
  have hmo : Aside0 (moreS nT nS es xs p = Go.bits .or .u64 (rdOf 0 xs p.f1) q) := ⟨by unfold moreS; rw [hq]; rfl⟩
  have hcell := (Kd.R_celln 0 hR p.f1 h0 h1).1
  have hC := (Kd.R_reads' hR).2.2
  rw [← (Kd.R_reads' hR).1] at hC
  have hrow := fun (w' : World) (hb : Below w.heap.size w w') => row_calls tb nT nS A0 A2 E (some ⟨G, 0, none⟩) c0 c2 cE cap es xs A c p.f2 0 q w' (Kd.C_below hp hb) hnS (pw_cell_below hb ht0) (pw_cell_below hb ht2) (pw_cell_below hb ht5) (pw_cell_below hb ht6) (Kd.C_below hE hb) (Kd.C_below hC hb) hq
  have q0 : (0 ≤ p.f1) = True := eq_true h0
  have q1 : (p.f1 < (nS : Int)) = True := eq_true h1
  obtain ⟨o, ho⟩ : ∃ o, rdOf 0 xs p.f1 = o := ⟨_, rfl⟩
  obtain ⟨nl, hnl⟩ : ∃ nl, p.f2.length = nl := ⟨_, rfl⟩
  obtain ⟨lab, hlab⟩ : ∃ lab, p.f0 = lab := ⟨_, rfl⟩
  obtain ⟨srt, hsrt⟩ : ∃ srt, p.f1 = srt := ⟨_, rfl⟩
  obtain ⟨cls, hcls⟩ : ∃ cls, p.f3 = cls := ⟨_, rfl⟩
  have HMO : Aside0 (moreS nT nS es xs p = Go.bits .or .u64 o q) := ⟨by rw [hmo.out, ho]⟩
  rw [ho] at hcell
  rw [hsrt] at hcell q0 q1
  rw [hnl] at hrow
  rw [hnl, hlab, hsrt, hcls]
  replace hrow := Aside0.mk hrow
  have hu45 := Try.underlying45
  have hu56 := Try.underlying56
  clear hmo ho hnl hlab hsrt hcls h0 h1 hnS hE hR hp hC hq ht0 ht2 ht5
  go_enter Try.func49, Try.ntmps49
  go_upto_region 1 with fail
  have HZ : Aside0 (Below w.heap.size w (w.alloc (Obj.cells #[.string lab, .int .i64 srt, .slice A nl c, .int .i64 cls] 45))) := ⟨below_alloc (Below.refl _ _) _⟩
  have g1 : (w.alloc (Obj.cells #[.string lab, .int .i64 srt, .slice A nl c, .int .i64 cls] 45)).cell? ⟨w.heap.size, 1, none⟩ = some (.int .i64 srt) := by go_simp
  have g2 : (w.alloc (Obj.cells #[.string lab, .int .i64 srt, .slice A nl c, .int .i64 cls] 45)).cell? ⟨w.heap.size, 2, none⟩ = some (.slice A nl c) := by go_simp
  generalize w.alloc (Obj.cells #[.string lab, .int .i64 srt, .slice A nl c, .int .i64 cls] 45) = wy at *
  replace h3 := cell_below (pw_cell_below HZ.out h3)
  replace ht6 := cell_below (pw_cell_below HZ.out ht6)
  replace hcell := cell_below (pw_cell_below HZ.out hcell)
  replace g1 := cell_below g1
  replace g2 := cell_below g2
  generalize hg : w.heap.size = gy at g1 g2 ⊢
  clear hg
  refine wp_region_below (by kernel_rfl) (by kernel_rfl) ?_
  repeat (refine wpQuiet_step (fun K hK => ?_); go_simp; (first | (refine hK _ ?_; clear hK K) | (apply Exists.intro; refine ⟨fun wc hwc => ?_, hK _ ?_⟩; (first | exact rfl | (first | (go_at_call 33; exact calls_below hwc hwc.size ((hrow.out _ (below_step HZ.out hwc)).mono fun _ _ h => ⟨h.1, below_drawn h.2⟩)) | (go_at_call 32; exact calls_below hwc hwc.size ((bits_Union.calls _ _ _ _ rfl).mono fun _ _ h => ⟨h.1, below_drawn h.2⟩))) | (go_simp; exact rfl)); clear hK K)))
  refine wpQuiet_nil ?_
  intro wq hwq
  go_wp2
  go_ret2
  exact ⟨by rw [HMO.out]; rfl, below_step HZ.out hwq⟩

end Go.Proofs.Ytggfiopajogiiaa.P
