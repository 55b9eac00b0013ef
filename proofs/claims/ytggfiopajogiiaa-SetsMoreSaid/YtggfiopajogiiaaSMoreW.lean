/- syntagmlaw13.SetsMore: the law's own walk: it answers true. -/
import Derived.Test.YtggfiopajogiiaaSBitIn
import Derived.Test.YtggfiopajogiiaaSBelow
import Derived.Test.YtggfiopajogiiaaSFollow
import Derived.Test.YtggfiopajogiiaaSLaw
import Derived.Test.YtggfiopajogiiaaSVal
set_option linter.unusedVariables false
set_option linter.unusedSimpArgs false
namespace Go.Proofs.Ytggfiopajogiiaa.P
open Go.Proofs.Ytggfiopajogiiaa.Base Go.RowKit Go.Proofs.YtggfiopajogiiaaW.PrintWords Go.Proofs.YtggfiopajogiiaaW.PrintLast Go.Proofs.YtggfiopajogiiaaW.PrintMore Bitty

theorem row_of {α : Type} {k : Kd α} {e : TypeId} {w : World} {base : Nat} {ok : Nat → Prop} {v : Value} {xs : List α} {n : Nat} (h : Kd.R k e w base ok v xs) (hn : xs.length = n) : ∃ A c, v = .slice A n c ∧ Kd.C k w A n xs := by
  obtain ⟨A, c, rfl⟩ := Kd.R_slice h
  subst hn
  exact ⟨A, c, rfl, (Kd.R_reads' h).2.2⟩

theorem at_b {w : World} {ad : Addr} {n : Nat} {xs : List Bool} (h : Kd.C Kd.bool w (some ad) n xs) (i : Int) (h0 : 0 ≤ i) (h1 : i < n) : w.cell? (ad.add i.toNat) = some (.bool (rdOf false xs i)) := by
  obtain ⟨ad', e, hc⟩ := Kd.at_bool h i h0 h1
  cases e
  exact hc
theorem at_i {k : IntKind} {w : World} {ad : Addr} {n : Nat} {xs : List Int} (h : Kd.C (Kd.int k) w (some ad) n xs) (i : Int) (h0 : 0 ≤ i) (h1 : i < n) : w.cell? (ad.add i.toNat) = some (.int k (rd xs i)) := by
  obtain ⟨ad', e, hc⟩ := Kd.at_int h i h0 h1
  cases e
  exact hc
def more_T9 : Bool × List (List Nat × List Nat) := (true, [([], []), ([], []), ([1], [1]), ([0, 2], [0, 2]), ([], []), ([4], [4]), ([3, 5, 3], [3, 5]), ([0, 1, 2, 3, 4, 5, 6], []), ([7, 6, 6, 0, 1, 2, 3, 4, 5, 6], [6, 7])])
def more_B9 : List Nat := [0, 0, 2, 7, 0, 16, 63, 127, 255]
def more_T19 : Bool × List (List Nat × List Nat) := (true, [([], []), ([], []), ([0, 1], [0, 1]), ([2], [2]), ([], []), ([], []), ([4, 5], [4, 5]), ([6], [6]), ([3, 7], [3, 7]), ([8], [8]), ([9, 8], [9]), ([10], [10]), ([10], [10]), ([11, 12, 10], [10, 11, 12]), ([13, 10], [10, 13]), ([10], [10]), ([10], [10]), ([15, 16, 10], [10, 15, 16]), ([17, 10], [10, 17]), ([14, 18, 10, 10], [10, 14, 18]), ([19, 10], [10, 19]), ([10, 20], [10, 20]), ([21, 19], [21]), ([22], [22]), ([23, 22, 22], [22, 23]), ([22], [22]), ([24, 25, 22], [22, 24, 25]), ([26, 22], [22, 26]), ([27, 24, 22], [22, 27]), ([28], [28]), ([29, 28, 28], [28, 29]), ([28], [28]), ([30, 31, 28], [28, 30, 31]), ([32, 28], [28, 32]), ([33, 28], [28, 33]), ([28, 34, 22], [22, 28, 34]), ([22, 35], [22, 35]), ([36, 30], [36]), ([37], [37]), ([38, 37, 37], [37, 38]), ([37], [37]), ([39, 40, 37], [37, 39, 40]), ([41, 37], [37, 41]), ([42, 39, 37], [37, 42]), ([43], [43]), ([44, 43, 43], [43, 44]), ([43], [43]), ([45, 46, 43], [43, 45, 46]), ([47, 43], [43, 47]), ([48, 43], [43, 48]), ([43, 49, 37], [37, 43, 49]), ([37, 50], [37, 50])])
def more_B19 : List Nat := [0, 0, 3, 7, 0, 0, 48, 112, 255, 511, 1023, 2047, 2047, 8191, 16383, 2047, 2047, 100351, 231423, 524287, 1048575, 2097151, 4194303, 8388607, 16777215, 8388607, 67108863, 134217727, 268435455, 536870911, 1073741823, 536870911, 4294967295, 8589934591, 17179869183, 34359738367, 68719476735, 137438953471, 274877906943, 549755813887, 274877906943, 2199023255551, 4398046511103, 8796093022207, 17592186044415, 35184372088831, 17592186044415, 140737488355327, 281474976710655, 562949953421311, 1125899906842623, 2251799813685247]
theorem more_tab9 : rtab .any (opsOf Try.f7 9) = more_T9 := by kernel_rfl
theorem more_bits9 : waitsOk more_T9.2 more_B9 = true := by kernel_rfl
theorem more_tab19 : rtab .any (opsOf Try.f7 19) = more_T19 := by kernel_rfl
theorem more_bits19 : waitsOk more_T19.2 more_B19 = true := by kernel_rfl
theorem five5 {w : World} {g : Nat} {u0 u1 u2 u3 u4 : Value} {t : TypeId} (h : w.heap[g]? = some (.cells #[u0, u1, u2, u3, u4] t (0, 0))) :
    w.cell? ⟨g, 0, none⟩ = some u0 ∧ w.cell? ⟨g, 1, none⟩ = some u1 ∧ w.cell? ⟨g, 2, none⟩ = some u2 ∧ w.cell? ⟨g, 3, none⟩ = some u3 ∧ w.cell? ⟨g, 4, none⟩ = some u4 :=
  ⟨blk_cell h 0, blk_cell h 1, blk_cell h 2, blk_cell h 3, blk_cell h 4⟩
section
variable {l0 : List S51} {l1 l1' : List S63} {l2 : List ByteArray} {l3 l3' : List S45} {st : Int} (h : Order l0 l1 l2 l3 st) (h' : Order l0 l1' l2 l3' st) (hsub : ∀ p ∈ l3, p ∈ l3')
include h h' hsub
theorem in_firsts (i : Nat) : bits_In.f (rd (fR l0 l2 l3) i) (rd (fR l0 l2 l3') i) = some true :=
  in_true (ok_rd (fR_ok h) _) (ok_rd (fR_ok h') _) fun b hb => rd_of (fR_ok h) (fun i hi => fR_mono h h' hsub i b hi) i hb
theorem in_follows (i : Nat) : bits_In.f (rd (wR l0 l2 l3 st) i) (rd (wR l0 l2 l3' st) i) = some true :=
  in_true (ok_rd (wR_ok h) _) (ok_rd (wR_ok h') _) fun b hb => rd_of (wR_ok h) (fun i hi => wR_mono h h' hsub i b hi) i hb
theorem empties (i : Nat) (hi : rdOf false (eR l2 l3) i = true) : rdOf false (eR l2 l3') i = true :=
  rdOf_of (eR_len l2 l3) (fun i hi => eR_mono h h' hsub i hi) i hi
theorem lives (i : Nat) (hi : rdOf false (lR l2 l3) i = true) : rdOf false (lR l2 l3') i = true :=
  rdOf_of (lR_len l2 l3) (fun i hi => lR_mono h h' hsub i hi) i hi
end

set_option maxHeartbeats 16000000 in
set_option maxRecDepth 100000 in
theorem more_walk (A0 : Option Addr) (c0 : Nat) (l0 : List S51) (A1 : Option Addr) (c1 : Nat) (l1 : List S63) (A2 : Option Addr) (c2 : Nat) (l2 : List ByteArray) (A3 : Option Addr) (c3 : Nat) (l3 : List S45) (st : Int) (lab : ByteArray) (srt : Int) (A5 : Option Addr) (c5 : Nat) (r5 : List Int) (cls : Int) (w : World)
    (hr0 : Kd.C k51 w A0 l0.length l0) (hc0 : l0.length ≤ c0) (hr1 : Kd.C k63 w A1 l1.length l1) (hc1 : l1.length ≤ c1) (hr2 : Kd.C Kd.string w A2 l2.length l2) (hc2 : l2.length ≤ c2) (hr3 : Kd.C k45 w A3 l3.length l3) (hc3 : l3.length ≤ c3) (hr5 : Kd.C (Kd.int .i64) w A5 r5.length r5) (hc5 : r5.length ≤ c5)
    (hrg : ∀ p ∈ l3, ∀ s ∈ p.f2, -9223372036854775808 ≤ s ∧ s ≤ 9223372036854775807) (hrp : ∀ s ∈ r5, -9223372036854775808 ≤ s ∧ s ≤ 9223372036854775807) :
    Calls Try.prog 7 #[.agg #[.slice A0 l0.length c0, .slice A1 l1.length c1, .slice A2 l2.length c2, .slice A3 l3.length c3, .int .i64 st], .agg #[.string lab, .int .i64 srt, .slice A5 r5.length c5, .int .i64 cls]] w fun e w' => e = .returned (.bool true) ∧ Below w.heap.size w w' := by
  have HR0 := Aside0.mk hr0
  have HR1 := Aside0.mk hr1
  have HR2 := Aside0.mk hr2
  have HR3 := Aside0.mk hr3
  have HR5 := Aside0.mk hr5
  have HRG := Aside0.mk hrg
  have HRP := Aside0.mk hrp
  have HC0 := Aside0.mk hc0
  have HC1 := Aside0.mk hc1
  have HC2 := Aside0.mk hc2
  have HC3 := Aside0.mk hc3
  have HC5 := Aside0.mk hc5
  clear hr0 hr1 hr2 hr3 hr5 hrg hrp hc0 hc1 hc2 hc3 hc5
  have hu27 := Try.underlying27
  have hu45 := Try.underlying45
  go_enter Try.func7, Try.ntmps7
  go_upto_region 1 with fail
  have HB : Aside0 (Below w.heap.size w ((w.alloc (Obj.cells #[.slice A0 l0.length c0, .slice A1 l1.length c1, .slice A2 l2.length c2, .slice A3 l3.length c3, .int .i64 st] 27)).alloc (Obj.cells #[.string lab, .int .i64 srt, .slice A5 r5.length c5, .int .i64 cls] 45))) := ⟨below_alloc (below_alloc (Below.refl _ _) _) _⟩
  have BG : Aside0 (((w.alloc (Obj.cells #[.slice A0 l0.length c0, .slice A1 l1.length c1, .slice A2 l2.length c2, .slice A3 l3.length c3, .int .i64 st] 27)).alloc (Obj.cells #[.string lab, .int .i64 srt, .slice A5 r5.length c5, .int .i64 cls] 45)).heap[w.heap.size]? = some (.cells #[.slice A0 l0.length c0, .slice A1 l1.length c1, .slice A2 l2.length c2, .slice A3 l3.length c3, .int .i64 st] 27 (0, 0))) := ⟨blk_alloc (blk_new w _) _⟩
  have BP : Aside0 (((w.alloc (Obj.cells #[.slice A0 l0.length c0, .slice A1 l1.length c1, .slice A2 l2.length c2, .slice A3 l3.length c3, .int .i64 st] 27)).alloc (Obj.cells #[.string lab, .int .i64 srt, .slice A5 r5.length c5, .int .i64 cls] 45)).heap[w.heap.size + 1]? = some (.cells #[.string lab, .int .i64 srt, .slice A5 r5.length c5, .int .i64 cls] 45 (0, 0))) := ⟨by have h := blk_new (w.alloc (Obj.cells #[.slice A0 l0.length c0, .slice A1 l1.length c1, .slice A2 l2.length c2, .slice A3 l3.length c3, .int .i64 st] 27)) (Obj.cells #[.string lab, .int .i64 srt, .slice A5 r5.length c5, .int .i64 cls] 45); rwa [World.size_alloc] at h⟩
  generalize ((w.alloc (Obj.cells #[.slice A0 l0.length c0, .slice A1 l1.length c1, .slice A2 l2.length c2, .slice A3 l3.length c3, .int .i64 st] 27)).alloc (Obj.cells #[.string lab, .int .i64 srt, .slice A5 r5.length c5, .int .i64 cls] 45)) = w1 at *
  go_upto_region 4 with (go_at_call 10; refine (syntagmlaw13_works.calls 61 true _ rfl (works_is 61 (Nat.le_refl _))).mono ?_; rintro e w2 ⟨rfl, hb⟩; have HB2 := Aside0.mk (below_step HB.out hb); have BG2 := Aside0.mk (blk_below BG.out hb); have BP2 := Aside0.mk (blk_below BP.out hb); clear hb)
  clear HB BG BP
  obtain ⟨b, hfew, -⟩ := few_is l0 l1 l2 l3 st 32 (Nat.le_refl _)
  replace hfew := Aside0.mk hfew
  have z0 := blk_cell BG2.out 0
  have z1 := blk_cell BG2.out 1
  have z2 := blk_cell BG2.out 2
  have z3 := blk_cell BG2.out 3
  have z4 := blk_cell BG2.out 4
  simp only [List.getElem?_toArray, List.getElem?_cons_zero, List.getElem?_cons_succ] at z0 z1 z2 z3 z4
  go_upto_region 5 with (go_at_call 11; refine (syntagmlaw13_Few.calls 32 _ _ l0 _ _ l1 _ _ l2 _ _ l3 st b _ (Kd.C_below HR0.out HB2.out) HC0.out (Kd.C_below HR1.out HB2.out) HC1.out (Kd.C_below HR2.out HB2.out) HC2.out (Kd.C_below HR3.out HB2.out) HC3.out hfew.out).mono ?_; rintro e w3 ⟨rfl, hb⟩; have HB3 := Aside0.mk (below_step HB2.out hb); have BG3 := Aside0.mk (blk_below BG2.out hb); have BP3 := Aside0.mk (blk_below BP2.out hb); clear hb)
  clear z0 z1 z2 z3 z4 HB2 BG2 BP2 hfew
  cases b
  · go_wp2_with fail
    go_ret
    exact ⟨rfl, HB3.out⟩
  · have z3 := blk_cell BG3.out 3
    have y2 := blk_cell BP3.out 2
    simp only [List.getElem?_toArray, List.getElem?_cons_zero, List.getElem?_cons_succ] at z3 y2
    by_cases h13 : 13 < l3.length
    · have k1 : decide (13 < l3.length) = true := decide_eq_true h13
      go_wp2_with fail
      go_ret
      exact ⟨rfl, HB3.out⟩
    · have k1 : decide (13 < l3.length) = false := decide_eq_false h13
      by_cases h12 : 12 < r5.length
      · have k2 : decide (12 < r5.length) = true := decide_eq_true h12
        go_wp2_with fail
        go_ret
        exact ⟨rfl, HB3.out⟩
      · have k2 : decide (12 < r5.length) = false := decide_eq_false h12
        have L13 := Aside0.mk h13
        have L12 := Aside0.mk h12
        have z0 := blk_cell BG3.out 0
        have z1 := blk_cell BG3.out 1
        have z2 := blk_cell BG3.out 2
        have z4 := blk_cell BG3.out 4
        simp only [List.getElem?_toArray, List.getElem?_cons_zero, List.getElem?_cons_succ] at z0 z1 z2 z4
        have y0 := blk_cell BP3.out 0
        simp only [List.getElem?_toArray, List.getElem?_cons_zero, List.getElem?_cons_succ] at y0
        have f0 := blk_frozen BP3.out 0
        have hsz3 : w.heap.size + 1 < w3.heap.size := blk_lt BP3.out
        have hne : w.heap.size + 1 ≠ w3.heap.size := by omega
        have hne' : w3.heap.size ≠ w.heap.size + 1 := by omega
        go_upto_region 9 with fail
        clear h12 h13 k1 k2 z0 z1 z2 z3 z4 y0 y2 f0
        have BG4 : Aside0 (((w3.setCell ⟨w.heap.size + 1, 0, none⟩ (.string (⟨#[122, 122]⟩ : ByteArray))).alloc (Obj.cells #[.slice A0 l0.length c0, .slice A1 l1.length c1, .slice A2 l2.length c2, .slice A3 l3.length c3, .int .i64 st] 27)).heap[w.heap.size]? = some (.cells #[.slice A0 l0.length c0, .slice A1 l1.length c1, .slice A2 l2.length c2, .slice A3 l3.length c3, .int .i64 st] 27 (0, 0))) := ⟨blk_alloc (blk_far BG3.out (Nat.ne_of_lt (Nat.lt_succ_self _)) _) _⟩
        have BP4 : Aside0 (((w3.setCell ⟨w.heap.size + 1, 0, none⟩ (.string (⟨#[122, 122]⟩ : ByteArray))).alloc (Obj.cells #[.slice A0 l0.length c0, .slice A1 l1.length c1, .slice A2 l2.length c2, .slice A3 l3.length c3, .int .i64 st] 27)).heap[w.heap.size + 1]? = some (.cells #[.string (⟨#[122, 122]⟩ : ByteArray), .int .i64 srt, .slice A5 r5.length c5, .int .i64 cls] 45 (0, 0))) := ⟨blk_alloc (blk_put BP3.out 0 _ rfl) _⟩
        have BH4 : Aside0 (((w3.setCell ⟨w.heap.size + 1, 0, none⟩ (.string (⟨#[122, 122]⟩ : ByteArray))).alloc (Obj.cells #[.slice A0 l0.length c0, .slice A1 l1.length c1, .slice A2 l2.length c2, .slice A3 l3.length c3, .int .i64 st] 27)).heap[w3.heap.size]? = some (.cells #[.slice A0 l0.length c0, .slice A1 l1.length c1, .slice A2 l2.length c2, .slice A3 l3.length c3, .int .i64 st] 27 (0, 0))) := ⟨by have h := blk_new (w3.setCell ⟨w.heap.size + 1, 0, none⟩ (.string (⟨#[122, 122]⟩ : ByteArray))) (Obj.cells #[.slice A0 l0.length c0, .slice A1 l1.length c1, .slice A2 l2.length c2, .slice A3 l3.length c3, .int .i64 st] 27); rwa [World.size_setCell] at h⟩
        have HB4 : Aside0 (Below w.heap.size w ((w3.setCell ⟨w.heap.size + 1, 0, none⟩ (.string (⟨#[122, 122]⟩ : ByteArray))).alloc (Obj.cells #[.slice A0 l0.length c0, .slice A1 l1.length c1, .slice A2 l2.length c2, .slice A3 l3.length c3, .int .i64 st] 27))) := ⟨below_alloc (below_set HB3.out (Nat.le_succ _)) _⟩
        generalize (w3.setCell ⟨w.heap.size + 1, 0, none⟩ (.string (⟨#[122, 122]⟩ : ByteArray))).alloc (Obj.cells #[.slice A0 l0.length c0, .slice A1 l1.length c1, .slice A2 l2.length c2, .slice A3 l3.length c3, .int .i64 st] 27) = w4 at *
        have hge3 : w.heap.size ≤ w3.heap.size := HB3.out.size
        clear HB3 BG3 BP3
        generalize hhb : w3.heap.size = hb at *
        have HN := Aside0.mk (show w.heap.size ≤ hb ∧ w.heap.size + 1 < hb ∧ hb < w4.heap.size from ⟨hge3, hsz3, blk_lt BH4.out⟩)
        clear hhb hne hne' hsz3 hge3
        obtain ⟨pz, hpz⟩ : ∃ p : S45, p = ⟨⟨#[122, 122]⟩, srt, r5, cls⟩ := ⟨_, rfl⟩
        have HKP : Aside0 (k45.K w pz [.string (⟨#[122, 122]⟩ : ByteArray), .int .i64 srt, .slice A5 r5.length c5, .int .i64 cls]) := ⟨by rw [hpz]; exact k45_mk w _ HC5.out HR5.out⟩
        have HPZ := Aside0.mk hpz
        clear hpz
        have z3 : ∀ w', Below hb w4 w' → w'.cell? ⟨w.heap.size, 3, none⟩ = some (.slice A3 l3.length c3) := fun w' h => (h.cell (by have := HN.out; show w.heap.size < hb; omega)).trans (blk_cell BG4.out 3)
        have y0 : ∀ w', Below hb w4 w' → w'.cell? ⟨w.heap.size + 1, 0, none⟩ = some (.string (⟨#[122, 122]⟩ : ByteArray)) := fun w' h => (h.cell (by have := HN.out; show w.heap.size + 1 < hb; omega)).trans (blk_cell BP4.out 0)
        have y1 : ∀ w', Below hb w4 w' → w'.cell? ⟨w.heap.size + 1, 1, none⟩ = some (.int .i64 srt) := fun w' h => (h.cell (by have := HN.out; show w.heap.size + 1 < hb; omega)).trans (blk_cell BP4.out 1)
        have y2 : ∀ w', Below hb w4 w' → w'.cell? ⟨w.heap.size + 1, 2, none⟩ = some (.slice A5 r5.length c5) := fun w' h => (h.cell (by have := HN.out; show w.heap.size + 1 < hb; omega)).trans (blk_cell BP4.out 2)
        have y3 : ∀ w', Below hb w4 w' → w'.cell? ⟨w.heap.size + 1, 3, none⟩ = some (.int .i64 cls) := fun w' h => (h.cell (by have := HN.out; show w.heap.size + 1 < hb; omega)).trans (blk_cell BP4.out 3)
        have Z3 := Aside0.mk z3
        have Y0 := Aside0.mk y0
        have Y1 := Aside0.mk y1
        have Y2 := Aside0.mk y2
        have Y3 := Aside0.mk y3
        clear z3 y0 y1 y2 y3
        have wk : ∀ {w' : World}, Below w4.heap.size w4 w' → Below hb w4 w' := fun h => h.mono (Nat.le_of_lt HN.out.2.2)
        have hX : Below w4.heap.size w4 w4.drew := below_drew (Below.refl _ _)
        refine start_ (n := 9) (S := fun w' => Below hb w4 w') (ds := []) #[false, false, false, false, false, false, false, false, false] (by kernel_rfl) rfl rfl (wk hX) (fun hHeld => ?_); refine with_tabW more_tab9 more_bits9 (fun HT_ HW_ => ?_)
        generalize w4.drew = w5 at hX hHeld ⊢
        refine pure_ (i := 1) (N := some 36) (v := ?_) (a' := ?_) #[false, true, false, false, false, false, false, false, false] rfl rfl (any_of HT_.out (by kernel_rfl)) (fun _ _ _ h => h) (Or.inl ⟨by rfl, ?_⟩) ?_ ?_
        rotate_left
        · intro w'
          go_simp
          with_reducible rfl
        rotate_left
        · simp only [Act.put, List.setIfInBounds_toArray, List.set_cons_zero, List.set_cons_succ, i64_w, i32_w]
          rfl
        refine take_ (i := 2) (N := some 37) (v := ?_) (a' := ?_) #[false, true, true, false, false, false, false, false, false] rfl rfl (take_ofW HT_.out HW_.out (by kernel_rfl)) (fun _ _ _ h => h) (Or.inl ⟨by rfl, ?_⟩) hHeld ?_ ?_
        rotate_left
        · intro w' hw'
          have s0 := Z3.out w' hw'
          go_simp
          with_reducible rfl
        rotate_left
        · simp only [Act.put, List.setIfInBounds_toArray, List.set_cons_zero, List.set_cons_succ, i64_w, i32_w]
          rfl
        refine take_ (i := 4) (N := some 39) (v := ?_) (a' := ?_) #[false, true, true, false, true, false, false, false, false] rfl rfl (take_ofW HT_.out HW_.out (by kernel_rfl)) (fun _ _ _ h => h) (Or.inl ⟨by rfl, ?_⟩) hHeld ?_ ?_
        rotate_left
        · intro w' hw'
          have s0 := Y0.out w' hw'
          have s1 := Y1.out w' hw'
          have s2 := Y2.out w' hw'
          have s3 := Y3.out w' hw'
          go_simp
          with_reducible rfl
        rotate_left
        · simp only [Act.put, List.setIfInBounds_toArray, List.set_cons_zero, List.set_cons_succ, i64_w, i32_w]
          rfl
        refine join_ (σ := Value × Value × Value) 3 #[true, true, true, true, true, true, false, false, false] (fun s_ => [(35, s_.1), (38, s_.2.1), (40, s_.2.2)]) (fun s_ w' => Below w4.heap.size w4 w' ∧ (Kd.fixed k45 w).R 45 w' w4.heap.size (fun k => w4.heap.size ≤ k) s_.2.1 ([] ++ l3) ∧ (Kd.fixed k45 w).R 45 w' w4.heap.size (fun k => w4.heap.size ≤ k) s_.2.2 [pz]) ?_ ?_
        rotate_left
        · intro hCont
          refine two_ (i := 0) (j := 5) (Ni := some 35) (Nj := some 40) #[true, true, true, false, true, false, false, false, false] #[false, true, true, false, true, true, false, false, false] rfl rfl rfl rfl (two_of HT_.out (by kernel_rfl)) (by decide) (by decide) (fun K hK => ?_) (fun K hK => ?_)
          · skip
            refine Kd.R_lit_step (Kd.fixed k45 w) (w0 := w4) w4.heap.size 45 (by rfl) (N := 35) rfl (xs := ([] : List S45)) (inner := []) (ok := fun k => k = w5.heap.size) (okp := fun _ => False) ?hr ?hp (fun _ h => h.elim) rfl hX (hX).size (by simp) ?_
            case hr => first | (go_simp; done) | (go_simp; rfl)
            case hp => exact Reps.none _ _
            intro v0 w6 r0 hb6 hg6 hn6
            refine hK.out _ _ (wk hb6) (fun hHeld => ?_)
            clear hK K
            refine norm_ (a' := ?_) ?_ ?_
            rotate_left
            · show Act.put _ (some 35) _ = _
              simp only [Act.put, List.setIfInBounds_toArray, List.set_cons_zero, List.set_cons_succ, i64_w, i32_w]
              rfl
            refine two_ (i := 3) (j := 5) (Ni := some 38) (Nj := some 40) #[true, true, true, true, true, false, false, false, false] #[true, true, true, false, true, true, false, false, false] rfl rfl rfl rfl (two_of HT_.out (by kernel_rfl)) (by decide) (by decide) (fun K hK => ?_) (fun K hK => ?_)
            · skip
              refine Kd.R_append_rows_step (Kd.fixed k45 w) (w0 := w4) w4.heap.size (by rfl) (.tmp 35) (.tmp 37) 25 45 (.agg #[(.string ⟨#[]⟩), (.int .i64 0), (.slice none 0 0), (.int .i64 0)]) 56 rfl Try.underlying25 info45 rfl (show 0 < 4 by omega) (by omega) v0 [] l3 A3 _ c3 (fun k => w4.heap.size ≤ k) (fun _ => False) rfl rfl (Kd.R_mono r0 (fun k hk => hk ▸ hX.size)) ((HR3.out).imp_ (below_step HB4.out hb6) (fun _ _ h => h)) (fun _ _ h => h) (fun _ h => h.elim) (fun k hk => Nat.le_trans (hb6).size hk) hb6 (hb6).size ?aL ?_
              case aL => have := L13.out; simp only [List.length_nil, List.length_append, List.length_cons]; omega
              intro v1 w7 r1 hb7 hg7 ha7
              refine hK.out _ _ (wk hb7) (fun hHeld => ?_)
              clear hK K
              refine norm_ (a' := ?_) ?_ ?_
              rotate_left
              · show Act.put _ (some 38) _ = _
                simp only [Act.put, List.setIfInBounds_toArray, List.set_cons_zero, List.set_cons_succ, i64_w, i32_w]
                rfl
              refine one_ (i := 5) (N := some 40) #[true, true, true, true, true, true, false, false, false] rfl rfl (one_of HT_.out (by kernel_rfl)) (by decide) (fun K hK => ?_)
              refine Kd.R_lit_step (Kd.fixed k45 w) (w0 := w4) w4.heap.size 45 (by rfl) (N := 40) rfl (xs := [pz]) (inner := [.string (⟨#[122, 122]⟩ : ByteArray), .int .i64 srt, .slice A5 r5.length c5, .int .i64 cls]) (ok := fun k => k = w7.heap.size) (okp := fun _ => False) ?hr ?hp (fun _ h => h.elim) rfl hb7 (hb7).size (by simp) ?_
              case hr => first | (go_simp; done) | (go_simp; rfl)
              case hp => exact Reps.c4 HKP.out (Reps.none _ _)
              intro v2 w8 r2 hb8 hg8 hn8
              refine hK.out _ _ (wk hb8) (fun hHeld => ?_)
              clear hK K
              refine norm_ (a' := ?_) ?_ ?_
              rotate_left
              · show Act.put _ (some 40) _ = _
                simp only [Act.put, List.setIfInBounds_toArray, List.set_cons_zero, List.set_cons_succ, i64_w, i32_w]
                rfl
              exact norm_ (by simp only [putAll, Act.put, List.setIfInBounds_toArray, List.set_cons_zero, List.set_cons_succ]) (hCont (v0, v1, v2) _ ⟨hb8, Kd.R_grown r1 hg8 (by simp), Kd.R_mono r2 (fun k hk => hk ▸ hb7.size)⟩)
            · skip
              refine Kd.R_lit_step (Kd.fixed k45 w) (w0 := w4) w4.heap.size 45 (by rfl) (N := 40) rfl (xs := [pz]) (inner := [.string (⟨#[122, 122]⟩ : ByteArray), .int .i64 srt, .slice A5 r5.length c5, .int .i64 cls]) (ok := fun k => k = w6.heap.size) (okp := fun _ => False) ?hr ?hp (fun _ h => h.elim) rfl hb6 (hb6).size (by simp) ?_
              case hr => first | (go_simp; done) | (go_simp; rfl)
              case hp => exact Reps.c4 HKP.out (Reps.none _ _)
              intro v2 w7 r2 hb7 hg7 hn7
              refine hK.out _ _ (wk hb7) (fun hHeld => ?_)
              clear hK K
              refine norm_ (a' := ?_) ?_ ?_
              rotate_left
              · show Act.put _ (some 40) _ = _
                simp only [Act.put, List.setIfInBounds_toArray, List.set_cons_zero, List.set_cons_succ, i64_w, i32_w]
                rfl
              refine one_ (i := 3) (N := some 38) #[true, true, true, true, true, true, false, false, false] rfl rfl (one_of HT_.out (by kernel_rfl)) (by decide) (fun K hK => ?_)
              refine Kd.R_append_rows_step (Kd.fixed k45 w) (w0 := w4) w4.heap.size (by rfl) (.tmp 35) (.tmp 37) 25 45 (.agg #[(.string ⟨#[]⟩), (.int .i64 0), (.slice none 0 0), (.int .i64 0)]) 56 rfl Try.underlying25 info45 rfl (show 0 < 4 by omega) (by omega) v0 [] l3 A3 _ c3 (fun k => w4.heap.size ≤ k) (fun _ => False) rfl rfl (Kd.R_mono (Kd.R_grown r0 hg7 (by simp)) (fun k hk => hk ▸ hX.size)) ((HR3.out).imp_ (below_step HB4.out hb7) (fun _ _ h => h)) (fun _ _ h => h) (fun _ h => h.elim) (fun k hk => Nat.le_trans (hb7).size hk) hb7 (hb7).size ?aL ?_
              case aL => have := L13.out; simp only [List.length_nil, List.length_append, List.length_cons]; omega
              intro v1 w8 r1 hb8 hg8 ha8
              refine hK.out _ _ (wk hb8) (fun hHeld => ?_)
              clear hK K
              refine norm_ (a' := ?_) ?_ ?_
              rotate_left
              · show Act.put _ (some 38) _ = _
                simp only [Act.put, List.setIfInBounds_toArray, List.set_cons_zero, List.set_cons_succ, i64_w, i32_w]
                rfl
              exact norm_ (by simp only [putAll, Act.put, List.setIfInBounds_toArray, List.set_cons_zero, List.set_cons_succ]) (hCont (v0, v1, v2) _ ⟨hb8, r1, Kd.R_mono (Kd.R_grown r2 hg8 (fun k hk he => by have := Kd.R_lt r0 k he.symm; omega)) (fun k hk => hk ▸ hb6.size)⟩)
          · skip
            refine Kd.R_lit_step (Kd.fixed k45 w) (w0 := w4) w4.heap.size 45 (by rfl) (N := 40) rfl (xs := [pz]) (inner := [.string (⟨#[122, 122]⟩ : ByteArray), .int .i64 srt, .slice A5 r5.length c5, .int .i64 cls]) (ok := fun k => k = w5.heap.size) (okp := fun _ => False) ?hr ?hp (fun _ h => h.elim) rfl hX (hX).size (by simp) ?_
            case hr => first | (go_simp; done) | (go_simp; rfl)
            case hp => exact Reps.c4 HKP.out (Reps.none _ _)
            intro v2 w6 r2 hb6 hg6 hn6
            refine hK.out _ _ (wk hb6) (fun hHeld => ?_)
            clear hK K
            refine norm_ (a' := ?_) ?_ ?_
            rotate_left
            · show Act.put _ (some 40) _ = _
              simp only [Act.put, List.setIfInBounds_toArray, List.set_cons_zero, List.set_cons_succ, i64_w, i32_w]
              rfl
            refine one_ (i := 0) (N := some 35) #[true, true, true, false, true, true, false, false, false] rfl rfl (one_of HT_.out (by kernel_rfl)) (by decide) (fun K hK => ?_)
            refine Kd.R_lit_step (Kd.fixed k45 w) (w0 := w4) w4.heap.size 45 (by rfl) (N := 35) rfl (xs := ([] : List S45)) (inner := []) (ok := fun k => k = w6.heap.size) (okp := fun _ => False) ?hr ?hp (fun _ h => h.elim) rfl hb6 (hb6).size (by simp) ?_
            case hr => first | (go_simp; done) | (go_simp; rfl)
            case hp => exact Reps.none _ _
            intro v0 w7 r0 hb7 hg7 hn7
            refine hK.out _ _ (wk hb7) (fun hHeld => ?_)
            clear hK K
            refine norm_ (a' := ?_) ?_ ?_
            rotate_left
            · show Act.put _ (some 35) _ = _
              simp only [Act.put, List.setIfInBounds_toArray, List.set_cons_zero, List.set_cons_succ, i64_w, i32_w]
              rfl
            refine one_ (i := 3) (N := some 38) #[true, true, true, true, true, true, false, false, false] rfl rfl (one_of HT_.out (by kernel_rfl)) (by decide) (fun K hK => ?_)
            refine Kd.R_append_rows_step (Kd.fixed k45 w) (w0 := w4) w4.heap.size (by rfl) (.tmp 35) (.tmp 37) 25 45 (.agg #[(.string ⟨#[]⟩), (.int .i64 0), (.slice none 0 0), (.int .i64 0)]) 56 rfl Try.underlying25 info45 rfl (show 0 < 4 by omega) (by omega) v0 [] l3 A3 _ c3 (fun k => w4.heap.size ≤ k) (fun _ => False) rfl rfl (Kd.R_mono r0 (fun k hk => hk ▸ hb6.size)) ((HR3.out).imp_ (below_step HB4.out hb7) (fun _ _ h => h)) (fun _ _ h => h) (fun _ h => h.elim) (fun k hk => Nat.le_trans (hb7).size hk) hb7 (hb7).size ?aL ?_
            case aL => have := L13.out; simp only [List.length_nil, List.length_append, List.length_cons]; omega
            intro v1 w8 r1 hb8 hg8 ha8
            refine hK.out _ _ (wk hb8) (fun hHeld => ?_)
            clear hK K
            refine norm_ (a' := ?_) ?_ ?_
            rotate_left
            · show Act.put _ (some 38) _ = _
              simp only [Act.put, List.setIfInBounds_toArray, List.set_cons_zero, List.set_cons_succ, i64_w, i32_w]
              rfl
            have hlt : w5.heap.size < w6.heap.size := by obtain ⟨b, h1, h2⟩ := hn6; have := Kd.R_lt r2 b h1; omega
            exact norm_ (by simp only [putAll, Act.put, List.setIfInBounds_toArray, List.set_cons_zero, List.set_cons_succ]) (hCont (v0, v1, v2) _ ⟨hb8, r1, Kd.R_mono (Kd.R_grown (Kd.R_grown r2 hg7 (by simp)) hg8 (fun k hk he => by have := r0.1 k he.symm; omega)) (fun k hk => hk ▸ hX.size)⟩)
        rintro ⟨v0, v1, v2⟩ w6 ⟨hb6, r1, r2⟩
        have hHeld := wk hb6
        obtain ⟨A6, c6, e6⟩ := Kd.R_slice r2
        simp only at e6
        subst e6
        refine norm_ (a' := ?_) ?_ ?_
        rotate_left
        · simp only [putAll, Act.put, List.setIfInBounds_toArray, List.set_cons_zero, List.set_cons_succ]
          rfl
        refine one_ (i := 6) (N := some 41) #[true, true, true, true, true, true, true, false, false] rfl rfl (one_of HT_.out (by kernel_rfl)) (by decide) (fun K hK => ?_)
        refine Kd.R_append_rows_step (Kd.fixed k45 w) (w0 := w4) w4.heap.size (by rfl) (.tmp 38) (.tmp 40) 25 45 (.agg #[(.string ⟨#[]⟩), (.int .i64 0), (.slice none 0 0), (.int .i64 0)]) 56 rfl Try.underlying25 info45 rfl (show 0 < 4 by omega) (by omega) v1 ([] ++ l3) [pz] A6 _ c6 (fun k => w4.heap.size ≤ k) (fun _ => False) rfl rfl (r1) ((Kd.R_reads' r2).2.2) (fun _ _ h => h) (fun _ h => h.elim) (fun k hk => Nat.le_trans (hb6).size hk) hb6 (hb6).size ?aL ?_
        case aL => have := L13.out; simp only [List.length_nil, List.length_append, List.length_cons]; omega
        intro v3 w7 r3 hb7 hg7 ha7
        obtain ⟨AH, cH, e7⟩ := Kd.R_slice r3
        subst e7
        refine hK.out _ _ (wk hb7) (fun hHeld => ?_)
        clear hK K
        refine norm_ (a' := ?_) ?_ ?_
        rotate_left
        · show Act.put _ (some 41) _ = _
          simp only [Act.put, List.setIfInBounds_toArray, List.set_cons_zero, List.set_cons_succ, i64_w, i32_w]
          rfl
        refine pure_ (i := 7) (N := some 42) (v := ?_) (a' := ?_) #[true, true, true, true, true, true, true, true, false] rfl rfl (any_of HT_.out (by kernel_rfl)) (fun _ _ _ h => h) (Or.inl ⟨by rfl, ?_⟩) ?_ ?_
        rotate_left
        · intro w'
          go_simp
          with_reducible rfl
        rotate_left
        · simp only [Act.put, List.setIfInBounds_toArray, List.set_cons_zero, List.set_cons_succ, i64_w, i32_w]
          rfl
        refine one_ (i := 8) (N := none) #[true, true, true, true, true, true, true, true, true] rfl rfl (one_of HT_.out (by kernel_rfl)) (by decide) (fun K hK => ?_)
        have hs42 : w7.cell? ⟨hb, 3, none⟩ = some (.slice A3 l3.length c3) := (blk_cell (blk_below BH4.out hb7) 3).trans rfl
        have hfs42 := blk_frozen (blk_below BH4.out hb7) 3
        refine skip_ (w1 := ?_) (by rfl) rfl ?_ ?_
        rotate_left
        · go_simp
          rfl
        refine hK.out _ _ ((wk hb7).setCell (Nat.le_refl _) _) (fun hHeld => ?_)
        clear hK K
        refine done_ (done_of HT_.out (by kernel_rfl)) ?_
        obtain ⟨q, hq⟩ : ∃ q, q = l3 ++ [pz] := ⟨_, rfl⟩
        have hql : q.length = l3.length + 1 := by rw [hq]; simp
        have HQ := Aside0.mk hq
        have hlen : ([] ++ l3 ++ [pz]).length = q.length := by rw [List.nil_append, ← hq]
        rw [hlen, ← hql] at *
        have W8R := Kd.R_far r3 (p := ⟨hb, 3, none⟩) (fun k hk => by have := HN.out; show k ≠ hb; omega) (.slice AH q.length cH)
        rw [List.nil_append, ← hq] at W8R
        have BG8 : Aside0 ((w7.setCell ⟨hb, 3, none⟩ (.slice AH q.length cH)).heap[w.heap.size]? = some (.cells #[.slice A0 l0.length c0, .slice A1 l1.length c1, .slice A2 l2.length c2, .slice A3 l3.length c3, .int .i64 st] 27 (0, 0))) := ⟨blk_far (blk_below BG4.out hb7) (by have := HN.out; show w.heap.size ≠ hb; omega) _⟩
        have BH8 : Aside0 ((w7.setCell ⟨hb, 3, none⟩ (.slice AH q.length cH)).heap[hb]? = some (.cells #[.slice A0 l0.length c0, .slice A1 l1.length c1, .slice A2 l2.length c2, .slice AH q.length cH, .int .i64 st] 27 (0, 0))) := ⟨blk_put (blk_below BH4.out hb7) 3 _ rfl⟩
        have HB8 : Aside0 (Below w.heap.size w (w7.setCell ⟨hb, 3, none⟩ (.slice AH q.length cH))) := ⟨below_set (below_step HB4.out hb7) HN.out.1⟩
        have HQC : Aside0 (q.length ≤ cH) := ⟨(Kd.R_reads' W8R).2.1⟩
        have HQ8 : Aside0 (Kd.C k45 (w7.setCell ⟨hb, 3, none⟩ (.slice AH q.length cH)) AH q.length q) := ⟨(Kd.R_reads' W8R).2.2.imp_ (Below.refl _ _) (fun p c h => k45.K_below HB8.out h)⟩
        generalize w7.setCell ⟨hb, 3, none⟩ (.slice AH q.length cH) = w8 at *
        clear hHeld
        clear W8R hq hlen hql hs42 hfs42 HT_ HW_ wk hX hg7 ha7 r1 r2 r3 hb6 hb7 Z3 Y0 Y1 Y2 Y3 BG4 BH4 BP4
        have hsub : Aside0 (∀ p ∈ l3, p ∈ q) := ⟨fun p hp => by rw [HQ.out]; exact List.mem_append.2 (.inl hp)⟩
        have hrq : Aside0 (∀ p ∈ q, ∀ s ∈ p.f2, -9223372036854775808 ≤ s ∧ s ≤ 9223372036854775807) := ⟨fun p hp s hs => by
          rw [HQ.out] at hp
          rcases List.mem_append.1 hp with h | h
          · exact HRG.out p h s hs
          · rw [List.mem_singleton] at h; subst h; rw [HPZ.out] at hs; exact HRP.out s hs⟩
        obtain ⟨z0, z1, z2, z3, z4⟩ := five5 BG8.out
        cases hv : validB l0 l1 l2 l3 st
        · have HV := Aside0.mk (show inst_Valid.f l0 l1 l2 l3 st = some _ from congrArg some hv)
          clear hv
          go_wp2_with (go_at_call 23; with_reducible refine (inst_Valid.calls _ _ l0 _ _ l1 _ _ l2 _ _ l3 st false _ (Kd.C_below HR0.out HB8.out) HC0.out (Kd.C_below HR1.out HB8.out) HC1.out (Kd.C_below HR2.out HB8.out) HC2.out (Kd.C_below HR3.out HB8.out) HC3.out HV.out).mono ?_; rintro e w9 ⟨rfl, hb⟩; have HB9 := Aside0.mk (below_step HB8.out hb); have HE9 := Aside0.mk (hb); have BG9 := Aside0.mk (blk_below BG8.out hb); have BH9 := Aside0.mk (blk_below BH8.out hb); clear hb)
          go_ret
          exact ⟨rfl, HB9.out⟩
        · have HV := Aside0.mk (show inst_Valid.f l0 l1 l2 l3 st = some _ from congrArg some hv)
          have HO := Aside0.mk (order_of hv HRG.out)
          clear hv
          cases hv2 : validB l0 l1 l2 q st
          · have HV2 := Aside0.mk (show inst_Valid.f l0 l1 l2 q st = some _ from congrArg some hv2)
            clear hv2
            go_wp2_with (first | (go_at_call 23; with_reducible refine (inst_Valid.calls _ _ l0 _ _ l1 _ _ l2 _ _ l3 st true _ (Kd.C_below HR0.out HB8.out) HC0.out (Kd.C_below HR1.out HB8.out) HC1.out (Kd.C_below HR2.out HB8.out) HC2.out (Kd.C_below HR3.out HB8.out) HC3.out HV.out).mono ?_; rintro e w9 ⟨rfl, hb⟩; have HB9 := Aside0.mk (below_step HB8.out hb); have HE9 := Aside0.mk (hb); have BG9 := Aside0.mk (blk_below BG8.out hb); have BH9 := Aside0.mk (blk_below BH8.out hb); clear hb; obtain ⟨x0, x1, x2, x3, x4⟩ := five5 BH9.out) | (go_at_call 23; with_reducible refine (inst_Valid.calls _ _ l0 _ _ l1 _ _ l2 _ _ q st false _ (Kd.C_below HR0.out HB9.out) HC0.out (Kd.C_below HR1.out HB9.out) HC1.out (Kd.C_below HR2.out HB9.out) HC2.out (Kd.C_below HQ8.out HE9.out) HQC.out HV2.out).mono ?_; rintro e w10 ⟨rfl, hb⟩; have HB10 := Aside0.mk (below_step HB9.out hb); have HE10 := Aside0.mk (below_step HE9.out hb); have BG10 := Aside0.mk (blk_below BG9.out hb); have BH10 := Aside0.mk (blk_below BH9.out hb); clear hb))
            go_ret
            exact ⟨rfl, HB10.out⟩
          · have HV2 := Aside0.mk (show inst_Valid.f l0 l1 l2 q st = some _ from congrArg some hv2)
            have HO2 := Aside0.mk (order_of hv2 hrq.out)
            clear hv2
            go_upto_region 12 with (first | (go_at_call 23; with_reducible refine (inst_Valid.calls _ _ l0 _ _ l1 _ _ l2 _ _ l3 st true _ (Kd.C_below HR0.out HB8.out) HC0.out (Kd.C_below HR1.out HB8.out) HC1.out (Kd.C_below HR2.out HB8.out) HC2.out (Kd.C_below HR3.out HB8.out) HC3.out HV.out).mono ?_; rintro e w9 ⟨rfl, hb⟩; have HB9 := Aside0.mk (below_step HB8.out hb); have HE9 := Aside0.mk (hb); have BG9 := Aside0.mk (blk_below BG8.out hb); have BH9 := Aside0.mk (blk_below BH8.out hb); clear hb; obtain ⟨x0, x1, x2, x3, x4⟩ := five5 BH9.out) | (go_at_call 23; with_reducible refine (inst_Valid.calls _ _ l0 _ _ l1 _ _ l2 _ _ q st true _ (Kd.C_below HR0.out HB9.out) HC0.out (Kd.C_below HR1.out HB9.out) HC1.out (Kd.C_below HR2.out HB9.out) HC2.out (Kd.C_below HQ8.out HE9.out) HQC.out HV2.out).mono ?_; rintro e w10 ⟨rfl, hb⟩; have HB10 := Aside0.mk (below_step HB9.out hb); have HE10 := Aside0.mk (below_step HE9.out hb); have BG10 := Aside0.mk (blk_below BG9.out hb); have BH10 := Aside0.mk (blk_below BH9.out hb); clear hb))
            clear z0 z1 z2 z3 z4 x0 x1 x2 x3 x4 HB8 BG8 BH8 HB9 HE9 BG9 BH9
            obtain ⟨z0, z1, z2, z3, z4⟩ := five5 BG10.out
            go_upto_region 13 with (go_at_call 17; refine (sets_First.calls 61 _ _ l0 _ _ l1 _ _ l2 _ _ l3 st (fR l0 l2 l3) _ (Kd.C_below HR0.out HB10.out) HC0.out (Kd.C_below HR1.out HB10.out) HC1.out (Kd.C_below HR2.out HB10.out) HC2.out (Kd.C_below HR3.out HB10.out) HC3.out (First_is HO.out 61 (Nat.le_refl _))).mono ?_; rintro e w11 ⟨v, rfl, hR, hb⟩; obtain ⟨AFa, cFa, rfl, hF⟩ := row_of hR ((fR_ok HO.out).1); clear hR; have HFa11 := Aside0.mk hF; clear hF; have HB11 := Aside0.mk (below_step HB10.out hb); have HE11 := Aside0.mk (below_step HE10.out hb); have BG11 := Aside0.mk (blk_below BG10.out hb); have BH11 := Aside0.mk (blk_below BH10.out hb); clear hb)
            clear z0 z1 z2 z3 z4 HB10 HE10 BG10 BH10 
            obtain ⟨z0, z1, z2, z3, z4⟩ := five5 BH11.out
            go_upto_region 14 with (go_at_call 17; refine (sets_First.calls 61 _ _ l0 _ _ l1 _ _ l2 _ _ q st (fR l0 l2 q) _ (Kd.C_below HR0.out HB11.out) HC0.out (Kd.C_below HR1.out HB11.out) HC1.out (Kd.C_below HR2.out HB11.out) HC2.out (Kd.C_below HQ8.out HE11.out) HQC.out (First_is HO2.out 61 (Nat.le_refl _))).mono ?_; rintro e w12 ⟨v, rfl, hR, hb⟩; obtain ⟨AFb, cFb, rfl, hF⟩ := row_of hR ((fR_ok HO2.out).1); clear hR; have HFb12 := Aside0.mk hF; clear hF; have HFa12 := Aside0.mk (Kd.C_below HFa11.out hb); have HB12 := Aside0.mk (below_step HB11.out hb); have HE12 := Aside0.mk (below_step HE11.out hb); have BG12 := Aside0.mk (blk_below BG11.out hb); have BH12 := Aside0.mk (blk_below BH11.out hb); clear hb)
            clear z0 z1 z2 z3 z4 HB11 HE11 BG11 BH11 HFa11
            obtain ⟨z0, z1, z2, z3, z4⟩ := five5 BG12.out
            go_upto_region 15 with (go_at_call 19; refine (sets_Follow.calls 61 _ _ l0 _ _ l1 _ _ l2 _ _ l3 st (wR l0 l2 l3 st) _ (Kd.C_below HR0.out HB12.out) HC0.out (Kd.C_below HR1.out HB12.out) HC1.out (Kd.C_below HR2.out HB12.out) HC2.out (Kd.C_below HR3.out HB12.out) HC3.out (Follow_is HO.out 61 (Nat.le_refl _))).mono ?_; rintro e w13 ⟨v, rfl, hR, hb⟩; obtain ⟨AFc, cFc, rfl, hF⟩ := row_of hR ((wR_ok HO.out).1); clear hR; have HFc13 := Aside0.mk hF; clear hF; have HFa13 := Aside0.mk (Kd.C_below HFa12.out hb); have HFb13 := Aside0.mk (Kd.C_below HFb12.out hb); have HB13 := Aside0.mk (below_step HB12.out hb); have HE13 := Aside0.mk (below_step HE12.out hb); have BG13 := Aside0.mk (blk_below BG12.out hb); have BH13 := Aside0.mk (blk_below BH12.out hb); clear hb)
            clear z0 z1 z2 z3 z4 HB12 HE12 BG12 BH12 HFa12 HFb12
            obtain ⟨z0, z1, z2, z3, z4⟩ := five5 BH13.out
            go_upto_region 16 with (go_at_call 19; refine (sets_Follow.calls 61 _ _ l0 _ _ l1 _ _ l2 _ _ q st (wR l0 l2 q st) _ (Kd.C_below HR0.out HB13.out) HC0.out (Kd.C_below HR1.out HB13.out) HC1.out (Kd.C_below HR2.out HB13.out) HC2.out (Kd.C_below HQ8.out HE13.out) HQC.out (Follow_is HO2.out 61 (Nat.le_refl _))).mono ?_; rintro e w14 ⟨v, rfl, hR, hb⟩; obtain ⟨AFd, cFd, rfl, hF⟩ := row_of hR ((wR_ok HO2.out).1); clear hR; have HFd14 := Aside0.mk hF; clear hF; have HFa14 := Aside0.mk (Kd.C_below HFa13.out hb); have HFb14 := Aside0.mk (Kd.C_below HFb13.out hb); have HFc14 := Aside0.mk (Kd.C_below HFc13.out hb); have HB14 := Aside0.mk (below_step HB13.out hb); have HE14 := Aside0.mk (below_step HE13.out hb); have BG14 := Aside0.mk (blk_below BG13.out hb); have BH14 := Aside0.mk (blk_below BH13.out hb); clear hb)
            clear z0 z1 z2 z3 z4 HB13 HE13 BG13 BH13 HFa13 HFb13 HFc13
            have hu28 := Try.underlying28
            go_wp2
            go_loopw [12] (fun v12 wr => ∃ i : Nat, v12 = .int .i64 i ∧ i ≤ l2.length ∧ Aside0 (Below w14.heap.size w14 wr)) (fun v12 _ => l2.length - (intOf v12).toNat)
            case atStart => exact ⟨0, rfl, Nat.zero_le _, ⟨Below.refl _ _⟩⟩
            case round =>
              obtain ⟨i, rfl, hi, HBR⟩ := hrel
              have HBw : Aside0 (Below w.heap.size w wr) := ⟨below_step HB14.out HBR.out⟩
              have HBe : Aside0 (Below w8.heap.size w8 wr) := ⟨below_step HE14.out HBR.out⟩
              have BGr := Aside0.mk (blk_below BG14.out HBR.out)
              have BHr := Aside0.mk (blk_below BH14.out HBR.out)
              obtain ⟨z0, z1, z2, z3, z4⟩ := five5 BGr.out
              obtain ⟨x0, x1, x2, x3, x4⟩ := five5 BHr.out
              have hmx : l2.length ≤ 9223372036854775807 := HR2.out.2.1
              by_cases hlt : i < l2.length
              · have hltb : decide (i < l2.length) = true := decide_eq_true (by omega)
                obtain ⟨adFa, rfl, hFa⟩ := Kd.at_int (Kd.C_below HFa14.out HBR.out) (i : Int) (by omega) (by omega)
                rw [Int.toNat_natCast] at hFa
                obtain ⟨adFb, rfl, hFb⟩ := Kd.at_int (Kd.C_below HFb14.out HBR.out) (i : Int) (by omega) (by omega)
                rw [Int.toNat_natCast] at hFb
                obtain ⟨adFc, rfl, hFc⟩ := Kd.at_int (Kd.C_below HFc14.out HBR.out) (i : Int) (by omega) (by omega)
                rw [Int.toNat_natCast] at hFc
                obtain ⟨adFd, rfl, hFd⟩ := Kd.at_int (Kd.C_below HFd14.out HBR.out) (i : Int) (by omega) (by omega)
                rw [Int.toNat_natCast] at hFd
                have HI1 := Aside0.mk (in_firsts HO.out HO2.out hsub.out i)
                have HI2 := Aside0.mk (in_follows HO.out HO2.out hsub.out i)
                have HEm := Aside0.mk (empties HO.out HO2.out hsub.out i)
                have HLm := Aside0.mk (lives HO.out HO2.out hsub.out i)
                generalize rd (fR l0 l2 l3) (i : Int) = oa at hFa HI1 HI2
                generalize rd (fR l0 l2 q) (i : Int) = ob at hFb HI1 HI2
                generalize rd (wR l0 l2 l3 st) (i : Int) = oc at hFc HI1 HI2
                generalize rd (wR l0 l2 q st) (i : Int) = od at hFd HI1 HI2
                have q1 : ((i : Int) < (l2.length : Int)) = True := eq_true (by omega)
                have q2 : (i < l2.length) = True := eq_true hlt
                go_upto_region 19 with fail
                have Z0 := Aside0.mk (cell_below z0)
                have Z1 := Aside0.mk (cell_below z1)
                have Z2 := Aside0.mk (cell_below z2)
                have Z3 := Aside0.mk (cell_below z3)
                have Z4 := Aside0.mk (cell_below z4)
                have X0 := Aside0.mk (cell_below x0)
                have X1 := Aside0.mk (cell_below x1)
                have X2 := Aside0.mk (cell_below x2)
                have X3 := Aside0.mk (cell_below x3)
                have X4 := Aside0.mk (cell_below x4)
                have HFA := Aside0.mk (cell_below hFa)
                have HFB := Aside0.mk (cell_below hFb)
                have HFC := Aside0.mk (cell_below hFc)
                have HFD := Aside0.mk (cell_below hFd)
                clear z0 z1 z2 z3 z4 x0 x1 x2 x3 x4 hFa hFb hFc hFd
                refine start_ (n := 52) (S := fun w' => Below wr.heap.size wr w') (ds := []) #[false, false, false, false, false, false, false, false, false, false, false, false, false, false, false, false, false, false, false, false, false, false, false, false, false, false, false, false, false, false, false, false, false, false, false, false, false, false, false, false, false, false, false, false, false, false, false, false, false, false, false, false] (by kernel_rfl) rfl rfl (below_drew (Below.refl _ _)) (fun hHeld => ?_); refine with_tabW more_tab19 more_bits19 (fun HT_ HW_ => ?_)
                generalize wr.drew = v1 at hHeld ⊢
                refine pure_ (i := 0) (N := some 67) (v := ?_) (a' := ?_) #[true, false, false, false, false, false, false, false, false, false, false, false, false, false, false, false, false, false, false, false, false, false, false, false, false, false, false, false, false, false, false, false, false, false, false, false, false, false, false, false, false, false, false, false, false, false, false, false, false, false, false, false] rfl rfl (any_of HT_.out (by kernel_rfl)) (fun _ _ _ h => h) (Or.inl ⟨by rfl, ?_⟩) ?_ ?_
                rotate_left
                · intro w'
                  go_simp
                  with_reducible rfl
                rotate_left
                · simp only [Act.put, List.setIfInBounds_toArray, List.set_cons_zero, List.set_cons_succ, i64_w, i32_w]
                  rfl
                refine pure_ (i := 1) (N := some 68) (v := ?_) (a' := ?_) #[true, true, false, false, false, false, false, false, false, false, false, false, false, false, false, false, false, false, false, false, false, false, false, false, false, false, false, false, false, false, false, false, false, false, false, false, false, false, false, false, false, false, false, false, false, false, false, false, false, false, false, false] rfl rfl (any_of HT_.out (by kernel_rfl)) (fun _ _ _ h => h) (Or.inl ⟨by rfl, ?_⟩) ?_ ?_
                rotate_left
                · intro w'
                  go_simp
                  with_reducible rfl
                rotate_left
                · simp only [Act.put, List.setIfInBounds_toArray, List.set_cons_zero, List.set_cons_succ, i64_w, i32_w]
                  rfl
                refine pure_ (i := 2) (N := some 69) (v := ?_) (a' := ?_) #[true, true, true, false, false, false, false, false, false, false, false, false, false, false, false, false, false, false, false, false, false, false, false, false, false, false, false, false, false, false, false, false, false, false, false, false, false, false, false, false, false, false, false, false, false, false, false, false, false, false, false, false] rfl rfl (any_of HT_.out (by kernel_rfl)) (fun _ _ _ h => h) (Or.inl ⟨by rfl, ?_⟩) ?_ ?_
                rotate_left
                · intro w'
                  go_simp
                  with_reducible rfl
                rotate_left
                · simp only [Act.put, List.setIfInBounds_toArray, List.set_cons_zero, List.set_cons_succ, i64_w, i32_w]
                  rfl
                refine pure_ (i := 4) (N := some 71) (v := ?_) (a' := ?_) #[true, true, true, false, true, false, false, false, false, false, false, false, false, false, false, false, false, false, false, false, false, false, false, false, false, false, false, false, false, false, false, false, false, false, false, false, false, false, false, false, false, false, false, false, false, false, false, false, false, false, false, false] rfl rfl (any_of HT_.out (by kernel_rfl)) (fun _ _ _ h => h) (Or.inl ⟨by rfl, ?_⟩) ?_ ?_
                rotate_left
                · intro w'
                  go_simp
                  with_reducible rfl
                rotate_left
                · simp only [Act.put, List.setIfInBounds_toArray, List.set_cons_zero, List.set_cons_succ, i64_w, i32_w]
                  rfl
                refine pure_ (i := 5) (N := some 72) (v := ?_) (a' := ?_) #[true, true, true, false, true, true, false, false, false, false, false, false, false, false, false, false, false, false, false, false, false, false, false, false, false, false, false, false, false, false, false, false, false, false, false, false, false, false, false, false, false, false, false, false, false, false, false, false, false, false, false, false] rfl rfl (any_of HT_.out (by kernel_rfl)) (fun _ _ _ h => h) (Or.inl ⟨by rfl, ?_⟩) ?_ ?_
                rotate_left
                · intro w'
                  go_simp
                  with_reducible rfl
                rotate_left
                · simp only [Act.put, List.setIfInBounds_toArray, List.set_cons_zero, List.set_cons_succ, i64_w, i32_w]
                  rfl
                refine pure_ (i := 6) (N := some 73) (v := ?_) (a' := ?_) #[true, true, true, false, true, true, true, false, false, false, false, false, false, false, false, false, false, false, false, false, false, false, false, false, false, false, false, false, false, false, false, false, false, false, false, false, false, false, false, false, false, false, false, false, false, false, false, false, false, false, false, false] rfl rfl (any_of HT_.out (by kernel_rfl)) (fun _ _ _ h => h) (Or.inl ⟨by rfl, ?_⟩) ?_ ?_
                rotate_left
                · intro w'
                  go_simp
                  with_reducible rfl
                rotate_left
                · simp only [Act.put, List.setIfInBounds_toArray, List.set_cons_zero, List.set_cons_succ, i64_w, i32_w]
                  rfl
                refine take_ (i := 3) (N := some 70) (v := ?_) (a' := ?_) #[true, true, true, true, true, true, true, false, false, false, false, false, false, false, false, false, false, false, false, false, false, false, false, false, false, false, false, false, false, false, false, false, false, false, false, false, false, false, false, false, false, false, false, false, false, false, false, false, false, false, false, false] rfl rfl (take_ofW HT_.out HW_.out (by kernel_rfl)) (fun _ _ _ h => h) (Or.inl ⟨by rfl, ?_⟩) hHeld ?_ ?_
                rotate_left
                · intro w' hw'
                  have s0 := HFA.out w' hw'
                  go_simp
                  with_reducible rfl
                rotate_left
                · simp only [Act.put, List.setIfInBounds_toArray, List.set_cons_zero, List.set_cons_succ, i64_w, i32_w]
                  rfl
                refine take_ (i := 7) (N := some 74) (v := ?_) (a' := ?_) #[true, true, true, true, true, true, true, true, false, false, false, false, false, false, false, false, false, false, false, false, false, false, false, false, false, false, false, false, false, false, false, false, false, false, false, false, false, false, false, false, false, false, false, false, false, false, false, false, false, false, false, false] rfl rfl (take_ofW HT_.out HW_.out (by kernel_rfl)) (fun _ _ _ h => h) (Or.inl ⟨by rfl, ?_⟩) hHeld ?_ ?_
                rotate_left
                · intro w' hw'
                  have s0 := HFB.out w' hw'
                  go_simp
                  with_reducible rfl
                rotate_left
                · simp only [Act.put, List.setIfInBounds_toArray, List.set_cons_zero, List.set_cons_succ, i64_w, i32_w]
                  rfl
                refine one_ (i := 8) (N := some 75) #[true, true, true, true, true, true, true, true, true, false, false, false, false, false, false, false, false, false, false, false, false, false, false, false, false, false, false, false, false, false, false, false, false, false, false, false, false, false, false, false, false, false, false, false, false, false, false, false, false, false, false, false] rfl rfl (one_of HT_.out (by kernel_rfl)) (by decide) (fun K hK => ?_)
                refine goes_ Try.func25 (by kernel_rfl) rfl #[.int .u64 oa, .int .u64 ob] (by rfl) rfl rfl (by (try simp only [List.map_toArray, List.map_cons, List.map_nil]); rfl) ?_
                with_reducible refine (bits_In.calls _ _ true _ HI1.out).mono ?_
                rintro e w' ⟨rfl, ⟨nd, rfl⟩⟩
                refine ⟨_, rfl, ?_⟩
                refine hK.out _ _ (pw_below_drewN hHeld _) (fun hHeld => ?_)
                clear hK K
                refine norm_ (a' := ?_) ?_ ?_
                rotate_left
                · show Act.put _ (some 75) _ = _
                  simp only [Act.put, List.setIfInBounds_toArray, List.set_cons_zero, List.set_cons_succ, i64_w, i32_w]
                  rfl
                generalize v1.drewN nd = v2 at hHeld ⊢
                refine pure_ (i := 9) (N := some 76) (v := ?_) (a' := ?_) #[true, true, true, true, true, true, true, true, true, true, false, false, false, false, false, false, false, false, false, false, false, false, false, false, false, false, false, false, false, false, false, false, false, false, false, false, false, false, false, false, false, false, false, false, false, false, false, false, false, false, false, false] rfl rfl (any_of HT_.out (by kernel_rfl)) (fun _ _ _ h => h) (Or.inl ⟨by rfl, ?_⟩) ?_ ?_
                rotate_left
                · intro w'
                  go_simp
                  with_reducible rfl
                rotate_left
                · simp only [Act.put, List.setIfInBounds_toArray, List.set_cons_zero, List.set_cons_succ, i64_w, i32_w]
                  rfl
                refine pure_ (i := 10) (N := some 77) (v := ?_) (a' := ?_) #[true, true, true, true, true, true, true, true, true, true, true, false, false, false, false, false, false, false, false, false, false, false, false, false, false, false, false, false, false, false, false, false, false, false, false, false, false, false, false, false, false, false, false, false, false, false, false, false, false, false, false, false] rfl rfl (any_of HT_.out (by kernel_rfl)) (fun _ _ _ h => h) (Or.inl ⟨by rfl, ?_⟩) ?_ ?_
                rotate_left
                · intro w'
                  go_simp
                  with_reducible rfl
                rotate_left
                · simp only [Act.put, List.setIfInBounds_toArray, List.set_cons_zero, List.set_cons_succ, i64_w, i32_w]
                  rfl
                refine pure_ (i := 11) (N := some 78) (v := ?_) (a' := ?_) #[true, true, true, true, true, true, true, true, true, true, true, true, false, false, false, false, false, false, false, false, false, false, false, false, false, false, false, false, false, false, false, false, false, false, false, false, false, false, false, false, false, false, false, false, false, false, false, false, false, false, false, false] rfl rfl (any_of HT_.out (by kernel_rfl)) (fun _ _ _ h => h) (Or.inl ⟨by rfl, ?_⟩) ?_ ?_
                rotate_left
                · intro w'
                  go_simp
                  with_reducible rfl
                rotate_left
                · simp only [Act.put, List.setIfInBounds_toArray, List.set_cons_zero, List.set_cons_succ, i64_w, i32_w]
                  rfl
                refine pure_ (i := 12) (N := some 79) (v := ?_) (a' := ?_) #[true, true, true, true, true, true, true, true, true, true, true, true, true, false, false, false, false, false, false, false, false, false, false, false, false, false, false, false, false, false, false, false, false, false, false, false, false, false, false, false, false, false, false, false, false, false, false, false, false, false, false, false] rfl rfl (any_of HT_.out (by kernel_rfl)) (fun _ _ _ h => h) (Or.inl ⟨by rfl, ?_⟩) ?_ ?_
                rotate_left
                · intro w'
                  go_simp
                  with_reducible rfl
                rotate_left
                · simp only [Act.put, List.setIfInBounds_toArray, List.set_cons_zero, List.set_cons_succ, i64_w, i32_w]
                  rfl
                refine pure_ (i := 13) (N := some 80) (v := ?_) (a' := ?_) #[true, true, true, true, true, true, true, true, true, true, true, true, true, true, false, false, false, false, false, false, false, false, false, false, false, false, false, false, false, false, false, false, false, false, false, false, false, false, false, false, false, false, false, false, false, false, false, false, false, false, false, false] rfl rfl (any_of HT_.out (by kernel_rfl)) (fun _ _ _ h => h) (Or.inl ⟨by rfl, ?_⟩) ?_ ?_
                rotate_left
                · intro w'
                  go_simp
                  with_reducible rfl
                rotate_left
                · simp only [Act.put, List.setIfInBounds_toArray, List.set_cons_zero, List.set_cons_succ, i64_w, i32_w]
                  rfl
                refine pure_ (i := 15) (N := some 82) (v := ?_) (a' := ?_) #[true, true, true, true, true, true, true, true, true, true, true, true, true, true, false, true, false, false, false, false, false, false, false, false, false, false, false, false, false, false, false, false, false, false, false, false, false, false, false, false, false, false, false, false, false, false, false, false, false, false, false, false] rfl rfl (any_of HT_.out (by kernel_rfl)) (fun _ _ _ h => h) (Or.inl ⟨by rfl, ?_⟩) ?_ ?_
                rotate_left
                · intro w'
                  go_simp
                  with_reducible rfl
                rotate_left
                · simp only [Act.put, List.setIfInBounds_toArray, List.set_cons_zero, List.set_cons_succ, i64_w, i32_w]
                  rfl
                refine pure_ (i := 16) (N := some 83) (v := ?_) (a' := ?_) #[true, true, true, true, true, true, true, true, true, true, true, true, true, true, false, true, true, false, false, false, false, false, false, false, false, false, false, false, false, false, false, false, false, false, false, false, false, false, false, false, false, false, false, false, false, false, false, false, false, false, false, false] rfl rfl (any_of HT_.out (by kernel_rfl)) (fun _ _ _ h => h) (Or.inl ⟨by rfl, ?_⟩) ?_ ?_
                rotate_left
                · intro w'
                  go_simp
                  with_reducible rfl
                rotate_left
                · simp only [Act.put, List.setIfInBounds_toArray, List.set_cons_zero, List.set_cons_succ, i64_w, i32_w]
                  rfl
                refine pure_ (i := 17) (N := some 84) (v := ?_) (a' := ?_) #[true, true, true, true, true, true, true, true, true, true, true, true, true, true, false, true, true, true, false, false, false, false, false, false, false, false, false, false, false, false, false, false, false, false, false, false, false, false, false, false, false, false, false, false, false, false, false, false, false, false, false, false] rfl rfl (any_of HT_.out (by kernel_rfl)) (fun _ _ _ h => h) (Or.inl ⟨by rfl, ?_⟩) ?_ ?_
                rotate_left
                · intro w'
                  go_simp
                  with_reducible rfl
                rotate_left
                · simp only [Act.put, List.setIfInBounds_toArray, List.set_cons_zero, List.set_cons_succ, i64_w, i32_w]
                  rfl
                refine take_ (i := 14) (N := some 81) (v := ?_) (a' := ?_) #[true, true, true, true, true, true, true, true, true, true, true, true, true, true, true, true, true, true, false, false, false, false, false, false, false, false, false, false, false, false, false, false, false, false, false, false, false, false, false, false, false, false, false, false, false, false, false, false, false, false, false, false] rfl rfl (take_ofW HT_.out HW_.out (by kernel_rfl)) (fun _ _ _ h => h) (Or.inl ⟨by rfl, ?_⟩) hHeld ?_ ?_
                rotate_left
                · intro w' hw'
                  have s0 := HFC.out w' hw'
                  go_simp
                  with_reducible rfl
                rotate_left
                · simp only [Act.put, List.setIfInBounds_toArray, List.set_cons_zero, List.set_cons_succ, i64_w, i32_w]
                  rfl
                refine take_ (i := 18) (N := some 85) (v := ?_) (a' := ?_) #[true, true, true, true, true, true, true, true, true, true, true, true, true, true, true, true, true, true, true, false, false, false, false, false, false, false, false, false, false, false, false, false, false, false, false, false, false, false, false, false, false, false, false, false, false, false, false, false, false, false, false, false] rfl rfl (take_ofW HT_.out HW_.out (by kernel_rfl)) (fun _ _ _ h => h) (Or.inl ⟨by rfl, ?_⟩) hHeld ?_ ?_
                rotate_left
                · intro w' hw'
                  have s0 := HFD.out w' hw'
                  go_simp
                  with_reducible rfl
                rotate_left
                · simp only [Act.put, List.setIfInBounds_toArray, List.set_cons_zero, List.set_cons_succ, i64_w, i32_w]
                  rfl
                refine one_ (i := 19) (N := some 86) #[true, true, true, true, true, true, true, true, true, true, true, true, true, true, true, true, true, true, true, true, false, false, false, false, false, false, false, false, false, false, false, false, false, false, false, false, false, false, false, false, false, false, false, false, false, false, false, false, false, false, false, false] rfl rfl (one_of HT_.out (by kernel_rfl)) (by decide) (fun K hK => ?_)
                refine goes_ Try.func25 (by kernel_rfl) rfl #[.int .u64 oc, .int .u64 od] (by rfl) rfl rfl (by (try simp only [List.map_toArray, List.map_cons, List.map_nil]); rfl) ?_
                with_reducible refine (bits_In.calls _ _ true _ HI2.out).mono ?_
                rintro e w' ⟨rfl, ⟨nd, rfl⟩⟩
                refine ⟨_, rfl, ?_⟩
                refine hK.out _ _ (pw_below_drewN hHeld _) (fun hHeld => ?_)
                clear hK K
                refine norm_ (a' := ?_) ?_ ?_
                rotate_left
                · show Act.put _ (some 86) _ = _
                  simp only [Act.put, List.setIfInBounds_toArray, List.set_cons_zero, List.set_cons_succ, i64_w, i32_w]
                  rfl
                generalize v2.drewN nd = v3 at hHeld ⊢
                refine pure_ (i := 20) (N := some 87) (v := ?_) (a' := ?_) #[true, true, true, true, true, true, true, true, true, true, true, true, true, true, true, true, true, true, true, true, true, false, false, false, false, false, false, false, false, false, false, false, false, false, false, false, false, false, false, false, false, false, false, false, false, false, false, false, false, false, false, false] rfl rfl (any_of HT_.out (by kernel_rfl)) (fun _ _ _ h => h) (Or.inl ⟨by rfl, ?_⟩) ?_ ?_
                rotate_left
                · intro w'
                  go_simp
                  with_reducible rfl
                rotate_left
                · simp only [Act.put, List.setIfInBounds_toArray, List.set_cons_zero, List.set_cons_succ, i64_w, i32_w]
                  rfl
                refine pure_ (i := 21) (N := some 88) (v := ?_) (a' := ?_) #[true, true, true, true, true, true, true, true, true, true, true, true, true, true, true, true, true, true, true, true, true, true, false, false, false, false, false, false, false, false, false, false, false, false, false, false, false, false, false, false, false, false, false, false, false, false, false, false, false, false, false, false] rfl rfl (any_of HT_.out (by kernel_rfl)) (fun _ _ _ h => h) (Or.inl ⟨by rfl, ?_⟩) ?_ ?_
                rotate_left
                · intro w'
                  go_simp
                  with_reducible rfl
                rotate_left
                · simp only [Act.put, List.setIfInBounds_toArray, List.set_cons_zero, List.set_cons_succ, i64_w, i32_w]
                  rfl
                refine pure_ (i := 22) (N := some 89) (v := ?_) (a' := ?_) #[true, true, true, true, true, true, true, true, true, true, true, true, true, true, true, true, true, true, true, true, true, true, true, false, false, false, false, false, false, false, false, false, false, false, false, false, false, false, false, false, false, false, false, false, false, false, false, false, false, false, false, false] rfl rfl (any_of HT_.out (by kernel_rfl)) (fun _ _ _ h => h) (Or.inl ⟨by rfl, ?_⟩) ?_ ?_
                rotate_left
                · intro w'
                  go_simp
                  with_reducible rfl
                rotate_left
                · simp only [Act.put, List.setIfInBounds_toArray, List.set_cons_zero, List.set_cons_succ, i64_w, i32_w]
                  rfl
                refine pure_ (i := 25) (N := some 92) (v := ?_) (a' := ?_) #[true, true, true, true, true, true, true, true, true, true, true, true, true, true, true, true, true, true, true, true, true, true, true, false, false, true, false, false, false, false, false, false, false, false, false, false, false, false, false, false, false, false, false, false, false, false, false, false, false, false, false, false] rfl rfl (any_of HT_.out (by kernel_rfl)) (fun _ _ _ h => h) (Or.inl ⟨by rfl, ?_⟩) ?_ ?_
                rotate_left
                · intro w'
                  go_simp
                  with_reducible rfl
                rotate_left
                · simp only [Act.put, List.setIfInBounds_toArray, List.set_cons_zero, List.set_cons_succ, i64_w, i32_w]
                  rfl
                refine take_ (i := 23) (N := some 90) (v := ?_) (a' := ?_) #[true, true, true, true, true, true, true, true, true, true, true, true, true, true, true, true, true, true, true, true, true, true, true, true, false, true, false, false, false, false, false, false, false, false, false, false, false, false, false, false, false, false, false, false, false, false, false, false, false, false, false, false] rfl rfl (take_ofW HT_.out HW_.out (by kernel_rfl)) (fun _ _ _ h => h) (Or.inl ⟨by rfl, ?_⟩) hHeld ?_ ?_
                rotate_left
                · intro w' hw'
                  have s0 := Z0.out w' hw'
                  have s1 := Z1.out w' hw'
                  have s2 := Z2.out w' hw'
                  have s3 := Z3.out w' hw'
                  have s4 := Z4.out w' hw'
                  go_simp
                  with_reducible rfl
                rotate_left
                · simp only [Act.put, List.setIfInBounds_toArray, List.set_cons_zero, List.set_cons_succ, i64_w, i32_w]
                  rfl
                cases hoe : rdOf false (eR l2 l3) (i : Int)
                · skip
                  refine one_ (i := 24) (N := some 91) #[true, true, true, true, true, true, true, true, true, true, true, true, true, true, true, true, true, true, true, true, true, true, true, true, true, true, false, false, false, false, false, false, false, false, false, false, false, false, false, false, false, false, false, false, false, false, false, false, false, false, false, false] rfl rfl (one_of HT_.out (by kernel_rfl)) (by decide) (fun K hK => ?_)
                  refine goes_ Try.func12 (by kernel_rfl) rfl #[.agg #[.slice A0 l0.length c0, .slice A1 l1.length c1, .slice A2 l2.length c2, .slice A3 l3.length c3, .int .i64 st]] (by rfl) rfl rfl (by (try simp only [List.map_toArray, List.map_cons, List.map_nil]); rfl) ?_
                  with_reducible refine (sets_Empty.calls 61 _ _ l0 _ _ l1 _ _ l2 _ _ l3 st (eR l2 l3) _ (Kd.C_below HR0.out (below_step HBw.out hHeld)) HC0.out (Kd.C_below HR1.out (below_step HBw.out hHeld)) HC1.out (Kd.C_below HR2.out (below_step HBw.out hHeld)) HC2.out (Kd.C_below HR3.out (below_step HBw.out hHeld)) HC3.out (Empty_is HO.out 61 (Nat.le_refl _))).mono ?_
                  rintro e v4 ⟨v, rfl, hR, hbc⟩
                  obtain ⟨AE1, cE1, rfl, hE⟩ := row_of hR (eR_len l2 l3)
                  obtain ⟨adE1, rfl, hE1⟩ := Kd.at_bool hE (i : Int) (by omega) (by omega)
                  rw [Int.toNat_natCast] at hE1
                  clear hE hR
                  refine ⟨_, rfl, ?_⟩
                  refine hK.out _ _ (below_step hHeld hbc) (fun hHeld => ?_)
                  clear hK K
                  refine norm_ (a' := ?_) ?_ ?_
                  rotate_left
                  · show Act.put _ (some 91) _ = _
                    simp only [Act.put, List.setIfInBounds_toArray, List.set_cons_zero, List.set_cons_succ, i64_w, i32_w]
                    rfl
                  rw [hoe] at hE1
                  refine pure_ (i := 26) (N := some 93) (v := ?_) (a' := ?_) #[true, true, true, true, true, true, true, true, true, true, true, true, true, true, true, true, true, true, true, true, true, true, true, true, true, true, true, false, false, false, false, false, false, false, false, false, false, false, false, false, false, false, false, false, false, false, false, false, false, false, false, false] rfl rfl (any_of HT_.out (by kernel_rfl)) (fun _ _ _ h => h) (Or.inl ⟨by rfl, ?_⟩) ?_ ?_
                  rotate_left
                  · intro w'
                    go_simp
                    with_reducible rfl
                  rotate_left
                  · simp only [Act.put, List.setIfInBounds_toArray, List.set_cons_zero, List.set_cons_succ, i64_w, i32_w]
                    rfl
                  refine one_ (i := 27) (N := some 94) #[true, true, true, true, true, true, true, true, true, true, true, true, true, true, true, true, true, true, true, true, true, true, true, true, true, true, true, true, false, false, false, false, false, false, false, false, false, false, false, false, false, false, false, false, false, false, false, false, false, false, false, false] rfl rfl (one_of HT_.out (by kernel_rfl)) (by decide) (fun K hK => ?_)
                  refine value_ (w1 := ?_) (v := ?_) (by rfl) rfl ?_ ?_
                  rotate_left 2
                  · go_simp
                    constructor
                    · rfl
                    · rfl
                  refine hK.out _ _ (hHeld) (fun hHeld => ?_)
                  clear hK K
                  refine norm_ (a' := ?_) ?_ ?_
                  rotate_left
                  · show Act.put _ (some 94) _ = _
                    simp only [Act.put, List.setIfInBounds_toArray, List.set_cons_zero, List.set_cons_succ, i64_w, i32_w]
                    rfl
                  clear hE1
                  refine pure_ (i := 28) (N := some 95) (v := ?_) (a' := ?_) #[true, true, true, true, true, true, true, true, true, true, true, true, true, true, true, true, true, true, true, true, true, true, true, true, true, true, true, true, true, false, false, false, false, false, false, false, false, false, false, false, false, false, false, false, false, false, false, false, false, false, false, false] rfl rfl (any_of HT_.out (by kernel_rfl)) (fun _ _ _ h => h) (Or.inl ⟨by rfl, ?_⟩) ?_ ?_
                  rotate_left
                  · intro w'
                    go_simp
                    with_reducible rfl
                  rotate_left
                  · simp only [Act.put, List.setIfInBounds_toArray, List.set_cons_zero, List.set_cons_succ, i64_w, i32_w]
                    rfl
                  refine pure_ (i := 29) (N := some 96) (v := undef) (a' := ?_) #[true, true, true, true, true, true, true, true, true, true, true, true, true, true, true, true, true, true, true, true, true, true, true, true, true, true, true, true, true, true, false, false, false, false, false, false, false, false, false, false, false, false, false, false, false, false, false, false, false, false, false, false] rfl rfl (any_of HT_.out (by kernel_rfl)) (fun _ _ _ h => h) (Or.inr ⟨by rfl, rfl⟩) ?_ ?_
                  rotate_left
                  · simp only [Act.put, List.setIfInBounds_toArray, List.set_cons_zero, List.set_cons_succ, i64_w, i32_w]
                    rfl
                  refine pure_ (i := 30) (N := some 97) (v := undef) (a' := ?_) #[true, true, true, true, true, true, true, true, true, true, true, true, true, true, true, true, true, true, true, true, true, true, true, true, true, true, true, true, true, true, true, false, false, false, false, false, false, false, false, false, false, false, false, false, false, false, false, false, false, false, false, false] rfl rfl (any_of HT_.out (by kernel_rfl)) (fun _ _ _ h => h) (Or.inr ⟨by rfl, rfl⟩) ?_ ?_
                  rotate_left
                  · simp only [Act.put, List.setIfInBounds_toArray, List.set_cons_zero, List.set_cons_succ, i64_w, i32_w]
                    rfl
                  refine pure_ (i := 31) (N := some 98) (v := undef) (a' := ?_) #[true, true, true, true, true, true, true, true, true, true, true, true, true, true, true, true, true, true, true, true, true, true, true, true, true, true, true, true, true, true, true, true, false, false, false, false, false, false, false, false, false, false, false, false, false, false, false, false, false, false, false, false] rfl rfl (any_of HT_.out (by kernel_rfl)) (fun _ _ _ h => h) (Or.inr ⟨by rfl, rfl⟩) ?_ ?_
                  rotate_left
                  · simp only [Act.put, List.setIfInBounds_toArray, List.set_cons_zero, List.set_cons_succ, i64_w, i32_w]
                    rfl
                  refine pure_ (i := 32) (N := some 99) (v := undef) (a' := ?_) #[true, true, true, true, true, true, true, true, true, true, true, true, true, true, true, true, true, true, true, true, true, true, true, true, true, true, true, true, true, true, true, true, true, false, false, false, false, false, false, false, false, false, false, false, false, false, false, false, false, false, false, false] rfl rfl (any_of HT_.out (by kernel_rfl)) (fun _ _ _ h => h) (Or.inr ⟨by rfl, rfl⟩) ?_ ?_
                  rotate_left
                  · simp only [Act.put, List.setIfInBounds_toArray, List.set_cons_zero, List.set_cons_succ, i64_w, i32_w]
                    rfl
                  refine pure_ (i := 33) (N := some 100) (v := undef) (a' := ?_) #[true, true, true, true, true, true, true, true, true, true, true, true, true, true, true, true, true, true, true, true, true, true, true, true, true, true, true, true, true, true, true, true, true, true, false, false, false, false, false, false, false, false, false, false, false, false, false, false, false, false, false, false] rfl rfl (any_of HT_.out (by kernel_rfl)) (fun _ _ _ h => h) (Or.inr ⟨by rfl, rfl⟩) ?_ ?_
                  rotate_left
                  · simp only [Act.put, List.setIfInBounds_toArray, List.set_cons_zero, List.set_cons_succ, i64_w, i32_w]
                    rfl
                  refine pure_ (i := 34) (N := some 101) (v := undef) (a' := ?_) #[true, true, true, true, true, true, true, true, true, true, true, true, true, true, true, true, true, true, true, true, true, true, true, true, true, true, true, true, true, true, true, true, true, true, true, false, false, false, false, false, false, false, false, false, false, false, false, false, false, false, false, false] rfl rfl (any_of HT_.out (by kernel_rfl)) (fun _ _ _ h => h) (Or.inr ⟨by rfl, rfl⟩) ?_ ?_
                  rotate_left
                  · simp only [Act.put, List.setIfInBounds_toArray, List.set_cons_zero, List.set_cons_succ, i64_w, i32_w]
                    rfl
                  refine pure_ (i := 35) (N := some 102) (v := ?_) (a' := ?_) #[true, true, true, true, true, true, true, true, true, true, true, true, true, true, true, true, true, true, true, true, true, true, true, true, true, true, true, true, true, true, true, true, true, true, true, true, false, false, false, false, false, false, false, false, false, false, false, false, false, false, false, false] rfl rfl (any_of HT_.out (by kernel_rfl)) (fun _ _ _ h => h) (Or.inl ⟨by rfl, ?_⟩) ?_ ?_
                  rotate_left
                  · intro w'
                    go_simp
                    with_reducible rfl
                  rotate_left
                  · simp only [Act.put, List.setIfInBounds_toArray, List.set_cons_zero, List.set_cons_succ, i64_w, i32_w]
                    rfl
                  refine pure_ (i := 36) (N := some 103) (v := ?_) (a' := ?_) #[true, true, true, true, true, true, true, true, true, true, true, true, true, true, true, true, true, true, true, true, true, true, true, true, true, true, true, true, true, true, true, true, true, true, true, true, true, false, false, false, false, false, false, false, false, false, false, false, false, false, false, false] rfl rfl (any_of HT_.out (by kernel_rfl)) (fun _ _ _ h => h) (Or.inl ⟨by rfl, ?_⟩) ?_ ?_
                  rotate_left
                  · intro w'
                    go_simp
                    with_reducible rfl
                  rotate_left
                  · simp only [Act.put, List.setIfInBounds_toArray, List.set_cons_zero, List.set_cons_succ, i64_w, i32_w]
                    rfl
                  refine pure_ (i := 37) (N := some 104) (v := ?_) (a' := ?_) #[true, true, true, true, true, true, true, true, true, true, true, true, true, true, true, true, true, true, true, true, true, true, true, true, true, true, true, true, true, true, true, true, true, true, true, true, true, true, false, false, false, false, false, false, false, false, false, false, false, false, false, false] rfl rfl (any_of HT_.out (by kernel_rfl)) (fun _ _ _ h => h) (Or.inl ⟨by rfl, ?_⟩) ?_ ?_
                  rotate_left
                  · intro w'
                    go_simp
                    with_reducible rfl
                  rotate_left
                  · simp only [Act.put, List.setIfInBounds_toArray, List.set_cons_zero, List.set_cons_succ, i64_w, i32_w]
                    rfl
                  refine pure_ (i := 40) (N := some 107) (v := ?_) (a' := ?_) #[true, true, true, true, true, true, true, true, true, true, true, true, true, true, true, true, true, true, true, true, true, true, true, true, true, true, true, true, true, true, true, true, true, true, true, true, true, true, false, false, true, false, false, false, false, false, false, false, false, false, false, false] rfl rfl (any_of HT_.out (by kernel_rfl)) (fun _ _ _ h => h) (Or.inl ⟨by rfl, ?_⟩) ?_ ?_
                  rotate_left
                  · intro w'
                    go_simp
                    with_reducible rfl
                  rotate_left
                  · simp only [Act.put, List.setIfInBounds_toArray, List.set_cons_zero, List.set_cons_succ, i64_w, i32_w]
                    rfl
                  refine take_ (i := 38) (N := some 105) (v := ?_) (a' := ?_) #[true, true, true, true, true, true, true, true, true, true, true, true, true, true, true, true, true, true, true, true, true, true, true, true, true, true, true, true, true, true, true, true, true, true, true, true, true, true, true, false, true, false, false, false, false, false, false, false, false, false, false, false] rfl rfl (take_ofW HT_.out HW_.out (by kernel_rfl)) (fun _ _ _ h => h) (Or.inl ⟨by rfl, ?_⟩) hHeld ?_ ?_
                  rotate_left
                  · intro w' hw'
                    have s0 := Z0.out w' hw'
                    have s1 := Z1.out w' hw'
                    have s2 := Z2.out w' hw'
                    have s3 := Z3.out w' hw'
                    have s4 := Z4.out w' hw'
                    go_simp
                    with_reducible rfl
                  rotate_left
                  · simp only [Act.put, List.setIfInBounds_toArray, List.set_cons_zero, List.set_cons_succ, i64_w, i32_w]
                    rfl
                  cases hol : rdOf false (lR l2 l3) (i : Int)
                  · skip
                    refine one_ (i := 39) (N := some 106) #[true, true, true, true, true, true, true, true, true, true, true, true, true, true, true, true, true, true, true, true, true, true, true, true, true, true, true, true, true, true, true, true, true, true, true, true, true, true, true, true, true, false, false, false, false, false, false, false, false, false, false, false] rfl rfl (one_of HT_.out (by kernel_rfl)) (by decide) (fun K hK => ?_)
                    refine goes_ Try.func14 (by kernel_rfl) rfl #[.agg #[.slice A0 l0.length c0, .slice A1 l1.length c1, .slice A2 l2.length c2, .slice A3 l3.length c3, .int .i64 st]] (by rfl) rfl rfl (by (try simp only [List.map_toArray, List.map_cons, List.map_nil]); rfl) ?_
                    with_reducible refine (sets_Lives.calls 61 _ _ l0 _ _ l1 _ _ l2 _ _ l3 st (lR l2 l3) _ (Kd.C_below HR0.out (below_step HBw.out hHeld)) HC0.out (Kd.C_below HR1.out (below_step HBw.out hHeld)) HC1.out (Kd.C_below HR2.out (below_step HBw.out hHeld)) HC2.out (Kd.C_below HR3.out (below_step HBw.out hHeld)) HC3.out (Lives_is HO.out 61 (Nat.le_refl _))).mono ?_
                    rintro e v5 ⟨v, rfl, hR, hbc⟩
                    obtain ⟨AL1, cL1, rfl, hE⟩ := row_of hR (lR_len l2 l3)
                    obtain ⟨adL1, rfl, hL1⟩ := Kd.at_bool hE (i : Int) (by omega) (by omega)
                    rw [Int.toNat_natCast] at hL1
                    clear hE hR
                    refine ⟨_, rfl, ?_⟩
                    refine hK.out _ _ (below_step hHeld hbc) (fun hHeld => ?_)
                    clear hK K
                    refine norm_ (a' := ?_) ?_ ?_
                    rotate_left
                    · show Act.put _ (some 106) _ = _
                      simp only [Act.put, List.setIfInBounds_toArray, List.set_cons_zero, List.set_cons_succ, i64_w, i32_w]
                      rfl
                    rw [hol] at hL1
                    refine pure_ (i := 41) (N := some 108) (v := ?_) (a' := ?_) #[true, true, true, true, true, true, true, true, true, true, true, true, true, true, true, true, true, true, true, true, true, true, true, true, true, true, true, true, true, true, true, true, true, true, true, true, true, true, true, true, true, true, false, false, false, false, false, false, false, false, false, false] rfl rfl (any_of HT_.out (by kernel_rfl)) (fun _ _ _ h => h) (Or.inl ⟨by rfl, ?_⟩) ?_ ?_
                    rotate_left
                    · intro w'
                      go_simp
                      with_reducible rfl
                    rotate_left
                    · simp only [Act.put, List.setIfInBounds_toArray, List.set_cons_zero, List.set_cons_succ, i64_w, i32_w]
                      rfl
                    refine one_ (i := 42) (N := some 109) #[true, true, true, true, true, true, true, true, true, true, true, true, true, true, true, true, true, true, true, true, true, true, true, true, true, true, true, true, true, true, true, true, true, true, true, true, true, true, true, true, true, true, true, false, false, false, false, false, false, false, false, false] rfl rfl (one_of HT_.out (by kernel_rfl)) (by decide) (fun K hK => ?_)
                    refine value_ (w1 := ?_) (v := ?_) (by rfl) rfl ?_ ?_
                    rotate_left 2
                    · go_simp
                      constructor
                      · rfl
                      · rfl
                    refine hK.out _ _ (hHeld) (fun hHeld => ?_)
                    clear hK K
                    refine norm_ (a' := ?_) ?_ ?_
                    rotate_left
                    · show Act.put _ (some 109) _ = _
                      simp only [Act.put, List.setIfInBounds_toArray, List.set_cons_zero, List.set_cons_succ, i64_w, i32_w]
                      rfl
                    clear hL1
                    refine pure_ (i := 43) (N := some 110) (v := ?_) (a' := ?_) #[true, true, true, true, true, true, true, true, true, true, true, true, true, true, true, true, true, true, true, true, true, true, true, true, true, true, true, true, true, true, true, true, true, true, true, true, true, true, true, true, true, true, true, true, false, false, false, false, false, false, false, false] rfl rfl (any_of HT_.out (by kernel_rfl)) (fun _ _ _ h => h) (Or.inl ⟨by rfl, ?_⟩) ?_ ?_
                    rotate_left
                    · intro w'
                      go_simp
                      with_reducible rfl
                    rotate_left
                    · simp only [Act.put, List.setIfInBounds_toArray, List.set_cons_zero, List.set_cons_succ, i64_w, i32_w]
                      rfl
                    refine pure_ (i := 44) (N := some 111) (v := undef) (a' := ?_) #[true, true, true, true, true, true, true, true, true, true, true, true, true, true, true, true, true, true, true, true, true, true, true, true, true, true, true, true, true, true, true, true, true, true, true, true, true, true, true, true, true, true, true, true, true, false, false, false, false, false, false, false] rfl rfl (any_of HT_.out (by kernel_rfl)) (fun _ _ _ h => h) (Or.inr ⟨by rfl, rfl⟩) ?_ ?_
                    rotate_left
                    · simp only [Act.put, List.setIfInBounds_toArray, List.set_cons_zero, List.set_cons_succ, i64_w, i32_w]
                      rfl
                    refine pure_ (i := 45) (N := some 112) (v := undef) (a' := ?_) #[true, true, true, true, true, true, true, true, true, true, true, true, true, true, true, true, true, true, true, true, true, true, true, true, true, true, true, true, true, true, true, true, true, true, true, true, true, true, true, true, true, true, true, true, true, true, false, false, false, false, false, false] rfl rfl (any_of HT_.out (by kernel_rfl)) (fun _ _ _ h => h) (Or.inr ⟨by rfl, rfl⟩) ?_ ?_
                    rotate_left
                    · simp only [Act.put, List.setIfInBounds_toArray, List.set_cons_zero, List.set_cons_succ, i64_w, i32_w]
                      rfl
                    refine pure_ (i := 46) (N := some 113) (v := undef) (a' := ?_) #[true, true, true, true, true, true, true, true, true, true, true, true, true, true, true, true, true, true, true, true, true, true, true, true, true, true, true, true, true, true, true, true, true, true, true, true, true, true, true, true, true, true, true, true, true, true, true, false, false, false, false, false] rfl rfl (any_of HT_.out (by kernel_rfl)) (fun _ _ _ h => h) (Or.inr ⟨by rfl, rfl⟩) ?_ ?_
                    rotate_left
                    · simp only [Act.put, List.setIfInBounds_toArray, List.set_cons_zero, List.set_cons_succ, i64_w, i32_w]
                      rfl
                    refine pure_ (i := 47) (N := some 114) (v := undef) (a' := ?_) #[true, true, true, true, true, true, true, true, true, true, true, true, true, true, true, true, true, true, true, true, true, true, true, true, true, true, true, true, true, true, true, true, true, true, true, true, true, true, true, true, true, true, true, true, true, true, true, true, false, false, false, false] rfl rfl (any_of HT_.out (by kernel_rfl)) (fun _ _ _ h => h) (Or.inr ⟨by rfl, rfl⟩) ?_ ?_
                    rotate_left
                    · simp only [Act.put, List.setIfInBounds_toArray, List.set_cons_zero, List.set_cons_succ, i64_w, i32_w]
                      rfl
                    refine pure_ (i := 48) (N := some 115) (v := undef) (a' := ?_) #[true, true, true, true, true, true, true, true, true, true, true, true, true, true, true, true, true, true, true, true, true, true, true, true, true, true, true, true, true, true, true, true, true, true, true, true, true, true, true, true, true, true, true, true, true, true, true, true, true, false, false, false] rfl rfl (any_of HT_.out (by kernel_rfl)) (fun _ _ _ h => h) (Or.inr ⟨by rfl, rfl⟩) ?_ ?_
                    rotate_left
                    · simp only [Act.put, List.setIfInBounds_toArray, List.set_cons_zero, List.set_cons_succ, i64_w, i32_w]
                      rfl
                    refine pure_ (i := 49) (N := some 116) (v := undef) (a' := ?_) #[true, true, true, true, true, true, true, true, true, true, true, true, true, true, true, true, true, true, true, true, true, true, true, true, true, true, true, true, true, true, true, true, true, true, true, true, true, true, true, true, true, true, true, true, true, true, true, true, true, true, false, false] rfl rfl (any_of HT_.out (by kernel_rfl)) (fun _ _ _ h => h) (Or.inr ⟨by rfl, rfl⟩) ?_ ?_
                    rotate_left
                    · simp only [Act.put, List.setIfInBounds_toArray, List.set_cons_zero, List.set_cons_succ, i64_w, i32_w]
                      rfl
                    refine pure_ (i := 50) (N := some 117) (v := ?_) (a' := ?_) #[true, true, true, true, true, true, true, true, true, true, true, true, true, true, true, true, true, true, true, true, true, true, true, true, true, true, true, true, true, true, true, true, true, true, true, true, true, true, true, true, true, true, true, true, true, true, true, true, true, true, true, false] rfl rfl (any_of HT_.out (by kernel_rfl)) (fun _ _ _ h => h) (Or.inl ⟨by rfl, ?_⟩) ?_ ?_
                    rotate_left
                    · intro w'
                      go_simp
                      with_reducible rfl
                    rotate_left
                    · simp only [Act.put, List.setIfInBounds_toArray, List.set_cons_zero, List.set_cons_succ, i64_w, i32_w]
                      rfl
                    refine pure_ (i := 51) (N := some 118) (v := ?_) (a' := ?_) #[true, true, true, true, true, true, true, true, true, true, true, true, true, true, true, true, true, true, true, true, true, true, true, true, true, true, true, true, true, true, true, true, true, true, true, true, true, true, true, true, true, true, true, true, true, true, true, true, true, true, true, true] rfl rfl (any_of HT_.out (by kernel_rfl)) (fun _ _ _ h => h) (Or.inl ⟨by rfl, ?_⟩) ?_ ?_
                    rotate_left
                    · intro w'
                      go_simp
                      with_reducible rfl
                    rotate_left
                    · simp only [Act.put, List.setIfInBounds_toArray, List.set_cons_zero, List.set_cons_succ, i64_w, i32_w]
                      rfl
                    refine done_ (done_of HT_.out (by kernel_rfl)) ?_
                    go_wp2
                    exact ⟨⟨i + 1, rfl, by omega, ⟨below_step HBR.out hHeld⟩⟩, by simp [intOf]; omega⟩
                  · skip
                    refine one_ (i := 39) (N := some 106) #[true, true, true, true, true, true, true, true, true, true, true, true, true, true, true, true, true, true, true, true, true, true, true, true, true, true, true, true, true, true, true, true, true, true, true, true, true, true, true, true, true, false, false, false, false, false, false, false, false, false, false, false] rfl rfl (one_of HT_.out (by kernel_rfl)) (by decide) (fun K hK => ?_)
                    refine goes_ Try.func14 (by kernel_rfl) rfl #[.agg #[.slice A0 l0.length c0, .slice A1 l1.length c1, .slice A2 l2.length c2, .slice A3 l3.length c3, .int .i64 st]] (by rfl) rfl rfl (by (try simp only [List.map_toArray, List.map_cons, List.map_nil]); rfl) ?_
                    with_reducible refine (sets_Lives.calls 61 _ _ l0 _ _ l1 _ _ l2 _ _ l3 st (lR l2 l3) _ (Kd.C_below HR0.out (below_step HBw.out hHeld)) HC0.out (Kd.C_below HR1.out (below_step HBw.out hHeld)) HC1.out (Kd.C_below HR2.out (below_step HBw.out hHeld)) HC2.out (Kd.C_below HR3.out (below_step HBw.out hHeld)) HC3.out (Lives_is HO.out 61 (Nat.le_refl _))).mono ?_
                    rintro e v5 ⟨v, rfl, hR, hbc⟩
                    obtain ⟨AL1, cL1, rfl, hE⟩ := row_of hR (lR_len l2 l3)
                    obtain ⟨adL1, rfl, hL1⟩ := Kd.at_bool hE (i : Int) (by omega) (by omega)
                    rw [Int.toNat_natCast] at hL1
                    clear hE hR
                    refine ⟨_, rfl, ?_⟩
                    refine hK.out _ _ (below_step hHeld hbc) (fun hHeld => ?_)
                    clear hK K
                    refine norm_ (a' := ?_) ?_ ?_
                    rotate_left
                    · show Act.put _ (some 106) _ = _
                      simp only [Act.put, List.setIfInBounds_toArray, List.set_cons_zero, List.set_cons_succ, i64_w, i32_w]
                      rfl
                    rw [hol] at hL1
                    refine pure_ (i := 41) (N := some 108) (v := ?_) (a' := ?_) #[true, true, true, true, true, true, true, true, true, true, true, true, true, true, true, true, true, true, true, true, true, true, true, true, true, true, true, true, true, true, true, true, true, true, true, true, true, true, true, true, true, true, false, false, false, false, false, false, false, false, false, false] rfl rfl (any_of HT_.out (by kernel_rfl)) (fun _ _ _ h => h) (Or.inl ⟨by rfl, ?_⟩) ?_ ?_
                    rotate_left
                    · intro w'
                      go_simp
                      with_reducible rfl
                    rotate_left
                    · simp only [Act.put, List.setIfInBounds_toArray, List.set_cons_zero, List.set_cons_succ, i64_w, i32_w]
                      rfl
                    refine one_ (i := 42) (N := some 109) #[true, true, true, true, true, true, true, true, true, true, true, true, true, true, true, true, true, true, true, true, true, true, true, true, true, true, true, true, true, true, true, true, true, true, true, true, true, true, true, true, true, true, true, false, false, false, false, false, false, false, false, false] rfl rfl (one_of HT_.out (by kernel_rfl)) (by decide) (fun K hK => ?_)
                    refine value_ (w1 := ?_) (v := ?_) (by rfl) rfl ?_ ?_
                    rotate_left 2
                    · go_simp
                      constructor
                      · rfl
                      · rfl
                    refine hK.out _ _ (hHeld) (fun hHeld => ?_)
                    clear hK K
                    refine norm_ (a' := ?_) ?_ ?_
                    rotate_left
                    · show Act.put _ (some 109) _ = _
                      simp only [Act.put, List.setIfInBounds_toArray, List.set_cons_zero, List.set_cons_succ, i64_w, i32_w]
                      rfl
                    clear hL1
                    refine pure_ (i := 43) (N := some 110) (v := ?_) (a' := ?_) #[true, true, true, true, true, true, true, true, true, true, true, true, true, true, true, true, true, true, true, true, true, true, true, true, true, true, true, true, true, true, true, true, true, true, true, true, true, true, true, true, true, true, true, true, false, false, false, false, false, false, false, false] rfl rfl (any_of HT_.out (by kernel_rfl)) (fun _ _ _ h => h) (Or.inl ⟨by rfl, ?_⟩) ?_ ?_
                    rotate_left
                    · intro w'
                      go_simp
                      with_reducible rfl
                    rotate_left
                    · simp only [Act.put, List.setIfInBounds_toArray, List.set_cons_zero, List.set_cons_succ, i64_w, i32_w]
                      rfl
                    refine pure_ (i := 46) (N := some 113) (v := ?_) (a' := ?_) #[true, true, true, true, true, true, true, true, true, true, true, true, true, true, true, true, true, true, true, true, true, true, true, true, true, true, true, true, true, true, true, true, true, true, true, true, true, true, true, true, true, true, true, true, false, false, true, false, false, false, false, false] rfl rfl (any_of HT_.out (by kernel_rfl)) (fun _ _ _ h => h) (Or.inl ⟨by rfl, ?_⟩) ?_ ?_
                    rotate_left
                    · intro w'
                      go_simp
                      with_reducible rfl
                    rotate_left
                    · simp only [Act.put, List.setIfInBounds_toArray, List.set_cons_zero, List.set_cons_succ, i64_w, i32_w]
                      rfl
                    refine take_ (i := 44) (N := some 111) (v := ?_) (a' := ?_) #[true, true, true, true, true, true, true, true, true, true, true, true, true, true, true, true, true, true, true, true, true, true, true, true, true, true, true, true, true, true, true, true, true, true, true, true, true, true, true, true, true, true, true, true, true, false, true, false, false, false, false, false] rfl rfl (take_ofW HT_.out HW_.out (by kernel_rfl)) (fun _ _ _ h => h) (Or.inl ⟨by rfl, ?_⟩) hHeld ?_ ?_
                    rotate_left
                    · intro w' hw'
                      have s0 := X0.out w' hw'
                      have s1 := X1.out w' hw'
                      have s2 := X2.out w' hw'
                      have s3 := X3.out w' hw'
                      have s4 := X4.out w' hw'
                      go_simp
                      with_reducible rfl
                    rotate_left
                    · simp only [Act.put, List.setIfInBounds_toArray, List.set_cons_zero, List.set_cons_succ, i64_w, i32_w]
                      rfl
                    refine one_ (i := 45) (N := some 112) #[true, true, true, true, true, true, true, true, true, true, true, true, true, true, true, true, true, true, true, true, true, true, true, true, true, true, true, true, true, true, true, true, true, true, true, true, true, true, true, true, true, true, true, true, true, true, true, false, false, false, false, false] rfl rfl (one_of HT_.out (by kernel_rfl)) (by decide) (fun K hK => ?_)
                    refine goes_ Try.func14 (by kernel_rfl) rfl #[.agg #[.slice A0 l0.length c0, .slice A1 l1.length c1, .slice A2 l2.length c2, .slice AH q.length cH, .int .i64 st]] (by rfl) rfl rfl (by (try simp only [List.map_toArray, List.map_cons, List.map_nil]); rfl) ?_
                    with_reducible refine (sets_Lives.calls 61 _ _ l0 _ _ l1 _ _ l2 _ _ q st (lR l2 q) _ (Kd.C_below HR0.out (below_step HBw.out hHeld)) HC0.out (Kd.C_below HR1.out (below_step HBw.out hHeld)) HC1.out (Kd.C_below HR2.out (below_step HBw.out hHeld)) HC2.out (Kd.C_below HQ8.out (below_step HBe.out hHeld)) HQC.out (Lives_is HO2.out 61 (Nat.le_refl _))).mono ?_
                    rintro e v6 ⟨v, rfl, hR, hbc⟩
                    obtain ⟨AL2, cL2, rfl, hE⟩ := row_of hR (lR_len l2 q)
                    obtain ⟨adL2, rfl, hL2⟩ := Kd.at_bool hE (i : Int) (by omega) (by omega)
                    rw [Int.toNat_natCast] at hL2
                    clear hE hR
                    refine ⟨_, rfl, ?_⟩
                    refine hK.out _ _ (below_step hHeld hbc) (fun hHeld => ?_)
                    clear hK K
                    refine norm_ (a' := ?_) ?_ ?_
                    rotate_left
                    · show Act.put _ (some 112) _ = _
                      simp only [Act.put, List.setIfInBounds_toArray, List.set_cons_zero, List.set_cons_succ, i64_w, i32_w]
                      rfl
                    rw [HLm.out hol] at hL2
                    refine pure_ (i := 47) (N := some 114) (v := ?_) (a' := ?_) #[true, true, true, true, true, true, true, true, true, true, true, true, true, true, true, true, true, true, true, true, true, true, true, true, true, true, true, true, true, true, true, true, true, true, true, true, true, true, true, true, true, true, true, true, true, true, true, true, false, false, false, false] rfl rfl (any_of HT_.out (by kernel_rfl)) (fun _ _ _ h => h) (Or.inl ⟨by rfl, ?_⟩) ?_ ?_
                    rotate_left
                    · intro w'
                      go_simp
                      with_reducible rfl
                    rotate_left
                    · simp only [Act.put, List.setIfInBounds_toArray, List.set_cons_zero, List.set_cons_succ, i64_w, i32_w]
                      rfl
                    refine one_ (i := 48) (N := some 115) #[true, true, true, true, true, true, true, true, true, true, true, true, true, true, true, true, true, true, true, true, true, true, true, true, true, true, true, true, true, true, true, true, true, true, true, true, true, true, true, true, true, true, true, true, true, true, true, true, true, false, false, false] rfl rfl (one_of HT_.out (by kernel_rfl)) (by decide) (fun K hK => ?_)
                    refine value_ (w1 := ?_) (v := ?_) (by rfl) rfl ?_ ?_
                    rotate_left 2
                    · go_simp
                      constructor
                      · rfl
                      · rfl
                    refine hK.out _ _ (hHeld) (fun hHeld => ?_)
                    clear hK K
                    refine norm_ (a' := ?_) ?_ ?_
                    rotate_left
                    · show Act.put _ (some 115) _ = _
                      simp only [Act.put, List.setIfInBounds_toArray, List.set_cons_zero, List.set_cons_succ, i64_w, i32_w]
                      rfl
                    clear hL2
                    refine pure_ (i := 49) (N := some 116) (v := ?_) (a' := ?_) #[true, true, true, true, true, true, true, true, true, true, true, true, true, true, true, true, true, true, true, true, true, true, true, true, true, true, true, true, true, true, true, true, true, true, true, true, true, true, true, true, true, true, true, true, true, true, true, true, true, true, false, false] rfl rfl (any_of HT_.out (by kernel_rfl)) (fun _ _ _ h => h) (Or.inl ⟨by rfl, ?_⟩) ?_ ?_
                    rotate_left
                    · intro w'
                      go_simp
                      with_reducible rfl
                    rotate_left
                    · simp only [Act.put, List.setIfInBounds_toArray, List.set_cons_zero, List.set_cons_succ, i64_w, i32_w]
                      rfl
                    refine pure_ (i := 50) (N := some 117) (v := ?_) (a' := ?_) #[true, true, true, true, true, true, true, true, true, true, true, true, true, true, true, true, true, true, true, true, true, true, true, true, true, true, true, true, true, true, true, true, true, true, true, true, true, true, true, true, true, true, true, true, true, true, true, true, true, true, true, false] rfl rfl (any_of HT_.out (by kernel_rfl)) (fun _ _ _ h => h) (Or.inl ⟨by rfl, ?_⟩) ?_ ?_
                    rotate_left
                    · intro w'
                      go_simp
                      with_reducible rfl
                    rotate_left
                    · simp only [Act.put, List.setIfInBounds_toArray, List.set_cons_zero, List.set_cons_succ, i64_w, i32_w]
                      rfl
                    refine pure_ (i := 51) (N := some 118) (v := ?_) (a' := ?_) #[true, true, true, true, true, true, true, true, true, true, true, true, true, true, true, true, true, true, true, true, true, true, true, true, true, true, true, true, true, true, true, true, true, true, true, true, true, true, true, true, true, true, true, true, true, true, true, true, true, true, true, true] rfl rfl (any_of HT_.out (by kernel_rfl)) (fun _ _ _ h => h) (Or.inl ⟨by rfl, ?_⟩) ?_ ?_
                    rotate_left
                    · intro w'
                      go_simp
                      with_reducible rfl
                    rotate_left
                    · simp only [Act.put, List.setIfInBounds_toArray, List.set_cons_zero, List.set_cons_succ, i64_w, i32_w]
                      rfl
                    refine done_ (done_of HT_.out (by kernel_rfl)) ?_
                    go_wp2
                    exact ⟨⟨i + 1, rfl, by omega, ⟨below_step HBR.out hHeld⟩⟩, by simp [intOf]; omega⟩
                · skip
                  refine one_ (i := 24) (N := some 91) #[true, true, true, true, true, true, true, true, true, true, true, true, true, true, true, true, true, true, true, true, true, true, true, true, true, true, false, false, false, false, false, false, false, false, false, false, false, false, false, false, false, false, false, false, false, false, false, false, false, false, false, false] rfl rfl (one_of HT_.out (by kernel_rfl)) (by decide) (fun K hK => ?_)
                  refine goes_ Try.func12 (by kernel_rfl) rfl #[.agg #[.slice A0 l0.length c0, .slice A1 l1.length c1, .slice A2 l2.length c2, .slice A3 l3.length c3, .int .i64 st]] (by rfl) rfl rfl (by (try simp only [List.map_toArray, List.map_cons, List.map_nil]); rfl) ?_
                  with_reducible refine (sets_Empty.calls 61 _ _ l0 _ _ l1 _ _ l2 _ _ l3 st (eR l2 l3) _ (Kd.C_below HR0.out (below_step HBw.out hHeld)) HC0.out (Kd.C_below HR1.out (below_step HBw.out hHeld)) HC1.out (Kd.C_below HR2.out (below_step HBw.out hHeld)) HC2.out (Kd.C_below HR3.out (below_step HBw.out hHeld)) HC3.out (Empty_is HO.out 61 (Nat.le_refl _))).mono ?_
                  rintro e v4 ⟨v, rfl, hR, hbc⟩
                  obtain ⟨AE1, cE1, rfl, hE⟩ := row_of hR (eR_len l2 l3)
                  obtain ⟨adE1, rfl, hE1⟩ := Kd.at_bool hE (i : Int) (by omega) (by omega)
                  rw [Int.toNat_natCast] at hE1
                  clear hE hR
                  refine ⟨_, rfl, ?_⟩
                  refine hK.out _ _ (below_step hHeld hbc) (fun hHeld => ?_)
                  clear hK K
                  refine norm_ (a' := ?_) ?_ ?_
                  rotate_left
                  · show Act.put _ (some 91) _ = _
                    simp only [Act.put, List.setIfInBounds_toArray, List.set_cons_zero, List.set_cons_succ, i64_w, i32_w]
                    rfl
                  rw [hoe] at hE1
                  refine pure_ (i := 26) (N := some 93) (v := ?_) (a' := ?_) #[true, true, true, true, true, true, true, true, true, true, true, true, true, true, true, true, true, true, true, true, true, true, true, true, true, true, true, false, false, false, false, false, false, false, false, false, false, false, false, false, false, false, false, false, false, false, false, false, false, false, false, false] rfl rfl (any_of HT_.out (by kernel_rfl)) (fun _ _ _ h => h) (Or.inl ⟨by rfl, ?_⟩) ?_ ?_
                  rotate_left
                  · intro w'
                    go_simp
                    with_reducible rfl
                  rotate_left
                  · simp only [Act.put, List.setIfInBounds_toArray, List.set_cons_zero, List.set_cons_succ, i64_w, i32_w]
                    rfl
                  refine one_ (i := 27) (N := some 94) #[true, true, true, true, true, true, true, true, true, true, true, true, true, true, true, true, true, true, true, true, true, true, true, true, true, true, true, true, false, false, false, false, false, false, false, false, false, false, false, false, false, false, false, false, false, false, false, false, false, false, false, false] rfl rfl (one_of HT_.out (by kernel_rfl)) (by decide) (fun K hK => ?_)
                  refine value_ (w1 := ?_) (v := ?_) (by rfl) rfl ?_ ?_
                  rotate_left 2
                  · go_simp
                    constructor
                    · rfl
                    · rfl
                  refine hK.out _ _ (hHeld) (fun hHeld => ?_)
                  clear hK K
                  refine norm_ (a' := ?_) ?_ ?_
                  rotate_left
                  · show Act.put _ (some 94) _ = _
                    simp only [Act.put, List.setIfInBounds_toArray, List.set_cons_zero, List.set_cons_succ, i64_w, i32_w]
                    rfl
                  clear hE1
                  refine pure_ (i := 28) (N := some 95) (v := ?_) (a' := ?_) #[true, true, true, true, true, true, true, true, true, true, true, true, true, true, true, true, true, true, true, true, true, true, true, true, true, true, true, true, true, false, false, false, false, false, false, false, false, false, false, false, false, false, false, false, false, false, false, false, false, false, false, false] rfl rfl (any_of HT_.out (by kernel_rfl)) (fun _ _ _ h => h) (Or.inl ⟨by rfl, ?_⟩) ?_ ?_
                  rotate_left
                  · intro w'
                    go_simp
                    with_reducible rfl
                  rotate_left
                  · simp only [Act.put, List.setIfInBounds_toArray, List.set_cons_zero, List.set_cons_succ, i64_w, i32_w]
                    rfl
                  refine pure_ (i := 31) (N := some 98) (v := ?_) (a' := ?_) #[true, true, true, true, true, true, true, true, true, true, true, true, true, true, true, true, true, true, true, true, true, true, true, true, true, true, true, true, true, false, false, true, false, false, false, false, false, false, false, false, false, false, false, false, false, false, false, false, false, false, false, false] rfl rfl (any_of HT_.out (by kernel_rfl)) (fun _ _ _ h => h) (Or.inl ⟨by rfl, ?_⟩) ?_ ?_
                  rotate_left
                  · intro w'
                    go_simp
                    with_reducible rfl
                  rotate_left
                  · simp only [Act.put, List.setIfInBounds_toArray, List.set_cons_zero, List.set_cons_succ, i64_w, i32_w]
                    rfl
                  refine take_ (i := 29) (N := some 96) (v := ?_) (a' := ?_) #[true, true, true, true, true, true, true, true, true, true, true, true, true, true, true, true, true, true, true, true, true, true, true, true, true, true, true, true, true, true, false, true, false, false, false, false, false, false, false, false, false, false, false, false, false, false, false, false, false, false, false, false] rfl rfl (take_ofW HT_.out HW_.out (by kernel_rfl)) (fun _ _ _ h => h) (Or.inl ⟨by rfl, ?_⟩) hHeld ?_ ?_
                  rotate_left
                  · intro w' hw'
                    have s0 := X0.out w' hw'
                    have s1 := X1.out w' hw'
                    have s2 := X2.out w' hw'
                    have s3 := X3.out w' hw'
                    have s4 := X4.out w' hw'
                    go_simp
                    with_reducible rfl
                  rotate_left
                  · simp only [Act.put, List.setIfInBounds_toArray, List.set_cons_zero, List.set_cons_succ, i64_w, i32_w]
                    rfl
                  refine one_ (i := 30) (N := some 97) #[true, true, true, true, true, true, true, true, true, true, true, true, true, true, true, true, true, true, true, true, true, true, true, true, true, true, true, true, true, true, true, true, false, false, false, false, false, false, false, false, false, false, false, false, false, false, false, false, false, false, false, false] rfl rfl (one_of HT_.out (by kernel_rfl)) (by decide) (fun K hK => ?_)
                  refine goes_ Try.func12 (by kernel_rfl) rfl #[.agg #[.slice A0 l0.length c0, .slice A1 l1.length c1, .slice A2 l2.length c2, .slice AH q.length cH, .int .i64 st]] (by rfl) rfl rfl (by (try simp only [List.map_toArray, List.map_cons, List.map_nil]); rfl) ?_
                  with_reducible refine (sets_Empty.calls 61 _ _ l0 _ _ l1 _ _ l2 _ _ q st (eR l2 q) _ (Kd.C_below HR0.out (below_step HBw.out hHeld)) HC0.out (Kd.C_below HR1.out (below_step HBw.out hHeld)) HC1.out (Kd.C_below HR2.out (below_step HBw.out hHeld)) HC2.out (Kd.C_below HQ8.out (below_step HBe.out hHeld)) HQC.out (Empty_is HO2.out 61 (Nat.le_refl _))).mono ?_
                  rintro e v5 ⟨v, rfl, hR, hbc⟩
                  obtain ⟨AE2, cE2, rfl, hE⟩ := row_of hR (eR_len l2 q)
                  obtain ⟨adE2, rfl, hE2⟩ := Kd.at_bool hE (i : Int) (by omega) (by omega)
                  rw [Int.toNat_natCast] at hE2
                  clear hE hR
                  refine ⟨_, rfl, ?_⟩
                  refine hK.out _ _ (below_step hHeld hbc) (fun hHeld => ?_)
                  clear hK K
                  refine norm_ (a' := ?_) ?_ ?_
                  rotate_left
                  · show Act.put _ (some 97) _ = _
                    simp only [Act.put, List.setIfInBounds_toArray, List.set_cons_zero, List.set_cons_succ, i64_w, i32_w]
                    rfl
                  rw [HEm.out hoe] at hE2
                  refine pure_ (i := 32) (N := some 99) (v := ?_) (a' := ?_) #[true, true, true, true, true, true, true, true, true, true, true, true, true, true, true, true, true, true, true, true, true, true, true, true, true, true, true, true, true, true, true, true, true, false, false, false, false, false, false, false, false, false, false, false, false, false, false, false, false, false, false, false] rfl rfl (any_of HT_.out (by kernel_rfl)) (fun _ _ _ h => h) (Or.inl ⟨by rfl, ?_⟩) ?_ ?_
                  rotate_left
                  · intro w'
                    go_simp
                    with_reducible rfl
                  rotate_left
                  · simp only [Act.put, List.setIfInBounds_toArray, List.set_cons_zero, List.set_cons_succ, i64_w, i32_w]
                    rfl
                  refine one_ (i := 33) (N := some 100) #[true, true, true, true, true, true, true, true, true, true, true, true, true, true, true, true, true, true, true, true, true, true, true, true, true, true, true, true, true, true, true, true, true, true, false, false, false, false, false, false, false, false, false, false, false, false, false, false, false, false, false, false] rfl rfl (one_of HT_.out (by kernel_rfl)) (by decide) (fun K hK => ?_)
                  refine value_ (w1 := ?_) (v := ?_) (by rfl) rfl ?_ ?_
                  rotate_left 2
                  · go_simp
                    constructor
                    · rfl
                    · rfl
                  refine hK.out _ _ (hHeld) (fun hHeld => ?_)
                  clear hK K
                  refine norm_ (a' := ?_) ?_ ?_
                  rotate_left
                  · show Act.put _ (some 100) _ = _
                    simp only [Act.put, List.setIfInBounds_toArray, List.set_cons_zero, List.set_cons_succ, i64_w, i32_w]
                    rfl
                  clear hE2
                  refine pure_ (i := 34) (N := some 101) (v := ?_) (a' := ?_) #[true, true, true, true, true, true, true, true, true, true, true, true, true, true, true, true, true, true, true, true, true, true, true, true, true, true, true, true, true, true, true, true, true, true, true, false, false, false, false, false, false, false, false, false, false, false, false, false, false, false, false, false] rfl rfl (any_of HT_.out (by kernel_rfl)) (fun _ _ _ h => h) (Or.inl ⟨by rfl, ?_⟩) ?_ ?_
                  rotate_left
                  · intro w'
                    go_simp
                    with_reducible rfl
                  rotate_left
                  · simp only [Act.put, List.setIfInBounds_toArray, List.set_cons_zero, List.set_cons_succ, i64_w, i32_w]
                    rfl
                  refine pure_ (i := 35) (N := some 102) (v := ?_) (a' := ?_) #[true, true, true, true, true, true, true, true, true, true, true, true, true, true, true, true, true, true, true, true, true, true, true, true, true, true, true, true, true, true, true, true, true, true, true, true, false, false, false, false, false, false, false, false, false, false, false, false, false, false, false, false] rfl rfl (any_of HT_.out (by kernel_rfl)) (fun _ _ _ h => h) (Or.inl ⟨by rfl, ?_⟩) ?_ ?_
                  rotate_left
                  · intro w'
                    go_simp
                    with_reducible rfl
                  rotate_left
                  · simp only [Act.put, List.setIfInBounds_toArray, List.set_cons_zero, List.set_cons_succ, i64_w, i32_w]
                    rfl
                  refine pure_ (i := 36) (N := some 103) (v := ?_) (a' := ?_) #[true, true, true, true, true, true, true, true, true, true, true, true, true, true, true, true, true, true, true, true, true, true, true, true, true, true, true, true, true, true, true, true, true, true, true, true, true, false, false, false, false, false, false, false, false, false, false, false, false, false, false, false] rfl rfl (any_of HT_.out (by kernel_rfl)) (fun _ _ _ h => h) (Or.inl ⟨by rfl, ?_⟩) ?_ ?_
                  rotate_left
                  · intro w'
                    go_simp
                    with_reducible rfl
                  rotate_left
                  · simp only [Act.put, List.setIfInBounds_toArray, List.set_cons_zero, List.set_cons_succ, i64_w, i32_w]
                    rfl
                  refine pure_ (i := 37) (N := some 104) (v := ?_) (a' := ?_) #[true, true, true, true, true, true, true, true, true, true, true, true, true, true, true, true, true, true, true, true, true, true, true, true, true, true, true, true, true, true, true, true, true, true, true, true, true, true, false, false, false, false, false, false, false, false, false, false, false, false, false, false] rfl rfl (any_of HT_.out (by kernel_rfl)) (fun _ _ _ h => h) (Or.inl ⟨by rfl, ?_⟩) ?_ ?_
                  rotate_left
                  · intro w'
                    go_simp
                    with_reducible rfl
                  rotate_left
                  · simp only [Act.put, List.setIfInBounds_toArray, List.set_cons_zero, List.set_cons_succ, i64_w, i32_w]
                    rfl
                  refine pure_ (i := 40) (N := some 107) (v := ?_) (a' := ?_) #[true, true, true, true, true, true, true, true, true, true, true, true, true, true, true, true, true, true, true, true, true, true, true, true, true, true, true, true, true, true, true, true, true, true, true, true, true, true, false, false, true, false, false, false, false, false, false, false, false, false, false, false] rfl rfl (any_of HT_.out (by kernel_rfl)) (fun _ _ _ h => h) (Or.inl ⟨by rfl, ?_⟩) ?_ ?_
                  rotate_left
                  · intro w'
                    go_simp
                    with_reducible rfl
                  rotate_left
                  · simp only [Act.put, List.setIfInBounds_toArray, List.set_cons_zero, List.set_cons_succ, i64_w, i32_w]
                    rfl
                  refine take_ (i := 38) (N := some 105) (v := ?_) (a' := ?_) #[true, true, true, true, true, true, true, true, true, true, true, true, true, true, true, true, true, true, true, true, true, true, true, true, true, true, true, true, true, true, true, true, true, true, true, true, true, true, true, false, true, false, false, false, false, false, false, false, false, false, false, false] rfl rfl (take_ofW HT_.out HW_.out (by kernel_rfl)) (fun _ _ _ h => h) (Or.inl ⟨by rfl, ?_⟩) hHeld ?_ ?_
                  rotate_left
                  · intro w' hw'
                    have s0 := Z0.out w' hw'
                    have s1 := Z1.out w' hw'
                    have s2 := Z2.out w' hw'
                    have s3 := Z3.out w' hw'
                    have s4 := Z4.out w' hw'
                    go_simp
                    with_reducible rfl
                  rotate_left
                  · simp only [Act.put, List.setIfInBounds_toArray, List.set_cons_zero, List.set_cons_succ, i64_w, i32_w]
                    rfl
                  cases hol : rdOf false (lR l2 l3) (i : Int)
                  · skip
                    refine one_ (i := 39) (N := some 106) #[true, true, true, true, true, true, true, true, true, true, true, true, true, true, true, true, true, true, true, true, true, true, true, true, true, true, true, true, true, true, true, true, true, true, true, true, true, true, true, true, true, false, false, false, false, false, false, false, false, false, false, false] rfl rfl (one_of HT_.out (by kernel_rfl)) (by decide) (fun K hK => ?_)
                    refine goes_ Try.func14 (by kernel_rfl) rfl #[.agg #[.slice A0 l0.length c0, .slice A1 l1.length c1, .slice A2 l2.length c2, .slice A3 l3.length c3, .int .i64 st]] (by rfl) rfl rfl (by (try simp only [List.map_toArray, List.map_cons, List.map_nil]); rfl) ?_
                    with_reducible refine (sets_Lives.calls 61 _ _ l0 _ _ l1 _ _ l2 _ _ l3 st (lR l2 l3) _ (Kd.C_below HR0.out (below_step HBw.out hHeld)) HC0.out (Kd.C_below HR1.out (below_step HBw.out hHeld)) HC1.out (Kd.C_below HR2.out (below_step HBw.out hHeld)) HC2.out (Kd.C_below HR3.out (below_step HBw.out hHeld)) HC3.out (Lives_is HO.out 61 (Nat.le_refl _))).mono ?_
                    rintro e v6 ⟨v, rfl, hR, hbc⟩
                    obtain ⟨AL1, cL1, rfl, hE⟩ := row_of hR (lR_len l2 l3)
                    obtain ⟨adL1, rfl, hL1⟩ := Kd.at_bool hE (i : Int) (by omega) (by omega)
                    rw [Int.toNat_natCast] at hL1
                    clear hE hR
                    refine ⟨_, rfl, ?_⟩
                    refine hK.out _ _ (below_step hHeld hbc) (fun hHeld => ?_)
                    clear hK K
                    refine norm_ (a' := ?_) ?_ ?_
                    rotate_left
                    · show Act.put _ (some 106) _ = _
                      simp only [Act.put, List.setIfInBounds_toArray, List.set_cons_zero, List.set_cons_succ, i64_w, i32_w]
                      rfl
                    rw [hol] at hL1
                    refine pure_ (i := 41) (N := some 108) (v := ?_) (a' := ?_) #[true, true, true, true, true, true, true, true, true, true, true, true, true, true, true, true, true, true, true, true, true, true, true, true, true, true, true, true, true, true, true, true, true, true, true, true, true, true, true, true, true, true, false, false, false, false, false, false, false, false, false, false] rfl rfl (any_of HT_.out (by kernel_rfl)) (fun _ _ _ h => h) (Or.inl ⟨by rfl, ?_⟩) ?_ ?_
                    rotate_left
                    · intro w'
                      go_simp
                      with_reducible rfl
                    rotate_left
                    · simp only [Act.put, List.setIfInBounds_toArray, List.set_cons_zero, List.set_cons_succ, i64_w, i32_w]
                      rfl
                    refine one_ (i := 42) (N := some 109) #[true, true, true, true, true, true, true, true, true, true, true, true, true, true, true, true, true, true, true, true, true, true, true, true, true, true, true, true, true, true, true, true, true, true, true, true, true, true, true, true, true, true, true, false, false, false, false, false, false, false, false, false] rfl rfl (one_of HT_.out (by kernel_rfl)) (by decide) (fun K hK => ?_)
                    refine value_ (w1 := ?_) (v := ?_) (by rfl) rfl ?_ ?_
                    rotate_left 2
                    · go_simp
                      constructor
                      · rfl
                      · rfl
                    refine hK.out _ _ (hHeld) (fun hHeld => ?_)
                    clear hK K
                    refine norm_ (a' := ?_) ?_ ?_
                    rotate_left
                    · show Act.put _ (some 109) _ = _
                      simp only [Act.put, List.setIfInBounds_toArray, List.set_cons_zero, List.set_cons_succ, i64_w, i32_w]
                      rfl
                    clear hL1
                    refine pure_ (i := 43) (N := some 110) (v := ?_) (a' := ?_) #[true, true, true, true, true, true, true, true, true, true, true, true, true, true, true, true, true, true, true, true, true, true, true, true, true, true, true, true, true, true, true, true, true, true, true, true, true, true, true, true, true, true, true, true, false, false, false, false, false, false, false, false] rfl rfl (any_of HT_.out (by kernel_rfl)) (fun _ _ _ h => h) (Or.inl ⟨by rfl, ?_⟩) ?_ ?_
                    rotate_left
                    · intro w'
                      go_simp
                      with_reducible rfl
                    rotate_left
                    · simp only [Act.put, List.setIfInBounds_toArray, List.set_cons_zero, List.set_cons_succ, i64_w, i32_w]
                      rfl
                    refine pure_ (i := 44) (N := some 111) (v := undef) (a' := ?_) #[true, true, true, true, true, true, true, true, true, true, true, true, true, true, true, true, true, true, true, true, true, true, true, true, true, true, true, true, true, true, true, true, true, true, true, true, true, true, true, true, true, true, true, true, true, false, false, false, false, false, false, false] rfl rfl (any_of HT_.out (by kernel_rfl)) (fun _ _ _ h => h) (Or.inr ⟨by rfl, rfl⟩) ?_ ?_
                    rotate_left
                    · simp only [Act.put, List.setIfInBounds_toArray, List.set_cons_zero, List.set_cons_succ, i64_w, i32_w]
                      rfl
                    refine pure_ (i := 45) (N := some 112) (v := undef) (a' := ?_) #[true, true, true, true, true, true, true, true, true, true, true, true, true, true, true, true, true, true, true, true, true, true, true, true, true, true, true, true, true, true, true, true, true, true, true, true, true, true, true, true, true, true, true, true, true, true, false, false, false, false, false, false] rfl rfl (any_of HT_.out (by kernel_rfl)) (fun _ _ _ h => h) (Or.inr ⟨by rfl, rfl⟩) ?_ ?_
                    rotate_left
                    · simp only [Act.put, List.setIfInBounds_toArray, List.set_cons_zero, List.set_cons_succ, i64_w, i32_w]
                      rfl
                    refine pure_ (i := 46) (N := some 113) (v := undef) (a' := ?_) #[true, true, true, true, true, true, true, true, true, true, true, true, true, true, true, true, true, true, true, true, true, true, true, true, true, true, true, true, true, true, true, true, true, true, true, true, true, true, true, true, true, true, true, true, true, true, true, false, false, false, false, false] rfl rfl (any_of HT_.out (by kernel_rfl)) (fun _ _ _ h => h) (Or.inr ⟨by rfl, rfl⟩) ?_ ?_
                    rotate_left
                    · simp only [Act.put, List.setIfInBounds_toArray, List.set_cons_zero, List.set_cons_succ, i64_w, i32_w]
                      rfl
                    refine pure_ (i := 47) (N := some 114) (v := undef) (a' := ?_) #[true, true, true, true, true, true, true, true, true, true, true, true, true, true, true, true, true, true, true, true, true, true, true, true, true, true, true, true, true, true, true, true, true, true, true, true, true, true, true, true, true, true, true, true, true, true, true, true, false, false, false, false] rfl rfl (any_of HT_.out (by kernel_rfl)) (fun _ _ _ h => h) (Or.inr ⟨by rfl, rfl⟩) ?_ ?_
                    rotate_left
                    · simp only [Act.put, List.setIfInBounds_toArray, List.set_cons_zero, List.set_cons_succ, i64_w, i32_w]
                      rfl
                    refine pure_ (i := 48) (N := some 115) (v := undef) (a' := ?_) #[true, true, true, true, true, true, true, true, true, true, true, true, true, true, true, true, true, true, true, true, true, true, true, true, true, true, true, true, true, true, true, true, true, true, true, true, true, true, true, true, true, true, true, true, true, true, true, true, true, false, false, false] rfl rfl (any_of HT_.out (by kernel_rfl)) (fun _ _ _ h => h) (Or.inr ⟨by rfl, rfl⟩) ?_ ?_
                    rotate_left
                    · simp only [Act.put, List.setIfInBounds_toArray, List.set_cons_zero, List.set_cons_succ, i64_w, i32_w]
                      rfl
                    refine pure_ (i := 49) (N := some 116) (v := undef) (a' := ?_) #[true, true, true, true, true, true, true, true, true, true, true, true, true, true, true, true, true, true, true, true, true, true, true, true, true, true, true, true, true, true, true, true, true, true, true, true, true, true, true, true, true, true, true, true, true, true, true, true, true, true, false, false] rfl rfl (any_of HT_.out (by kernel_rfl)) (fun _ _ _ h => h) (Or.inr ⟨by rfl, rfl⟩) ?_ ?_
                    rotate_left
                    · simp only [Act.put, List.setIfInBounds_toArray, List.set_cons_zero, List.set_cons_succ, i64_w, i32_w]
                      rfl
                    refine pure_ (i := 50) (N := some 117) (v := ?_) (a' := ?_) #[true, true, true, true, true, true, true, true, true, true, true, true, true, true, true, true, true, true, true, true, true, true, true, true, true, true, true, true, true, true, true, true, true, true, true, true, true, true, true, true, true, true, true, true, true, true, true, true, true, true, true, false] rfl rfl (any_of HT_.out (by kernel_rfl)) (fun _ _ _ h => h) (Or.inl ⟨by rfl, ?_⟩) ?_ ?_
                    rotate_left
                    · intro w'
                      go_simp
                      with_reducible rfl
                    rotate_left
                    · simp only [Act.put, List.setIfInBounds_toArray, List.set_cons_zero, List.set_cons_succ, i64_w, i32_w]
                      rfl
                    refine pure_ (i := 51) (N := some 118) (v := ?_) (a' := ?_) #[true, true, true, true, true, true, true, true, true, true, true, true, true, true, true, true, true, true, true, true, true, true, true, true, true, true, true, true, true, true, true, true, true, true, true, true, true, true, true, true, true, true, true, true, true, true, true, true, true, true, true, true] rfl rfl (any_of HT_.out (by kernel_rfl)) (fun _ _ _ h => h) (Or.inl ⟨by rfl, ?_⟩) ?_ ?_
                    rotate_left
                    · intro w'
                      go_simp
                      with_reducible rfl
                    rotate_left
                    · simp only [Act.put, List.setIfInBounds_toArray, List.set_cons_zero, List.set_cons_succ, i64_w, i32_w]
                      rfl
                    refine done_ (done_of HT_.out (by kernel_rfl)) ?_
                    go_wp2
                    exact ⟨⟨i + 1, rfl, by omega, ⟨below_step HBR.out hHeld⟩⟩, by simp [intOf]; omega⟩
                  · skip
                    refine one_ (i := 39) (N := some 106) #[true, true, true, true, true, true, true, true, true, true, true, true, true, true, true, true, true, true, true, true, true, true, true, true, true, true, true, true, true, true, true, true, true, true, true, true, true, true, true, true, true, false, false, false, false, false, false, false, false, false, false, false] rfl rfl (one_of HT_.out (by kernel_rfl)) (by decide) (fun K hK => ?_)
                    refine goes_ Try.func14 (by kernel_rfl) rfl #[.agg #[.slice A0 l0.length c0, .slice A1 l1.length c1, .slice A2 l2.length c2, .slice A3 l3.length c3, .int .i64 st]] (by rfl) rfl rfl (by (try simp only [List.map_toArray, List.map_cons, List.map_nil]); rfl) ?_
                    with_reducible refine (sets_Lives.calls 61 _ _ l0 _ _ l1 _ _ l2 _ _ l3 st (lR l2 l3) _ (Kd.C_below HR0.out (below_step HBw.out hHeld)) HC0.out (Kd.C_below HR1.out (below_step HBw.out hHeld)) HC1.out (Kd.C_below HR2.out (below_step HBw.out hHeld)) HC2.out (Kd.C_below HR3.out (below_step HBw.out hHeld)) HC3.out (Lives_is HO.out 61 (Nat.le_refl _))).mono ?_
                    rintro e v6 ⟨v, rfl, hR, hbc⟩
                    obtain ⟨AL1, cL1, rfl, hE⟩ := row_of hR (lR_len l2 l3)
                    obtain ⟨adL1, rfl, hL1⟩ := Kd.at_bool hE (i : Int) (by omega) (by omega)
                    rw [Int.toNat_natCast] at hL1
                    clear hE hR
                    refine ⟨_, rfl, ?_⟩
                    refine hK.out _ _ (below_step hHeld hbc) (fun hHeld => ?_)
                    clear hK K
                    refine norm_ (a' := ?_) ?_ ?_
                    rotate_left
                    · show Act.put _ (some 106) _ = _
                      simp only [Act.put, List.setIfInBounds_toArray, List.set_cons_zero, List.set_cons_succ, i64_w, i32_w]
                      rfl
                    rw [hol] at hL1
                    refine pure_ (i := 41) (N := some 108) (v := ?_) (a' := ?_) #[true, true, true, true, true, true, true, true, true, true, true, true, true, true, true, true, true, true, true, true, true, true, true, true, true, true, true, true, true, true, true, true, true, true, true, true, true, true, true, true, true, true, false, false, false, false, false, false, false, false, false, false] rfl rfl (any_of HT_.out (by kernel_rfl)) (fun _ _ _ h => h) (Or.inl ⟨by rfl, ?_⟩) ?_ ?_
                    rotate_left
                    · intro w'
                      go_simp
                      with_reducible rfl
                    rotate_left
                    · simp only [Act.put, List.setIfInBounds_toArray, List.set_cons_zero, List.set_cons_succ, i64_w, i32_w]
                      rfl
                    refine one_ (i := 42) (N := some 109) #[true, true, true, true, true, true, true, true, true, true, true, true, true, true, true, true, true, true, true, true, true, true, true, true, true, true, true, true, true, true, true, true, true, true, true, true, true, true, true, true, true, true, true, false, false, false, false, false, false, false, false, false] rfl rfl (one_of HT_.out (by kernel_rfl)) (by decide) (fun K hK => ?_)
                    refine value_ (w1 := ?_) (v := ?_) (by rfl) rfl ?_ ?_
                    rotate_left 2
                    · go_simp
                      constructor
                      · rfl
                      · rfl
                    refine hK.out _ _ (hHeld) (fun hHeld => ?_)
                    clear hK K
                    refine norm_ (a' := ?_) ?_ ?_
                    rotate_left
                    · show Act.put _ (some 109) _ = _
                      simp only [Act.put, List.setIfInBounds_toArray, List.set_cons_zero, List.set_cons_succ, i64_w, i32_w]
                      rfl
                    clear hL1
                    refine pure_ (i := 43) (N := some 110) (v := ?_) (a' := ?_) #[true, true, true, true, true, true, true, true, true, true, true, true, true, true, true, true, true, true, true, true, true, true, true, true, true, true, true, true, true, true, true, true, true, true, true, true, true, true, true, true, true, true, true, true, false, false, false, false, false, false, false, false] rfl rfl (any_of HT_.out (by kernel_rfl)) (fun _ _ _ h => h) (Or.inl ⟨by rfl, ?_⟩) ?_ ?_
                    rotate_left
                    · intro w'
                      go_simp
                      with_reducible rfl
                    rotate_left
                    · simp only [Act.put, List.setIfInBounds_toArray, List.set_cons_zero, List.set_cons_succ, i64_w, i32_w]
                      rfl
                    refine pure_ (i := 46) (N := some 113) (v := ?_) (a' := ?_) #[true, true, true, true, true, true, true, true, true, true, true, true, true, true, true, true, true, true, true, true, true, true, true, true, true, true, true, true, true, true, true, true, true, true, true, true, true, true, true, true, true, true, true, true, false, false, true, false, false, false, false, false] rfl rfl (any_of HT_.out (by kernel_rfl)) (fun _ _ _ h => h) (Or.inl ⟨by rfl, ?_⟩) ?_ ?_
                    rotate_left
                    · intro w'
                      go_simp
                      with_reducible rfl
                    rotate_left
                    · simp only [Act.put, List.setIfInBounds_toArray, List.set_cons_zero, List.set_cons_succ, i64_w, i32_w]
                      rfl
                    refine take_ (i := 44) (N := some 111) (v := ?_) (a' := ?_) #[true, true, true, true, true, true, true, true, true, true, true, true, true, true, true, true, true, true, true, true, true, true, true, true, true, true, true, true, true, true, true, true, true, true, true, true, true, true, true, true, true, true, true, true, true, false, true, false, false, false, false, false] rfl rfl (take_ofW HT_.out HW_.out (by kernel_rfl)) (fun _ _ _ h => h) (Or.inl ⟨by rfl, ?_⟩) hHeld ?_ ?_
                    rotate_left
                    · intro w' hw'
                      have s0 := X0.out w' hw'
                      have s1 := X1.out w' hw'
                      have s2 := X2.out w' hw'
                      have s3 := X3.out w' hw'
                      have s4 := X4.out w' hw'
                      go_simp
                      with_reducible rfl
                    rotate_left
                    · simp only [Act.put, List.setIfInBounds_toArray, List.set_cons_zero, List.set_cons_succ, i64_w, i32_w]
                      rfl
                    refine one_ (i := 45) (N := some 112) #[true, true, true, true, true, true, true, true, true, true, true, true, true, true, true, true, true, true, true, true, true, true, true, true, true, true, true, true, true, true, true, true, true, true, true, true, true, true, true, true, true, true, true, true, true, true, true, false, false, false, false, false] rfl rfl (one_of HT_.out (by kernel_rfl)) (by decide) (fun K hK => ?_)
                    refine goes_ Try.func14 (by kernel_rfl) rfl #[.agg #[.slice A0 l0.length c0, .slice A1 l1.length c1, .slice A2 l2.length c2, .slice AH q.length cH, .int .i64 st]] (by rfl) rfl rfl (by (try simp only [List.map_toArray, List.map_cons, List.map_nil]); rfl) ?_
                    with_reducible refine (sets_Lives.calls 61 _ _ l0 _ _ l1 _ _ l2 _ _ q st (lR l2 q) _ (Kd.C_below HR0.out (below_step HBw.out hHeld)) HC0.out (Kd.C_below HR1.out (below_step HBw.out hHeld)) HC1.out (Kd.C_below HR2.out (below_step HBw.out hHeld)) HC2.out (Kd.C_below HQ8.out (below_step HBe.out hHeld)) HQC.out (Lives_is HO2.out 61 (Nat.le_refl _))).mono ?_
                    rintro e v7 ⟨v, rfl, hR, hbc⟩
                    obtain ⟨AL2, cL2, rfl, hE⟩ := row_of hR (lR_len l2 q)
                    obtain ⟨adL2, rfl, hL2⟩ := Kd.at_bool hE (i : Int) (by omega) (by omega)
                    rw [Int.toNat_natCast] at hL2
                    clear hE hR
                    refine ⟨_, rfl, ?_⟩
                    refine hK.out _ _ (below_step hHeld hbc) (fun hHeld => ?_)
                    clear hK K
                    refine norm_ (a' := ?_) ?_ ?_
                    rotate_left
                    · show Act.put _ (some 112) _ = _
                      simp only [Act.put, List.setIfInBounds_toArray, List.set_cons_zero, List.set_cons_succ, i64_w, i32_w]
                      rfl
                    rw [HLm.out hol] at hL2
                    refine pure_ (i := 47) (N := some 114) (v := ?_) (a' := ?_) #[true, true, true, true, true, true, true, true, true, true, true, true, true, true, true, true, true, true, true, true, true, true, true, true, true, true, true, true, true, true, true, true, true, true, true, true, true, true, true, true, true, true, true, true, true, true, true, true, false, false, false, false] rfl rfl (any_of HT_.out (by kernel_rfl)) (fun _ _ _ h => h) (Or.inl ⟨by rfl, ?_⟩) ?_ ?_
                    rotate_left
                    · intro w'
                      go_simp
                      with_reducible rfl
                    rotate_left
                    · simp only [Act.put, List.setIfInBounds_toArray, List.set_cons_zero, List.set_cons_succ, i64_w, i32_w]
                      rfl
                    refine one_ (i := 48) (N := some 115) #[true, true, true, true, true, true, true, true, true, true, true, true, true, true, true, true, true, true, true, true, true, true, true, true, true, true, true, true, true, true, true, true, true, true, true, true, true, true, true, true, true, true, true, true, true, true, true, true, true, false, false, false] rfl rfl (one_of HT_.out (by kernel_rfl)) (by decide) (fun K hK => ?_)
                    refine value_ (w1 := ?_) (v := ?_) (by rfl) rfl ?_ ?_
                    rotate_left 2
                    · go_simp
                      constructor
                      · rfl
                      · rfl
                    refine hK.out _ _ (hHeld) (fun hHeld => ?_)
                    clear hK K
                    refine norm_ (a' := ?_) ?_ ?_
                    rotate_left
                    · show Act.put _ (some 115) _ = _
                      simp only [Act.put, List.setIfInBounds_toArray, List.set_cons_zero, List.set_cons_succ, i64_w, i32_w]
                      rfl
                    clear hL2
                    refine pure_ (i := 49) (N := some 116) (v := ?_) (a' := ?_) #[true, true, true, true, true, true, true, true, true, true, true, true, true, true, true, true, true, true, true, true, true, true, true, true, true, true, true, true, true, true, true, true, true, true, true, true, true, true, true, true, true, true, true, true, true, true, true, true, true, true, false, false] rfl rfl (any_of HT_.out (by kernel_rfl)) (fun _ _ _ h => h) (Or.inl ⟨by rfl, ?_⟩) ?_ ?_
                    rotate_left
                    · intro w'
                      go_simp
                      with_reducible rfl
                    rotate_left
                    · simp only [Act.put, List.setIfInBounds_toArray, List.set_cons_zero, List.set_cons_succ, i64_w, i32_w]
                      rfl
                    refine pure_ (i := 50) (N := some 117) (v := ?_) (a' := ?_) #[true, true, true, true, true, true, true, true, true, true, true, true, true, true, true, true, true, true, true, true, true, true, true, true, true, true, true, true, true, true, true, true, true, true, true, true, true, true, true, true, true, true, true, true, true, true, true, true, true, true, true, false] rfl rfl (any_of HT_.out (by kernel_rfl)) (fun _ _ _ h => h) (Or.inl ⟨by rfl, ?_⟩) ?_ ?_
                    rotate_left
                    · intro w'
                      go_simp
                      with_reducible rfl
                    rotate_left
                    · simp only [Act.put, List.setIfInBounds_toArray, List.set_cons_zero, List.set_cons_succ, i64_w, i32_w]
                      rfl
                    refine pure_ (i := 51) (N := some 118) (v := ?_) (a' := ?_) #[true, true, true, true, true, true, true, true, true, true, true, true, true, true, true, true, true, true, true, true, true, true, true, true, true, true, true, true, true, true, true, true, true, true, true, true, true, true, true, true, true, true, true, true, true, true, true, true, true, true, true, true] rfl rfl (any_of HT_.out (by kernel_rfl)) (fun _ _ _ h => h) (Or.inl ⟨by rfl, ?_⟩) ?_ ?_
                    rotate_left
                    · intro w'
                      go_simp
                      with_reducible rfl
                    rotate_left
                    · simp only [Act.put, List.setIfInBounds_toArray, List.set_cons_zero, List.set_cons_succ, i64_w, i32_w]
                      rfl
                    refine done_ (done_of HT_.out (by kernel_rfl)) ?_
                    go_wp2
                    exact ⟨⟨i + 1, rfl, by omega, ⟨below_step HBR.out hHeld⟩⟩, by simp [intOf]; omega⟩
              · have hltb : decide (i < l2.length) = false := decide_eq_false (by omega)
                go_wp2_with fail
                go_ret
                exact ⟨rfl, HBw.out⟩
end Go.Proofs.Ytggfiopajogiiaa.P
