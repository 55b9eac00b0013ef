/- syntagmlaw13.SetsClosed: the law's own walk: it answers true. -/
import Derived.Test.YtggfiopajogiiaaSBitIn
import Derived.Test.YtggfiopajogiiaaSBelow
import Derived.Test.YtggfiopajogiiaaPx16
import Derived.Test.YtggfiopajogiiaaSFollow
set_option linter.unusedVariables false
set_option linter.unusedSimpArgs false
namespace Go.Proofs.Ytggfiopajogiiaa.P
open Go.Proofs.Ytggfiopajogiiaa.Base Go.RowKit Go.Proofs.YtggfiopajogiiaaW.PrintWords Go.Proofs.YtggfiopajogiiaaW.PrintLast Go.Proofs.YtggfiopajogiiaaW.PrintMore Bitty

theorem five {w w' : World} {gb : Nat} {u0 u1 u2 u3 u4 : Value} (hb : Below w.heap.size w w') (h : w.cell? ⟨gb, 0, none⟩ = some u0 ∧ w.cell? ⟨gb, 1, none⟩ = some u1 ∧ w.cell? ⟨gb, 2, none⟩ = some u2 ∧ w.cell? ⟨gb, 3, none⟩ = some u3 ∧ w.cell? ⟨gb, 4, none⟩ = some u4) :
    w'.cell? ⟨gb, 0, none⟩ = some u0 ∧ w'.cell? ⟨gb, 1, none⟩ = some u1 ∧ w'.cell? ⟨gb, 2, none⟩ = some u2 ∧ w'.cell? ⟨gb, 3, none⟩ = some u3 ∧ w'.cell? ⟨gb, 4, none⟩ = some u4 :=
  ⟨pw_cell_below hb h.1, pw_cell_below hb h.2.1, pw_cell_below hb h.2.2.1, pw_cell_below hb h.2.2.2.1, pw_cell_below hb h.2.2.2.2⟩
theorem row_of {α : Type} {k : Kd α} {e : TypeId} {w : World} {base : Nat} {ok : Nat → Prop} {v : Value} {xs : List α} {n : Nat} (h : Kd.R k e w base ok v xs) (hn : xs.length = n) : ∃ A c, v = .slice A n c ∧ Kd.C k w A n xs := by
  obtain ⟨A, c, rfl⟩ := Kd.R_slice h
  subst hn
  exact ⟨A, c, rfl, (Kd.R_reads' h).2.2⟩

theorem at_b {w : World} {ad : Addr} {n : Nat} {xs : List Bool} (h : Kd.C Kd.bool w (some ad) n xs) (i : Int) (h0 : 0 ≤ i) (h1 : i < n) : w.cell? (ad.add i.toNat) = some (.bool (rdOf false xs i)) := by
  obtain ⟨ad', e, hc⟩ := Kd.at_bool h i h0 h1
  cases e
  exact hc
theorem at_i {k : IntKind} {w : World} {ad : Addr} {n : Nat} {xs : List Int} (h : Kd.C (Kd.int k) w (some ad) n xs) (i : Int) (h0 : 0 ≤ i) (h1 : i < n) : w.cell? (ad.add i.toNat) = some (.int k (rd xs i)) := by
  obtain ⟨ad', e, hc⟩ := Kd.at_int h i h0 h1
  cases e
  exact hc
section
variable {l0 : List S51} {l1 : List S63} {l2 : List ByteArray} {l3 : List S45} {st : Int} (h : Order l0 l1 l2 l3 st)
include h
theorem closed_has : bits_Has.f (rd (wR l0 l2 l3 st) st) 63 = some true :=
  has_true 63 (ok_rd (wR_ok h) st) (by omega) (by omega) (folR_start h.gram (fR_ok h) h.lo h.hi)
theorem closed_first (p : S45) (hp : p ∈ l3) : bits_In.f (oR l0 l2 l3 p.f2 0) (rd (fR l0 l2 l3) p.f1) = some true :=
  in_true (oR_has h p.f2 0 ok_zero).2.1 (ok_rd (fR_ok h) _) fun b hb => firR_closed h.gram p hp b (by rw [(oR_has h p.f2 0 ok_zero).2.2] at hb; exact hb)
theorem closed_follow (p : S45) (hp : p ∈ l3) (j : Nat) (hj : j < p.f2.length) (hn : p.f2[j] < 0) : bits_In.f (oR l0 l2 l3 (p.f2.drop (j + 1)) (rd (wR l0 l2 l3 st) p.f1)) (rd (wR l0 l2 l3 st) (-1 - p.f2[j])) = some true :=
  have hok : ok (rd (wR l0 l2 l3 st) p.f1) := ok_rd (wR_ok h) _
  in_true (oR_has h _ _ hok).2.1 (ok_rd (wR_ok h) _) fun b hb => folR_closed h.gram (fR_ok h) p hp (p.f2.take j) _ (p.f2.drop (j + 1)) (by rw [← List.drop_eq_getElem_cons hj, List.take_append_drop]) hn b (by rw [(oR_has h _ _ hok).2.2] at hb; exact hb)
theorem closed_empty (p : S45) (hp : p ∈ l3) (hs : ∀ s ∈ p.f2, s < 0 ∧ rdOf false (eR l2 l3) (-1 - s) = true) : rdOf false (eR l2 l3) p.f1 = true :=
  allR_closed false h.gram p hp fun s hs' => ⟨fun h0 => by have := (hs s hs').1; omega, fun _ => (hs s hs').2⟩
theorem closed_lives (p : S45) (hp : p ∈ l3) (hs : ∀ s ∈ p.f2, s < 0 → rdOf false (lR l2 l3) (-1 - s) = true) : rdOf false (lR l2 l3) p.f1 = true :=
  allR_closed true h.gram p hp fun s hs' => ⟨fun _ => rfl, hs s hs'⟩
end

set_option maxHeartbeats 8000000 in
set_option maxRecDepth 100000 in
theorem closed_walk (A0 : Option Addr) (c0 : Nat) (l0 : List S51) (A1 : Option Addr) (c1 : Nat) (l1 : List S63) (A2 : Option Addr) (c2 : Nat) (l2 : List ByteArray) (A3 : Option Addr) (c3 : Nat) (l3 : List S45) (st : Int) (w : World)
    (hr0 : Kd.C k51 w A0 l0.length l0) (hc0 : l0.length ≤ c0) (hr1 : Kd.C k63 w A1 l1.length l1) (hc1 : l1.length ≤ c1) (hr2 : Kd.C Kd.string w A2 l2.length l2) (hc2 : l2.length ≤ c2) (hr3 : Kd.C k45 w A3 l3.length l3) (hc3 : l3.length ≤ c3)
    (hrg : ∀ p ∈ l3, ∀ s ∈ p.f2, -9223372036854775808 ≤ s ∧ s ≤ 9223372036854775807) :
    Calls Try.prog 8 #[.agg #[.slice A0 l0.length c0, .slice A1 l1.length c1, .slice A2 l2.length c2, .slice A3 l3.length c3, .int .i64 st]] w fun e w' => e = .returned (.bool true) ∧ Below w.heap.size w w' := by
  have HR0 := Aside0.mk hr0
  have HR1 := Aside0.mk hr1
  have HR2 := Aside0.mk hr2
  have HR3 := Aside0.mk hr3
  have HRG := Aside0.mk hrg
  have HC0 := Aside0.mk hc0
  have HC1 := Aside0.mk hc1
  have HC2 := Aside0.mk hc2
  have HC3 := Aside0.mk hc3
  clear hr0 hr1 hr2 hr3 hrg hc0 hc1 hc2 hc3
  have hu27 := Try.underlying27
  have hu45 := Try.underlying45
  go_enter Try.func8, Try.ntmps8
  go_upto_region 1 with fail
  have HB : Aside0 (Below w.heap.size w (w.alloc (Obj.cells #[.slice A0 l0.length c0, .slice A1 l1.length c1, .slice A2 l2.length c2, .slice A3 l3.length c3, .int .i64 st] 27))) := ⟨below_alloc (Below.refl _ _) _⟩
  have hY : (w.alloc (Obj.cells #[.slice A0 l0.length c0, .slice A1 l1.length c1, .slice A2 l2.length c2, .slice A3 l3.length c3, .int .i64 st] 27)).cell? ⟨w.heap.size, 0, none⟩ = some (.slice A0 l0.length c0) ∧ (w.alloc (Obj.cells #[.slice A0 l0.length c0, .slice A1 l1.length c1, .slice A2 l2.length c2, .slice A3 l3.length c3, .int .i64 st] 27)).cell? ⟨w.heap.size, 1, none⟩ = some (.slice A1 l1.length c1) ∧ (w.alloc (Obj.cells #[.slice A0 l0.length c0, .slice A1 l1.length c1, .slice A2 l2.length c2, .slice A3 l3.length c3, .int .i64 st] 27)).cell? ⟨w.heap.size, 2, none⟩ = some (.slice A2 l2.length c2) ∧ (w.alloc (Obj.cells #[.slice A0 l0.length c0, .slice A1 l1.length c1, .slice A2 l2.length c2, .slice A3 l3.length c3, .int .i64 st] 27)).cell? ⟨w.heap.size, 3, none⟩ = some (.slice A3 l3.length c3) ∧ (w.alloc (Obj.cells #[.slice A0 l0.length c0, .slice A1 l1.length c1, .slice A2 l2.length c2, .slice A3 l3.length c3, .int .i64 st] 27)).cell? ⟨w.heap.size, 4, none⟩ = some (.int .i64 st) := by
    refine ⟨?_, ?_, ?_, ?_, ?_⟩ <;> go_simp
  generalize w.alloc (Obj.cells #[.slice A0 l0.length c0, .slice A1 l1.length c1, .slice A2 l2.length c2, .slice A3 l3.length c3, .int .i64 st] 27) = w1 at *
  replace hY := Aside0.mk hY
  go_upto_region 4 with (go_at_call 10; refine (syntagmlaw13_works.calls 61 true _ rfl (works_is 61 (Nat.le_refl _))).mono ?_; rintro e w2 ⟨rfl, hb⟩; have HB2 := Aside0.mk (below_step HB.out hb); have hY2 := Aside0.mk (five hb hY.out); clear hb)
  clear HB hY
  obtain ⟨b, hfew, -⟩ := few_is l0 l1 l2 l3 st 32 (Nat.le_refl _)
  replace hfew := Aside0.mk hfew
  obtain ⟨z0, z1, z2, z3, z4⟩ := hY2.out
  go_upto_region 5 with (go_at_call 11; refine (syntagmlaw13_Few.calls 32 _ _ l0 _ _ l1 _ _ l2 _ _ l3 st b _ (Kd.C_below HR0.out HB2.out) HC0.out (Kd.C_below HR1.out HB2.out) HC1.out (Kd.C_below HR2.out HB2.out) HC2.out (Kd.C_below HR3.out HB2.out) HC3.out hfew.out).mono ?_; rintro e w3 ⟨rfl, hb⟩; have HB3 := Aside0.mk (below_step HB2.out hb); have hY3 := Aside0.mk (five hb hY2.out); clear hb)
  clear z0 z1 z2 z3 z4 HB2 hY2 hfew
  cases b
  · go_wp2_with fail
    go_ret
    exact ⟨rfl, HB3.out⟩
  · obtain ⟨z0, z1, z2, z3, z4⟩ := hY3.out
    cases hv : validB l0 l1 l2 l3 st
    · have HV := Aside0.mk hv
      clear hv
      go_upto_region 6 with (go_at_call 23; refine (inst_Valid.calls _ _ l0 _ _ l1 _ _ l2 _ _ l3 st false _ (Kd.C_below HR0.out HB3.out) HC0.out (Kd.C_below HR1.out HB3.out) HC1.out (Kd.C_below HR2.out HB3.out) HC2.out (Kd.C_below HR3.out HB3.out) HC3.out (congrArg some HV.out)).mono ?_; rintro e w4 ⟨rfl, hb⟩; have HB4 := Aside0.mk (below_step HB3.out hb); have hY4 := Aside0.mk (five hb hY3.out); clear hb)
      clear z0 z1 z2 z3 z4
      obtain ⟨z0, z1, z2, z3, z4⟩ := hY4.out
      go_wp2_with (go_at_call 17; refine (sets_First.calls 61 _ _ l0 _ _ l1 _ _ l2 _ _ l3 st [] _ (Kd.C_below HR0.out HB4.out) HC0.out (Kd.C_below HR1.out HB4.out) HC1.out (Kd.C_below HR2.out HB4.out) HC2.out (Kd.C_below HR3.out HB4.out) HC3.out (First_not HV.out 61)).mono ?_; rintro e w5 ⟨v, rfl, hR, hb⟩; obtain ⟨A, c, rfl, -⟩ := row_of hR (n := 0) rfl; clear hR; have HB5 := Aside0.mk (below_step HB4.out hb); clear hb)
      go_ret
      exact ⟨rfl, HB5.out⟩
    · have HV := Aside0.mk hv
      have HO := Aside0.mk (order_of hv HRG.out)
      clear hv
      go_upto_region 7 with (go_at_call 23; refine (inst_Valid.calls _ _ l0 _ _ l1 _ _ l2 _ _ l3 st true _ (Kd.C_below HR0.out HB3.out) HC0.out (Kd.C_below HR1.out HB3.out) HC1.out (Kd.C_below HR2.out HB3.out) HC2.out (Kd.C_below HR3.out HB3.out) HC3.out (congrArg some HV.out)).mono ?_; rintro e w4 ⟨rfl, hb⟩; have HB4 := Aside0.mk (below_step HB3.out hb); have hY4 := Aside0.mk (five hb hY3.out); clear hb)
      clear z0 z1 z2 z3 z4 hY3 HB3 HV
      obtain ⟨z0, z1, z2, z3, z4⟩ := hY4.out
      go_upto_region 8 with (go_at_call 12; refine (sets_Empty.calls 61 _ _ l0 _ _ l1 _ _ l2 _ _ l3 st (eR l2 l3) _ (Kd.C_below HR0.out HB4.out) HC0.out (Kd.C_below HR1.out HB4.out) HC1.out (Kd.C_below HR2.out HB4.out) HC2.out (Kd.C_below HR3.out HB4.out) HC3.out (Empty_is HO.out 61 (Nat.le_refl _))).mono ?_; rintro e w5 ⟨v, rfl, hR, hb⟩; obtain ⟨AE, cE, rfl, hE⟩ := row_of hR (eR_len l2 l3); clear hR; have HE5 := Aside0.mk hE; clear hE; have HB5 := Aside0.mk (below_step HB4.out hb); have hY5 := Aside0.mk (five hb hY4.out); clear hb)
      clear z0 z1 z2 z3 z4 hY4 HB4
      obtain ⟨z0, z1, z2, z3, z4⟩ := hY5.out
      go_upto_region 9 with (go_at_call 17; refine (sets_First.calls 61 _ _ l0 _ _ l1 _ _ l2 _ _ l3 st (fR l0 l2 l3) _ (Kd.C_below HR0.out HB5.out) HC0.out (Kd.C_below HR1.out HB5.out) HC1.out (Kd.C_below HR2.out HB5.out) HC2.out (Kd.C_below HR3.out HB5.out) HC3.out (First_is HO.out 61 (Nat.le_refl _))).mono ?_; rintro e w6 ⟨v, rfl, hR, hb⟩; obtain ⟨AF, cF, rfl, hF⟩ := row_of hR (fR_ok HO.out).1; clear hR; have HF6 := Aside0.mk hF; clear hF; have HE6 := Aside0.mk (Kd.C_below HE5.out hb); have HB6 := Aside0.mk (below_step HB5.out hb); have hY6 := Aside0.mk (five hb hY5.out); clear hb)
      clear z0 z1 z2 z3 z4 hY5 HB5 HE5
      obtain ⟨z0, z1, z2, z3, z4⟩ := hY6.out
      go_upto_region 10 with (go_at_call 19; refine (sets_Follow.calls 61 _ _ l0 _ _ l1 _ _ l2 _ _ l3 st (wR l0 l2 l3 st) _ (Kd.C_below HR0.out HB6.out) HC0.out (Kd.C_below HR1.out HB6.out) HC1.out (Kd.C_below HR2.out HB6.out) HC2.out (Kd.C_below HR3.out HB6.out) HC3.out (Follow_is HO.out 61 (Nat.le_refl _))).mono ?_; rintro e w7 ⟨v, rfl, hR, hb⟩; obtain ⟨AW, cW, rfl, hW⟩ := row_of hR (wR_ok HO.out).1; clear hR; have HW7 := Aside0.mk hW; clear hW; have HE7 := Aside0.mk (Kd.C_below HE6.out hb); have HF7 := Aside0.mk (Kd.C_below HF6.out hb); have HB7 := Aside0.mk (below_step HB6.out hb); have hY7 := Aside0.mk (five hb hY6.out); clear hb)
      clear z0 z1 z2 z3 z4 hY6 HB6 HE6 HF6
      obtain ⟨z0, z1, z2, z3, z4⟩ := hY7.out
      go_upto_region 11 with (go_at_call 14; refine (sets_Lives.calls 61 _ _ l0 _ _ l1 _ _ l2 _ _ l3 st (lR l2 l3) _ (Kd.C_below HR0.out HB7.out) HC0.out (Kd.C_below HR1.out HB7.out) HC1.out (Kd.C_below HR2.out HB7.out) HC2.out (Kd.C_below HR3.out HB7.out) HC3.out (Lives_is HO.out 61 (Nat.le_refl _))).mono ?_; rintro e w8 ⟨v, rfl, hR, hb⟩; obtain ⟨AL, cL, rfl, hL⟩ := row_of hR (lR_len l2 l3); clear hR; have HL8 := Aside0.mk hL; clear hL; have HE8 := Aside0.mk (Kd.C_below HE7.out hb); have HF8 := Aside0.mk (Kd.C_below HF7.out hb); have HW8 := Aside0.mk (Kd.C_below HW7.out hb); have HB8 := Aside0.mk (below_step HB7.out hb); have hY8 := Aside0.mk (five hb hY7.out); clear hb)
      clear z0 z1 z2 z3 z4 hY7 HB7 HE7 HF7 HW7
      have hst : 0 ≤ st ∧ st < l2.length := ⟨HO.out.lo, HO.out.hi⟩
      obtain ⟨adE, rfl, -⟩ := Kd.at_bool HE8.out st hst.1 hst.2
      obtain ⟨adL, rfl, -⟩ := Kd.at_bool HL8.out st hst.1 hst.2
      obtain ⟨adF, rfl, -⟩ := Kd.at_int HF8.out st hst.1 hst.2
      obtain ⟨adW, rfl, -⟩ := Kd.at_int HW8.out st hst.1 hst.2
      have HR83 := Aside0.mk (Kd.C_below HR3.out HB8.out)
      have hu28 := Try.underlying28
      go_wp2
      go_loopw [9] (fun v9 wr => ∃ i : Nat, v9 = .int .i64 i ∧ i ≤ l3.length ∧ Aside0 (Below w8.heap.size w8 wr)) (fun v9 _ => l3.length - (intOf v9).toNat)
      case atStart => exact ⟨0, rfl, Nat.zero_le _, ⟨Below.refl _ _⟩⟩
      case round =>
        obtain ⟨i, rfl, hi, HBR⟩ := hrel
        have HB9 : Aside0 (Below w.heap.size w wr) := ⟨below_step HB8.out HBR.out⟩
        have hY9 := Aside0.mk (five HBR.out hY8.out)
        obtain ⟨z0, z1, z2, z3, z4⟩ := hY9.out
        have hmx : l3.length ≤ 9223372036854775807 := HR83.out.2.1
        by_cases hlt : i < l3.length
        · have hltb : decide (i < l3.length) = true := decide_eq_true (by omega)
          obtain ⟨ad, A4, c4, e4, hx1, hx2, hx3, hx4, hcap, hr4⟩ := at_T45 (Kd.C_below HR83.out HBR.out) (i : Int) (by omega) (by omega)
          rw [Int.toNat_natCast] at hx1 hx2 hx3 hx4
          obtain ⟨p, hp⟩ : ∃ p, rd_T45 l3 i = p := ⟨_, rfl⟩
          rw [hp] at hx1 hx2 hx3 hx4 hr4 hcap
          have hmem : p ∈ l3 := by rw [← hp]; unfold rd_T45; rw [Int.toNat_natCast, getD_at _ _ _ hlt]; exact List.getElem_mem hlt
          have HM := Aside0.mk hmem
          have HC4 := Aside0.mk hcap
          clear hp hcap hmem
          subst e4
          obtain ⟨nl, hnl⟩ : ∃ nl, p.f2.length = nl := ⟨_, rfl⟩
          obtain ⟨lab, hlab⟩ : ∃ lab, p.f0 = lab := ⟨_, rfl⟩
          obtain ⟨srt, hsrt⟩ : ∃ srt, p.f1 = srt := ⟨_, rfl⟩
          obtain ⟨cls, hcls⟩ : ∃ cls, p.f3 = cls := ⟨_, rfl⟩
          have hsr := HO.out.gram.srt p HM.out
          rw [hlab] at hx1
          rw [hsrt] at hx2 hsr
          rw [hnl] at hx3
          rw [hcls] at hx4
          have HNL := Aside0.mk hnl
          have HSR := Aside0.mk hsrt
          have HSI := Aside0.mk hsr
          have HR4 := Aside0.mk hr4
          clear hlab hnl hcls hsrt hr4 hsr
          go_upto_region 15 with fail
          have HZ : Aside0 (Below wr.heap.size wr (wr.alloc (Obj.cells #[.string lab, .int .i64 srt, .slice A4 nl c4, .int .i64 cls] 45))) := ⟨below_alloc (Below.refl _ _) _⟩
          have x1 : (wr.alloc (Obj.cells #[.string lab, .int .i64 srt, .slice A4 nl c4, .int .i64 cls] 45)).cell? ⟨wr.heap.size, 1, none⟩ = some (.int .i64 srt) := by go_simp
          have x2 : (wr.alloc (Obj.cells #[.string lab, .int .i64 srt, .slice A4 nl c4, .int .i64 cls] 45)).cell? ⟨wr.heap.size, 2, none⟩ = some (.slice A4 nl c4) := by go_simp
          generalize wr.alloc (Obj.cells #[.string lab, .int .i64 srt, .slice A4 nl c4, .int .i64 cls] 45) = wz at *
          have HBZ : Aside0 (Below w8.heap.size w8 wz) := ⟨below_step HBR.out HZ.out⟩
          have HR4Z := Aside0.mk (Kd.C_below HR4.out HZ.out)
          have X1 := Aside0.mk x1
          have X2 := Aside0.mk x2
          clear hx1 hx2 hx3 hx4 z0 z1 z2 z3 z4 hY9 HB9 HZ HR4
          generalize wr.heap.size = gy at x1 x2 X1 X2 ⊢
          obtain ⟨wo, rfl⟩ : ∃ wo, wo = wr := ⟨_, rfl⟩
          go_wp2
          clear x1 x2 hltb
          go_loopw [11, 12, 13] (fun v11 v12 v13 wi => ∃ (j : Nat) (a lv : Bool), v11 = .bool a ∧ v12 = .bool lv ∧ v13 = .int .i64 j ∧ j ≤ nl ∧ Aside0 (a = true → ∀ s ∈ p.f2.take j, s < 0 ∧ rdOf false (eR l2 l3) (-1 - s) = true) ∧ Aside0 (lv = true → ∀ s ∈ p.f2.take j, s < 0 → rdOf false (lR l2 l3) (-1 - s) = true) ∧ Aside0 (Below wz.heap.size wz wi)) (fun _ _ v13 _ => nl - (intOf v13).toNat)
          case atStart => exact ⟨0, true, true, rfl, rfl, rfl, Nat.zero_le _, ⟨fun _ s hs => by simp at hs⟩, ⟨fun _ s hs => by simp at hs⟩, ⟨Below.refl _ _⟩⟩
          case round =>
            obtain ⟨j, a, lv, rfl, rfl, rfl, hj, HA, HLV, HBI⟩ := hrel
            have HB8I : Aside0 (Below w8.heap.size w8 wr) := ⟨below_step HBZ.out HBI.out⟩
            have HBwI : Aside0 (Below w.heap.size w wr) := ⟨below_step HB8.out HB8I.out⟩
            have x1 := pw_cell_below HBI.out X1.out
            have x2 := pw_cell_below HBI.out X2.out
            have hmj : nl ≤ 9223372036854775807 := by have := HR4Z.out.2.1; rw [HNL.out] at this; exact this
            by_cases hjl : j < nl
            · have hjb : decide (j < nl) = true := decide_eq_true (by omega)
              have hjl2 : j < p.f2.length := by rw [HNL.out]; exact hjl
              obtain ⟨ad5, e5, hxs⟩ := Kd.at_int (Kd.C_below HR4Z.out HBI.out) (j : Int) (by omega) (by omega)
              rw [Int.toNat_natCast] at hxs
              have hrk : rd p.f2 (j : Int) = p.f2[j] := by unfold rd; simp [List.getD, hjl2]
              have hS60 := HO.out.gram.hS
              have hsy := HO.out.gram.sym p HM.out p.f2[j] (List.getElem_mem hjl2)
              have hfo := Aside0.mk (closed_follow HO.out p HM.out j hjl2)
              have htk : Aside0 (∀ t ∈ p.f2.take (j + 1), t ∈ p.f2.take j ∨ t = p.f2[j]) := ⟨fun t ht => by
                rw [List.take_add_one, List.getElem?_eq_getElem hjl2] at ht
                rcases List.mem_append.1 ht with h | h
                · exact .inl h
                · exact .inr (by simpa using h)⟩
              obtain ⟨s, hs⟩ : ∃ s, p.f2[j] = s := ⟨_, rfl⟩
              rw [hrk, hs] at hxs
              rw [hs] at hsy htk hfo
              clear hrk hs
              subst e5
              have hsy0 := hsy.1
              have hsy1 := hsy.2
              clear hsy
              go_upto_region 21 with fail
              clear hxs
              go_cut [11] from 70 to 81 (fun v11 wc => ∃ a' : Bool, v11 = .bool a' ∧ Aside0 (Below wz.heap.size wz wc) ∧ Aside0 (a' = true → ∀ t ∈ p.f2.take (j + 1), t < 0 ∧ rdOf false (eR l2 l3) (-1 - t) = true))
              case first =>
                cases a
                · go_wp2_with fail
                  go_meet
                  exact ⟨false, rfl, HBI, ⟨fun h => by cases h⟩⟩
                · by_cases hn : s < 0
                  · have hnb : decide (s < 0) = true := decide_eq_true hn
                    obtain ⟨jx, hjx⟩ : ∃ jx, -1 - s = jx := ⟨_, rfl⟩
                    have hw : IntKind.i64.wrap (-1 - s) = jx := by rw [IntWalk.i64_in _ (by omega)]; exact hjx
                    have hce := at_b (Kd.C_below HE8.out HB8I.out) jx (by omega) (by omega)
                    have q0 : (0 ≤ jx) = True := eq_true (by omega)
                    have q1 : (jx < (l2.length : Int)) = True := eq_true (by omega)
                    obtain ⟨o, ho⟩ : ∃ o, rdOf false (eR l2 l3) jx = o := ⟨_, rfl⟩
                    rw [ho] at hce
                    have HT : Aside0 (o = true → ∀ t ∈ p.f2.take (j + 1), t < 0 ∧ rdOf false (eR l2 l3) (-1 - t) = true) := ⟨fun h t ht => by
                      rcases htk.out t ht with h1 | rfl
                      · exact HA.out rfl t h1
                      · exact ⟨hn, by rw [hjx, ho]; exact h⟩⟩
                    clear hjx ho
                    go_wp2_with fail
                    go_meet
                    exact ⟨o, rfl, HBI, HT⟩
                  · have hnb : decide (s < 0) = false := decide_eq_false hn
                    go_wp2_with fail
                    go_meet
                    exact ⟨false, rfl, HBI, ⟨fun h => by cases h⟩⟩
              case rest =>
                obtain ⟨a', rfl, HBI2, HA2⟩ := hcut
                clear x1 x2 HB8I HBwI HA HBI
                obtain ⟨wj, rfl⟩ : ∃ x, x = wc := ⟨_, rfl⟩
                have HB8I : Aside0 (Below w8.heap.size w8 wj) := ⟨below_step HBZ.out HBI2.out⟩
                go_upto_region 22 with fail
                go_cut [12] from 82 to 93 (fun v12 wc => ∃ lv' : Bool, v12 = .bool lv' ∧ Aside0 (Below wz.heap.size wz wc) ∧ Aside0 (lv' = true → ∀ t ∈ p.f2.take (j + 1), t < 0 → rdOf false (lR l2 l3) (-1 - t) = true))
                case first =>
                  cases lv
                  · go_wp2_with fail
                    go_meet
                    exact ⟨false, rfl, HBI2, ⟨fun h => by cases h⟩⟩
                  · by_cases hn : 0 ≤ s
                    · have hnb : decide (0 ≤ s) = true := decide_eq_true hn
                      have HT : Aside0 (∀ t ∈ p.f2.take (j + 1), t < 0 → rdOf false (lR l2 l3) (-1 - t) = true) := ⟨fun t ht hneg => by
                        rcases htk.out t ht with h1 | rfl
                        · exact HLV.out rfl t h1 hneg
                        · omega⟩
                      go_wp2_with fail
                      go_meet
                      exact ⟨true, rfl, HBI2, ⟨fun _ => HT.out⟩⟩
                    · have hnb : decide (0 ≤ s) = false := decide_eq_false hn
                      obtain ⟨jx, hjx⟩ : ∃ jx, -1 - s = jx := ⟨_, rfl⟩
                      have hw : IntKind.i64.wrap (-1 - s) = jx := by rw [IntWalk.i64_in _ (by omega)]; exact hjx
                      have hce := at_b (Kd.C_below HL8.out HB8I.out) jx (by omega) (by omega)
                      have q0 : (0 ≤ jx) = True := eq_true (by omega)
                      have q1 : (jx < (l2.length : Int)) = True := eq_true (by omega)
                      obtain ⟨o, ho⟩ : ∃ o, rdOf false (lR l2 l3) jx = o := ⟨_, rfl⟩
                      rw [ho] at hce
                      have HT : Aside0 (o = true → ∀ t ∈ p.f2.take (j + 1), t < 0 → rdOf false (lR l2 l3) (-1 - t) = true) := ⟨fun h t ht hneg => by
                        rcases htk.out t ht with h1 | rfl
                        · exact HLV.out rfl t h1 hneg
                        · rw [hjx, ho]; exact h⟩
                      clear hjx ho
                      go_wp2_with fail
                      go_meet
                      exact ⟨o, rfl, HBI2, HT⟩
                case rest =>
                  obtain ⟨lv', rfl, HBI3, HL2⟩ := hcut
                  clear HB8I HBI2 HLV htk
                  obtain ⟨wi, rfl⟩ : ∃ x, x = wc := ⟨_, rfl⟩
                  have HB8I : Aside0 (Below w8.heap.size w8 wi) := ⟨below_step HBZ.out HBI3.out⟩
                  by_cases hn : s < 0
                  · have hnb : decide (s < 0) = true := decide_eq_true hn
                    obtain ⟨jx, hjx⟩ : ∃ jx, -1 - s = jx := ⟨_, rfl⟩
                    have hw : IntKind.i64.wrap (-1 - s) = jx := by rw [IntWalk.i64_in _ (by omega)]; exact hjx
                    have hJ : 0 ≤ jx ∧ jx < l2.length := by omega
                    have hcl := hfo.out hn
                    rw [hjx, HSR.out] at hcl
                    obtain ⟨ow, how⟩ : ∃ o, rd (wR l0 l2 l3 st) srt = o := ⟨_, rfl⟩
                    obtain ⟨oj, hoj⟩ : ∃ o, rd (wR l0 l2 l3 st) jx = o := ⟨_, rfl⟩
                    have hok : ok ow := by rw [← how]; exact ok_rd (wR_ok HO.out) _
                    rw [how, hoj] at hcl
                    obtain ⟨m, hm⟩ : ∃ m, oR l0 l2 l3 (p.f2.drop (j + 1)) ow = m := ⟨_, rfl⟩
                    rw [hm] at hcl
                    have hof := Of_is HO.out (p.f2.drop (j + 1)) ow hok 61 (Nat.le_refl _)
                    rw [hm] at hof
                    have HCL := Aside0.mk hcl
                    have HOF := Aside0.mk hof
                    have HBw : Aside0 (Below w.heap.size w wi) := ⟨below_step HB8.out HB8I.out⟩
                    have hjl3 : j + 1 ≤ p.f2.length := hjl2
                    obtain ⟨T, hTT⟩ : ∃ T, (if c4 = j + 1 then some ad5 else (some ad5).map (·.add ((j + 1) * (Kd.int .i64).sz))) = T := ⟨_, rfl⟩
                    have hCd := Kd.C_drop (m := j + 1) HR4Z.out hjl3 HC4.out
                    rw [hTT] at hCd
                    have hlen : (p.f2.drop (j + 1)).length = nl - (j + 1) := by rw [List.length_drop, HNL.out]
                    have hcc : (p.f2.drop (j + 1)).length ≤ c4 - (j + 1) := by rw [List.length_drop]; have := HC4.out; omega
                    have hcall := fun (w' : World) (hb : Below wi.heap.size wi w') => sets_Of.calls 61 A0 c0 l0 A1 c1 l1 A2 c2 l2 _ c3 l3 st T (c4 - (j + 1)) (p.f2.drop (j + 1)) ow m w' (Kd.C_below HR0.out (below_step HBw.out hb)) HC0.out (Kd.C_below HR1.out (below_step HBw.out hb)) HC1.out (Kd.C_below HR2.out (below_step HBw.out hb)) HC2.out (Kd.C_below HR3.out (below_step HBw.out hb)) HC3.out (Kd.C_below hCd (below_step HBI3.out hb)) hcc HOF.out
                    rw [hlen] at hcall
                    replace hcall := Aside0.mk hcall
                    obtain ⟨i41, hi41, hsz⟩ := Option.map_eq_some_iff.1 info41
                    have hsl := cut_from (P := Try.prog) 28 41 .i64 Try.underlying28 hi41 (Kd.int .i64).sz (congrArg (fun z => z.2.1) hsz) (some ad5) nl c4 ((j : Int) + 1) (by omega) (by omega)
                    rw [show ((j : Int) + 1).toNat = j + 1 by omega, hTT] at hsl
                    have hjj : IntKind.i64.wrap ((j : Int) + 1) = (j : Int) + 1 := IntWalk.i64_in _ (by omega)
                    have k1 := at_i (Kd.C_below HW8.out HB8I.out) srt HSI.out.1 HSI.out.2
                    rw [how] at k1
                    have k2 := at_i (Kd.C_below HW8.out HB8I.out) jx hJ.1 hJ.2
                    rw [hoj] at k2
                    have k3 := pw_cell_below HBI3.out X1.out
                    have k4 := pw_cell_below HBI3.out X2.out
                    obtain ⟨z0, z1, z2, z3, z4⟩ := five HB8I.out hY8.out
                    have q0 : (0 ≤ jx) = True := eq_true hJ.1
                    have q1 : (jx < (l2.length : Int)) = True := eq_true hJ.2
                    have q2 : (0 ≤ srt) = True := eq_true HSI.out.1
                    have q3 : (srt < (l2.length : Int)) = True := eq_true HSI.out.2
                    clear hcl hof hok hCd hTT hi41 hsz how hoj hm hlen hcc hjl2 hjl3 hjx hJ
                    go_upto_region 23 with fail
                    replace k1 := cell_below k1
                    replace k2 := cell_below k2
                    replace k3 := cell_below k3
                    replace k4 := cell_below k4
                    replace z0 := cell_below z0
                    replace z1 := cell_below z1
                    replace z2 := cell_below z2
                    replace z3 := cell_below z3
                    replace z4 := cell_below z4
                    refine wp_region_below (by kernel_rfl) (by kernel_rfl) ?_
                    repeat ((with_reducible refine wpQuiet_step (fun K hK => ?_)); go_simp; (first | ((with_reducible refine hK _ ?_); clear hK K) | ((with_reducible apply Exists.intro); (with_reducible refine ⟨fun wc hwc => ?_, hK _ ?_⟩); (first | (with_reducible exact rfl) | (first | (go_at_call 21; exact calls_below hwc hwc.size (hcall.out _ hwc)) | (go_at_call 25; exact calls_below hwc hwc.size ((bits_In.calls _ _ _ _ HCL.out).mono fun _ _ h => ⟨h.1, below_drawn h.2⟩))) | (go_simp; exact rfl)); clear hK K)))
                    refine wpQuiet_nil ?_
                    intro wq hwq
                    clear k1 k2 k3 k4 z0 z1 z2 z3 z4
                    go_wp2
                    exact ⟨⟨j + 1, a', lv', rfl, rfl, rfl, by omega, HA2, HL2, ⟨below_step HBI3.out hwq⟩⟩, by simp [intOf]; omega⟩
                  · have hnb : decide (s < 0) = false := decide_eq_false hn
                    go_upto_region 23 with fail
                    repeat (go_quiet (fail))
                    go_wp2
                    exact ⟨⟨j + 1, a', lv', rfl, rfl, rfl, by omega, HA2, HL2, ⟨pw_below_drewN HBI3.out _⟩⟩, by simp [intOf]; omega⟩
            · have hjb : decide (j < nl) = false := decide_eq_false (by omega)
              have htake : p.f2.take j = p.f2 := List.take_of_length_le (by have := HNL.out; omega)
              have HE1 : Aside0 (a = true → rdOf false (eR l2 l3) srt = true) := ⟨fun h => by have := closed_empty HO.out p HM.out (by have := HA.out h; rwa [htake] at this); rwa [HSR.out] at this⟩
              have HL1 : Aside0 (lv = true → rdOf false (lR l2 l3) srt = true) := ⟨fun h => by have := closed_lives HO.out p HM.out (by have := HLV.out h; rwa [htake] at this); rwa [HSR.out] at this⟩
              have hcl := closed_first HO.out p HM.out
              rw [HSR.out] at hcl
              obtain ⟨of, hof⟩ : ∃ o, rd (fR l0 l2 l3) srt = o := ⟨_, rfl⟩
              obtain ⟨m, hm⟩ : ∃ m, oR l0 l2 l3 p.f2 0 = m := ⟨_, rfl⟩
              rw [hof, hm] at hcl
              have HCL := Aside0.mk hcl
              have HOF := Of_is HO.out p.f2 0 ok_zero 61 (Nat.le_refl _)
              rw [hm] at HOF
              have hcc : p.f2.length ≤ c4 := HC4.out
              have hcall := fun (w' : World) (hb : Below wr.heap.size wr w') => sets_Of.calls 61 A0 c0 l0 A1 c1 l1 A2 c2 l2 _ c3 l3 st A4 c4 p.f2 0 m w' (Kd.C_below HR0.out (below_step HBwI.out hb)) HC0.out (Kd.C_below HR1.out (below_step HBwI.out hb)) HC1.out (Kd.C_below HR2.out (below_step HBwI.out hb)) HC2.out (Kd.C_below HR3.out (below_step HBwI.out hb)) HC3.out (Kd.C_below HR4Z.out (below_step HBI.out hb)) hcc HOF
              rw [HNL.out] at hcall
              replace hcall := Aside0.mk hcall
              have k1 := at_b (Kd.C_below HE8.out HB8I.out) srt HSI.out.1 HSI.out.2
              have k2 := at_b (Kd.C_below HL8.out HB8I.out) srt HSI.out.1 HSI.out.2
              have k3 := at_i (Kd.C_below HF8.out HB8I.out) srt HSI.out.1 HSI.out.2
              rw [hof] at k3
              obtain ⟨oe, hoe⟩ : ∃ o, rdOf false (eR l2 l3) srt = o := ⟨_, rfl⟩
              obtain ⟨ol, hol⟩ : ∃ o, rdOf false (lR l2 l3) srt = o := ⟨_, rfl⟩
              rw [hoe] at k1 HE1
              rw [hol] at k2 HL1
              obtain ⟨z0, z1, z2, z3, z4⟩ := five HB8I.out hY8.out
              have q2 : (0 ≤ srt) = True := eq_true HSI.out.1
              have q3 : (srt < (l2.length : Int)) = True := eq_true HSI.out.2
              clear htake hcl hof hm HOF hcc hoe hol
              cases a
              · cases lv
                · clear HE1 HL1
                  go_upto_region 25 with fail
                  replace k1 := cell_below k1
                  replace k2 := cell_below k2
                  replace k3 := cell_below k3
                  replace x1 := cell_below x1
                  replace x2 := cell_below x2
                  replace z0 := cell_below z0
                  replace z1 := cell_below z1
                  replace z2 := cell_below z2
                  replace z3 := cell_below z3
                  replace z4 := cell_below z4
                  refine wp_region_below (by kernel_rfl) (by kernel_rfl) ?_
                  repeat ((with_reducible refine wpQuiet_step (fun K hK => ?_)); go_simp; (first | ((with_reducible refine hK _ ?_); clear hK K) | ((with_reducible apply Exists.intro); (with_reducible refine ⟨fun wc hwc => ?_, hK _ ?_⟩); (first | (with_reducible exact rfl) | (first | (go_at_call 21; exact calls_below hwc hwc.size (hcall.out _ hwc)) | (go_at_call 25; exact calls_below hwc hwc.size ((bits_In.calls _ _ _ _ HCL.out).mono fun _ _ h => ⟨h.1, below_drawn h.2⟩))) | (go_simp; exact rfl)); clear hK K)))
                  refine wpQuiet_nil ?_
                  intro wq hwq
                  clear k1 k2 k3 x1 x2 z0 z1 z2 z3 z4
                  go_wp2
                  exact ⟨⟨i + 1, rfl, by omega, ⟨below_step HB8I.out hwq⟩⟩, by simp [intOf]; omega⟩
                · obtain rfl := HL1.out rfl
                  go_upto_region 25 with fail
                  replace k1 := cell_below k1
                  replace k2 := cell_below k2
                  replace k3 := cell_below k3
                  replace x1 := cell_below x1
                  replace x2 := cell_below x2
                  replace z0 := cell_below z0
                  replace z1 := cell_below z1
                  replace z2 := cell_below z2
                  replace z3 := cell_below z3
                  replace z4 := cell_below z4
                  refine wp_region_below (by kernel_rfl) (by kernel_rfl) ?_
                  repeat ((with_reducible refine wpQuiet_step (fun K hK => ?_)); go_simp; (first | ((with_reducible refine hK _ ?_); clear hK K) | ((with_reducible apply Exists.intro); (with_reducible refine ⟨fun wc hwc => ?_, hK _ ?_⟩); (first | (with_reducible exact rfl) | (first | (go_at_call 21; exact calls_below hwc hwc.size (hcall.out _ hwc)) | (go_at_call 25; exact calls_below hwc hwc.size ((bits_In.calls _ _ _ _ HCL.out).mono fun _ _ h => ⟨h.1, below_drawn h.2⟩))) | (go_simp; exact rfl)); clear hK K)))
                  refine wpQuiet_nil ?_
                  intro wq hwq
                  clear k1 k2 k3 x1 x2 z0 z1 z2 z3 z4
                  go_wp2
                  exact ⟨⟨i + 1, rfl, by omega, ⟨below_step HB8I.out hwq⟩⟩, by simp [intOf]; omega⟩
              · obtain rfl := HE1.out rfl
                cases lv
                · clear HL1
                  go_upto_region 25 with fail
                  replace k1 := cell_below k1
                  replace k2 := cell_below k2
                  replace k3 := cell_below k3
                  replace x1 := cell_below x1
                  replace x2 := cell_below x2
                  replace z0 := cell_below z0
                  replace z1 := cell_below z1
                  replace z2 := cell_below z2
                  replace z3 := cell_below z3
                  replace z4 := cell_below z4
                  refine wp_region_below (by kernel_rfl) (by kernel_rfl) ?_
                  repeat ((with_reducible refine wpQuiet_step (fun K hK => ?_)); go_simp; (first | ((with_reducible refine hK _ ?_); clear hK K) | ((with_reducible apply Exists.intro); (with_reducible refine ⟨fun wc hwc => ?_, hK _ ?_⟩); (first | (with_reducible exact rfl) | (first | (go_at_call 21; exact calls_below hwc hwc.size (hcall.out _ hwc)) | (go_at_call 25; exact calls_below hwc hwc.size ((bits_In.calls _ _ _ _ HCL.out).mono fun _ _ h => ⟨h.1, below_drawn h.2⟩))) | (go_simp; exact rfl)); clear hK K)))
                  refine wpQuiet_nil ?_
                  intro wq hwq
                  clear k1 k2 k3 x1 x2 z0 z1 z2 z3 z4
                  go_wp2
                  exact ⟨⟨i + 1, rfl, by omega, ⟨below_step HB8I.out hwq⟩⟩, by simp [intOf]; omega⟩
                · obtain rfl := HL1.out rfl
                  go_upto_region 25 with fail
                  replace k1 := cell_below k1
                  replace k2 := cell_below k2
                  replace k3 := cell_below k3
                  replace x1 := cell_below x1
                  replace x2 := cell_below x2
                  replace z0 := cell_below z0
                  replace z1 := cell_below z1
                  replace z2 := cell_below z2
                  replace z3 := cell_below z3
                  replace z4 := cell_below z4
                  refine wp_region_below (by kernel_rfl) (by kernel_rfl) ?_
                  repeat ((with_reducible refine wpQuiet_step (fun K hK => ?_)); go_simp; (first | ((with_reducible refine hK _ ?_); clear hK K) | ((with_reducible apply Exists.intro); (with_reducible refine ⟨fun wc hwc => ?_, hK _ ?_⟩); (first | (with_reducible exact rfl) | (first | (go_at_call 21; exact calls_below hwc hwc.size (hcall.out _ hwc)) | (go_at_call 25; exact calls_below hwc hwc.size ((bits_In.calls _ _ _ _ HCL.out).mono fun _ _ h => ⟨h.1, below_drawn h.2⟩))) | (go_simp; exact rfl)); clear hK K)))
                  refine wpQuiet_nil ?_
                  intro wq hwq
                  clear k1 k2 k3 x1 x2 z0 z1 z2 z3 z4
                  go_wp2
                  exact ⟨⟨i + 1, rfl, by omega, ⟨below_step HB8I.out hwq⟩⟩, by simp [intOf]; omega⟩
        · have hltb : decide (i < l3.length) = false := decide_eq_false (by omega)
          have hcw := (at_i (Kd.C_below HW8.out HBR.out) st HO.out.lo HO.out.hi)
          have q0 : (0 ≤ st) = True := eq_true HO.out.lo
          have q1 : (st < (l2.length : Int)) = True := eq_true HO.out.hi
          have hhas := Aside0.mk (closed_has HO.out)
          go_wp2_with (go_at_call 26; refine (bits_Has.calls _ _ true _ hhas.out).mono ?_; rintro e wx ⟨rfl, hd⟩; have HBX := Aside0.mk (below_step HB9.out (below_drawn hd)); clear hd)
          go_ret
          exact ⟨rfl, HBX.out⟩

end Go.Proofs.Ytggfiopajogiiaa.P
