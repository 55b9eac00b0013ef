/- sets.Follow: what may follow sorts. -/
import Derived.Test.YtggfiopajogiiaaSFolP
import Derived.Deep.RegionHeld3
import Derived.WalkMore
set_option linter.unusedVariables false
set_option linter.unusedSimpArgs false
namespace Go.Proofs.Ytggfiopajogiiaa.P
open Go.Proofs.Ytggfiopajogiiaa.Base Go.RowKit Go.Proofs.YtggfiopajogiiaaW.PrintWords Go.Proofs.YtggfiopajogiiaaW.PrintLast Go.Proofs.YtggfiopajogiiaaW.PrintMore

theorem C_one (w : World) (x : Int) : Kd.C (Kd.int .i64) (w.alloc (.cells #[.int .i64 x] 3)) (some ⟨w.heap.size, 0, none⟩) 1 [x] := by
  have h : Kd.R (Kd.int .i64) 3 (w.alloc (.cells #[.int .i64 x] 3)) w.heap.size (fun _ => True) (.slice (some ⟨w.heap.size, 0, none⟩) 1 1) [x] :=
    Kd.R_of_own (enc := fun x => Value.int .i64 x) ⟨by simp [encs], .inr ⟨w.heap.size, 1, #[.int .i64 x], by simp, Nat.le_refl _, blk_new w _, by simp, by simp [maxLen], by simp, by simp [encs]⟩⟩ (fun _ _ => trivial)
  exact (Kd.R_reads' h).2.2

theorem wp_scope_inner {P : Program} {Q : Exit → Act → World → Prop} {a : Act} {w : World} {c rest : Code} (l : Nat) (J : Nat → Act → World → Prop) (hf : findLabel c l = some (Code.skip.seq rest))
    (first : (∀ n a w, J n a w → rest.wp P (Exit.jump l (fun a w => ∃ n, J n a w) Q) a w) → c.wp P (Exit.jump l (fun a w => ∃ n, J n a w) Q) a w)
    (pass : ∀ n a w, J n a w → rest.wp P (Exit.jump l (fun a' w' => ∃ m, m < n ∧ J m a' w') Q) a w) : (Code.scope c).wp P Q a w :=
  wp_scope_ghost (rest := Code.skip.seq rest) l J hf (first fun n a w hj => Code.wp_mono (Exit.jump_imp fun _ _ ⟨m, _, hj⟩ => ⟨m, hj⟩) (pass n a w hj)) fun n a w hj => wp_seq (wp_skip (pass n a w hj))

/-- What Follow's loop reads, in the world behind 'known'. -/
structure FolF (w w3 : World) (gb tb nT nS : Nat) (l3 : List S45) (A0 A2 A3 E F : Option Addr) (c0 c2 c3 dE cF : Nat) (es : List Bool) (fs : List Int) : Prop where
  below : Below w.heap.size w w3
  prods : w3.cell? ⟨gb, 3, none⟩ = some (.slice A3 l3.length c3)
  reads : Kd.C k45 w3 A3 l3.length l3
  t0 : w3.cell? ⟨tb, 0, none⟩ = some (.slice A0 nT c0)
  t2 : w3.cell? ⟨tb, 2, none⟩ = some (.slice A2 nS c2)
  t5 : w3.cell? ⟨tb, 5, none⟩ = some (.slice E nS dE)
  t6 : w3.cell? ⟨tb, 6, none⟩ = some (.slice F nS cF)
  empty : Kd.C Kd.bool w3 E nS es
  first : Kd.C (Kd.int .u64) w3 F nS fs

set_option maxHeartbeats 8000000 in
set_option maxRecDepth 100000 in
theorem sets_Follow.calls (k : Nat) (A0 : Option Addr) (c0 : Nat) (l0 : List S51) (A1 : Option Addr) (c1 : Nat) (l1 : List S63) (A2 : Option Addr) (c2 : Nat) (l2 : List ByteArray) (A3 : Option Addr) (c3 : Nat) (l3 : List S45) (st : Int) (r : List Int) (w : World)
    (hr0 : Kd.C k51 w A0 l0.length l0) (hc0 : l0.length ≤ c0) (hr1 : Kd.C k63 w A1 l1.length l1) (hc1 : l1.length ≤ c1) (hr2 : Kd.C Kd.string w A2 l2.length l2) (hc2 : l2.length ≤ c2) (hr3 : Kd.C k45 w A3 l3.length l3) (hc3 : l3.length ≤ c3)
    (h : sets_Follow.f k l0 l1 l2 l3 st = some r) :
    Calls Try.prog 19 #[.agg #[.slice A0 l0.length c0, .slice A1 l1.length c1, .slice A2 l2.length c2, .slice A3 l3.length c3, .int .i64 st]] w fun e w' => ∃ v0_ : Value, e = .returned v0_ ∧ Kd.R (Kd.int .u64) 30 w' w.heap.size (fun _ => True) v0_ r ∧ Below w.heap.size w w' := by
  have HB : Aside0 (Below w.heap.size w (w.alloc (Obj.cells #[.slice A0 l0.length c0, .slice A1 l1.length c1, .slice A2 l2.length c2, .slice A3 l3.length c3, .int .i64 st] 27))) := ⟨below_alloc (Below.refl _ _) _⟩
  have hsz : Aside0 (w.heap.size < (w.alloc (Obj.cells #[.slice A0 l0.length c0, .slice A1 l1.length c1, .slice A2 l2.length c2, .slice A3 l3.length c3, .int .i64 st] 27)).heap.size) := ⟨by simp⟩
  have r0 := Kd.C_below hr0 HB.out
  have r1 := Kd.C_below hr1 HB.out
  have r2 := Kd.C_below hr2 HB.out
  have r3 := Kd.C_below hr3 HB.out
  have hu27 := Try.underlying27
  have hu56 := Try.underlying56
  have hu45 := Try.underlying45
  unfold sets_Follow.f at h
  cases hv : validB l0 l1 l2 l3 st
  · have hkn := Aside0.mk (known_nil A0 c0 l0 A1 c1 l1 A2 c2 l2 A3 c3 l3 st (w.alloc (Obj.cells #[.slice A0 l0.length c0, .slice A1 l1.length c1, .slice A2 l2.length c2, .slice A3 l3.length c3, .int .i64 st] 27)) r0 r1 r2 r3 hv)
    have hr : Aside0 (([] : List Int) = r) := ⟨by rw [hv] at h; simpa using h⟩
    clear hr0 hr1 hr2 hr3 r0 r1 r2 r3 hv h
    go_enter Try.func19, Try.ntmps19
    go_wp2
    go_step3
    go_wp2_with (go_at_call 29; refine hkn.out.mono ?_; rintro e w3 ⟨rfl, hb3⟩; replace hb3 := Aside0.mk hb3)
    rw [Exit.noGoto_ret]
    go_ret
    exact ⟨_, rfl, by rw [← hr.out]; exact Kd.R_nil _ _ _ _ _, below_step HB.out hb3.out⟩
  · rw [if_pos hv] at h
    obtain ⟨es, he, h⟩ := Option.bind_eq_some_iff.1 h
    obtain ⟨fs, hf, h⟩ := Option.bind_eq_some_iff.1 h
    obtain ⟨eo, ho, h⟩ := Option.bind_eq_some_iff.1 h
    have hkn := Aside0.mk (known_calls k A0 c0 l0 A1 c1 l1 A2 c2 l2 A3 c3 l3 st es fs (w.alloc (Obj.cells #[.slice A0 l0.length c0, .slice A1 l1.length c1, .slice A2 l2.length c2, .slice A3 l3.length c3, .int .i64 st] 27)) r0 hc0 r1 hc1 r2 hc2 r3 hc3 hv he (Empty_len hv he) hf (fun p hp => ⟨((valid_has hv).2.2 p hp).1, fun xs => rowF_total _ _ (valid_terms hv) _ _ _ _ _⟩))
    have hvh := Aside0.mk (valid_has hv)
    have hT := Aside0.mk (valid_terms hv)
    have HH := Aside0.mk h
    have HO := Aside0.mk ho
    have h60 : (l2.length : Int) ≤ 60 := by have := (valid_has hv).1; omega
    have hst0 : (0 ≤ st) = True := eq_true (valid_has hv).2.1.1
    have hst1 : (st < (l2.length : Int)) = True := eq_true (valid_has hv).2.1.2
    have hpos : Aside0 (0 < l2.length) := ⟨by have := (valid_has hv).2.1; omega⟩
    have X3 := Aside0.mk r3
    have f2 : (w.alloc (Obj.cells #[.slice A0 l0.length c0, .slice A1 l1.length c1, .slice A2 l2.length c2, .slice A3 l3.length c3, .int .i64 st] 27)).cell? ⟨w.heap.size, 2, none⟩ = some (.slice A2 l2.length c2) := by go_simp
    have f3 : (w.alloc (Obj.cells #[.slice A0 l0.length c0, .slice A1 l1.length c1, .slice A2 l2.length c2, .slice A3 l3.length c3, .int .i64 st] 27)).cell? ⟨w.heap.size, 3, none⟩ = some (.slice A3 l3.length c3) := by go_simp
    have f4 : (w.alloc (Obj.cells #[.slice A0 l0.length c0, .slice A1 l1.length c1, .slice A2 l2.length c2, .slice A3 l3.length c3, .int .i64 st] 27)).cell? ⟨w.heap.size, 4, none⟩ = some (.int .i64 st) := by go_simp
    replace f2 := Aside0.mk f2
    replace f3 := Aside0.mk f3
    replace f4 := Aside0.mk f4
    clear hr0 hr1 hr2 hr3 r0 r1 r2 r3 hv h he hf ho
    go_enter Try.func19, Try.ntmps19
    go_wp2
    obtain ⟨gb, hgb⟩ : ∃ gb, w.heap.size = gb := ⟨_, rfl⟩
    have HGB := Aside0.mk hgb
    clear hgb
    obtain ⟨vg, hvg⟩ : ∃ vg : Value, vg = .agg #[.slice A0 l0.length c0, .slice A1 l1.length c1, .slice A2 l2.length c2, .slice A3 l3.length c3, .int .i64 st] := ⟨_, rfl⟩
    rw [← hvg]
    clear hvg
    refine wp_scope_inner 0 (fun n a wr => ∃ (w3 : World) (tb G cap dE G2 cap2 : Nat) (E : Option Addr) (xs : List Int) (u5 u6 u7 u8 u9 u10 u11 u12 u13 u14 u15 u16 u17 u18 u19 u20 u21 u22 u23 u24 u25 u26 u27 u28 u29 u30 u31 u32 u33 u34 u35 u36 u37 u38 u39 u40 u41 u42 u43 u44 u45 u46 u47 u48 u49 u50 u51 u52 u53 u54 u55 u56 u57 u58 u59 u60 u61 u62 u63 u64 u65 u66 u67 u68 u69 u70 u71 u72 u73 u74 u75 u76 u77 u78 : Value), a = { tmps := #[vg, .pointer (some ⟨w.heap.size, 0, none⟩), .slice none 0 0, .pointer (some ⟨tb, 0, none⟩), .slice (some ⟨G2, 0, none⟩) l2.length cap2, u5, u6, u7, u8, u9, u10, u11, u12, u13, u14, u15, u16, u17, u18, u19, u20, u21, u22, u23, u24, u25, u26, u27, u28, u29, u30, u31, u32, u33, u34, u35, u36, u37, u38, u39, u40, u41, u42, u43, u44, u45, u46, u47, u48, u49, u50, u51, u52, u53, u54, u55, u56, u57, u58, u59, u60, u61, u62, u63, u64, u65, u66, u67, u68, u69, u70, u71, u72, u73, u74, u75, u76, u77, u78], defers := [] } ∧ Aside0 (FolF w w3 w.heap.size tb l0.length l2.length l3 A0 A2 A3 E (some ⟨G, 0, none⟩) c0 c2 c3 dE cap es fs) ∧ Aside0 (w3.heap.size ≤ G2 ∧ Below w3.heap.size w3 wr) ∧ Aside0 (Kd.R (Kd.int .u64) 30 wr w.heap.size (fun _ => True) (.slice (some ⟨G2, 0, none⟩) l2.length cap2) xs) ∧ Aside0 (folG l0.length l2.length es fs l3 n xs = some r)) rfl ?first ?pass
    case first =>
      intro hpass
      go_hide hQ
      rw [hQ] at hpass
      replace hpass := Aside0.mk hpass
      replace hQ := Aside0.mk hQ
      go_upto_region 5 with (first | (go_at_call 29; refine hkn.out.mono ?_; rintro e w3 ⟨tb, G, cap, dE, E, rfl, y0, y2, y5, y6, hE, hR, hb3⟩; have F2 := pw_cell_below hb3 f2.out; replace hb3 := Aside0.mk hb3; replace hR := Aside0.mk hR; replace hE := Aside0.mk hE; replace y0 := Aside0.mk y0; replace y2 := Aside0.mk y2; replace y5 := Aside0.mk y5; replace y6 := Aside0.mk y6) | ((with_reducible refine gate_dst (N := 18) rfl ?_); refine Kd.R_make (w0 := w3) (Kd.int .u64) w3.heap.size 30 rfl (N := 18) rfl 36 _ _ rfl (l2.length : Int) rfl rfl Try.underlying36 (.int .u64 0) 8 info30 rfl (by decide) (by omega) 0 (ok := fun _ => True) (okp := fun _ => True) rfl (fun _ hk => hk) trivial (by omega) (by omega) (Below.refl _ _) (Nat.le_refl _) ?_; intro v1 w4 ho4 hb4 hg4 hnew4; rw [Int.toNat_natCast] at ho4; obtain ⟨G2, cap2, hv1, hGb, hGs, hGc⟩ := Kd.R_form ho4 (by rw [List.length_replicate]; exact hpos.out); rw [List.length_replicate] at hv1; subst hv1; replace ho4 := Aside0.mk ho4; replace hb4 := Aside0.mk hb4; replace hGb := Aside0.mk (And.intro hGb hGs); clear hg4 hnew4 hGs hGc))
      have F43 := pw_cell_below hb3.out f4.out
      have F4 := pw_cell_below hb4.out F43
      obtain ⟨o, ho⟩ : ∃ o, rdOf 0 (List.replicate l2.length (0 : Int)) st = o := ⟨_, rfl⟩
      have hc := Kd.R_celln 0 ho4.out st (of_eq_true hst0) (of_eq_true hst1)
      rw [ho] at hc
      obtain ⟨hc1, hc2⟩ := hc
      have hgn : Aside0 (w.heap.size < w3.heap.size) := ⟨Nat.lt_of_lt_of_le hsz.out hb3.out.size⟩
      have hgG : ¬ w.heap.size = G2 := by have := hgn.out; have := hGb.out.1; omega
      have n1 := World.new_ne w4 _ F4
      have n2 := World.new_ne w4 _ hc1
      have hlt2 : G2 < w4.heap.size := hGb.out.2
      clear F2
      go_cut [19] from 20 to 24 (fun s19 wr => s19 = .slice (some ⟨G2, 0, none⟩) l2.length cap2 ∧ Aside0 (Kd.R (Kd.int .u64) 30 wr w3.heap.size (fun _ => True) (.slice (some ⟨G2, 0, none⟩) l2.length cap2) ((List.replicate l2.length 0).set st.toNat eo)) ∧ Aside0 (Below w3.heap.size w3 wr))
      case first =>
        go_region_held3 (fun w' => w'.cell? ⟨w.heap.size, 4, none⟩ = some (.int .i64 st)) (first | (go_keep; done) | exact pw_cell_below (w := w3) (by repeat (first | exact hb4.out | apply below_alloc | apply pw_below_drewN | apply below_drew | refine Below.setCell ?_ hGb.out.1 _)) F43)
          (first | (go_at_call 24; refine (bits_Of.calls k _ _ [63] eo _ ?_ ?_ HO.out).mono ?_; (first | exact C_one _ _ | exact Kd.C_below (C_one _ _) (below_drew (Below.refl _ _))); (exact Nat.le_refl _); rintro e wx ⟨rfl, m, rfl⟩))
        all_goals go_wp2_with fail
        all_goals go_meet
        all_goals exact ⟨rfl, ⟨Kd.R_putn (by (repeat (with_reducible first | apply Kd.R_alloc | apply Kd.R_drewN | apply Kd.R_drew)); exact ho4.out) st eo⟩, ⟨by repeat (first | exact hb4.out | apply below_alloc | apply pw_below_drewN | apply below_drew | refine Below.setCell ?_ hGb.out.1 _)⟩⟩
      case rest =>
        obtain ⟨rfl, hR5, hB5⟩ := hcut
        go_upto_region 6 with fail
        go_step3
        simp only [Exit.then]
        rename_i hKK
        have hFF : Kd.C (Kd.int .u64) w3 (some ⟨G, 0, none⟩) l2.length fs := by have := (Kd.R_reads' hR.out).2.2; rwa [← (Kd.R_reads' hR.out).1] at this
        refine hKK _ _ (hpass.out k _ _ ⟨w3, tb, G, cap, dE, G2, cap2, E, (List.replicate l2.length 0).set st.toNat eo, _, _, _, _, _, _, _, _, _, _, _, _, _, _, _, _, _, _, _, _, _, _, _, _, _, _, _, _, _, _, _, _, _, _, _, _, _, _, _, _, _, _, _, _, _, _, _, _, _, _, _, _, _, _, _, _, _, _, _, _, _, _, _, _, _, _, _, _, _, _, _, _, _, _, rfl, ⟨⟨below_step HB.out hb3.out, pw_cell_below hb3.out f3.out, Kd.C_below X3.out hb3.out, y0.out, y2.out, y5.out, y6.out, hE.out, hFF⟩⟩, ⟨hGb.out.1, hB5.out⟩, ⟨Kd.R_lower hR5.out (Nat.le_of_lt hgn.out)⟩, HH⟩)
    case pass =>
      clear hkn f2 f3 f4 X3 hpos hst0 hst1 HO HH
      rintro n a wq ⟨w3, tb, G, cap, dE, G2, cap2, E, xs, u5, u6, u7, u8, u9, u10, u11, u12, u13, u14, u15, u16, u17, u18, u19, u20, u21, u22, u23, u24, u25, u26, u27, u28, u29, u30, u31, u32, u33, u34, u35, u36, u37, u38, u39, u40, u41, u42, u43, u44, u45, u46, u47, u48, u49, u50, u51, u52, u53, u54, u55, u56, u57, u58, u59, u60, u61, u62, u63, u64, u65, u66, u67, u68, u69, u70, u71, u72, u73, u74, u75, u76, u77, u78, rfl, HFo, HN, HR, HG⟩
      go_hide hQ
      replace hQ := Aside0.mk hQ
      have f3 := pw_cell_below HN.out.2 HFo.out.prods
      go_wp2
      clear f3
      go_loopw [5, 28] (fun v5 v28 wr => ∃ (kk : Nat) (ch : Bool) (ys : List Int), v5 = .bool ch ∧ v28 = .int .i64 kk ∧ kk ≤ l3.length ∧ Aside0 (Kd.R (Kd.int .u64) 30 wr w.heap.size (fun _ => True) (.slice (some ⟨G2, 0, none⟩) l2.length cap2) ys) ∧ Aside0 (Below w3.heap.size w3 wr) ∧ Aside0 (folPass l0.length l2.length es fs l3 (xs, false) = folPass l0.length l2.length es fs (l3.drop kk) (ys, ch))) (fun _ v28 _ => l3.length - (intOf v28).toNat)
      case atStart => exact ⟨0, false, xs, rfl, rfl, Nat.zero_le _, HR, ⟨HN.out.2⟩, ⟨rfl⟩⟩
      case round =>
        obtain ⟨kk, ch, ys, rfl, rfl, hk, HRR, HBB, HP⟩ := hrel
        have hmx : l3.length ≤ 9223372036854775807 := HFo.out.reads.2.1
        by_cases hlt : kk < l3.length
        · have hltb : decide (kk < l3.length) = true := decide_eq_true (by omega)
          obtain ⟨ad, A4, c4, e4, hx1, hx2, hx3, hx4, hcap, hr4⟩ := at_T45 HFo.out.reads (kk : Int) (by omega) (by omega)
          rw [Int.toNat_natCast] at hx1 hx2 hx3 hx4
          replace hx1 := pw_cell_below HBB.out hx1
          replace hx2 := pw_cell_below HBB.out hx2
          replace hx3 := pw_cell_below HBB.out hx3
          replace hx4 := pw_cell_below HBB.out hx4
          obtain ⟨p, hp⟩ : ∃ p, rd_T45 l3 kk = p := ⟨_, rfl⟩
          rw [hp] at hx1 hx2 hx3 hx4 hr4 hcap
          have hpk : l3[kk] = p := by rw [← hp]; unfold rd_T45; simp [List.getD, hlt]
          have hmem : p ∈ l3 := by rw [← hpk]; exact List.getElem_mem hlt
          have HPK := Aside0.mk hpk
          have hsp := Aside0.mk (hvh.out.2.2 p hmem)
          have HR4 := Aside0.mk hr4
          have HC4 := Aside0.mk hcap
          have hstep : Aside0 (folPass l0.length l2.length es fs l3 (xs, false) = folPass l0.length l2.length es fs (l3.drop (kk + 1)) (folSym l0.length l2.length es fs p.f1 p.f2 (ys, ch))) := ⟨by rw [HP.out, folPass_drop _ _ _ _ _ kk hlt, HPK.out]⟩
          clear hp hpk hr4 hcap hmem
          obtain ⟨nl, hnl⟩ : ∃ nl, p.f2.length = nl := ⟨_, rfl⟩
          obtain ⟨lab, hlab⟩ : ∃ lab, p.f0 = lab := ⟨_, rfl⟩
          obtain ⟨srt, hsrt⟩ : ∃ srt, p.f1 = srt := ⟨_, rfl⟩
          obtain ⟨cls, hcls⟩ : ∃ cls, p.f3 = cls := ⟨_, rfl⟩
          rw [hlab] at hx1
          rw [hsrt] at hx2 hstep hsp
          rw [hnl] at hx3
          rw [hcls] at hx4
          have HNL := Aside0.mk hnl
          clear hlab hnl hcls hsrt
          go_upto_region 10 with fail
          have HZ : Aside0 (Below wr.heap.size wr (wr.alloc (Obj.cells #[.string lab, .int .i64 srt, .slice A4 nl c4, .int .i64 cls] 45))) := ⟨below_alloc (Below.refl _ _) _⟩
          have z1 : (wr.alloc (Obj.cells #[.string lab, .int .i64 srt, .slice A4 nl c4, .int .i64 cls] 45)).cell? ⟨wr.heap.size, 1, none⟩ = some (.int .i64 srt) := by go_simp
          have z2 : (wr.alloc (Obj.cells #[.string lab, .int .i64 srt, .slice A4 nl c4, .int .i64 cls] 45)).cell? ⟨wr.heap.size, 2, none⟩ = some (.slice A4 nl c4) := by go_simp
          generalize wr.alloc (Obj.cells #[.string lab, .int .i64 srt, .slice A4 nl c4, .int .i64 cls] 45) = wz at *
          clear hx1 hx2 hx3 hx4
          have HRZ := Aside0.mk (Kd.R_below HRR.out HZ.out)
          have HBZ : Aside0 (Below w3.heap.size w3 wz) := ⟨HBB.out.trans (HZ.out.mono HBB.out.size)⟩
          have hgy : Aside0 (wr.heap.size ≠ G2) := ⟨by have := Kd.R_lt HRR.out G2 rfl; omega⟩
          have Z1 := Aside0.mk z1
          have Z2 := Aside0.mk z2
          generalize wr.heap.size = gy at z1 z2 hgy Z1 Z2 ⊢
          obtain ⟨wo, rfl⟩ : ∃ wo, wo = wr := ⟨_, rfl⟩
          go_wp2
          clear z1 z2 hltb
          go_loopw [5, 35] (fun v5 v35 wi => ∃ (j : Nat) (c' : Bool) (zs : List Int), v5 = .bool c' ∧ v35 = .int .i64 j ∧ j ≤ nl ∧ Aside0 (Kd.R (Kd.int .u64) 30 wi w.heap.size (fun _ => True) (.slice (some ⟨G2, 0, none⟩) l2.length cap2) zs) ∧ Aside0 (wz.grownBy wi (some G2)) ∧ Aside0 (folSym l0.length l2.length es fs srt p.f2 (ys, ch) = folSym l0.length l2.length es fs srt (p.f2.drop j) (zs, c'))) (fun _ v35 _ => nl - (intOf v35).toNat)
          case atStart => exact ⟨0, ch, ys, rfl, rfl, Nat.zero_le _, HRZ, ⟨World.grownBy.refl _ _⟩, ⟨rfl⟩⟩
          case round =>
            obtain ⟨j, c', zs, rfl, rfl, hj, HRI, HGI, HPI⟩ := hrel
            have hmj : nl ≤ 9223372036854775807 := by have := HR4.out.2.1; rw [HNL.out] at this; exact this
            have HBI : Aside0 (Below w3.heap.size w3 wr) := ⟨below_grown HBZ.out HGI.out HN.out.1⟩
            by_cases hjl : j < nl
            · have hjb : decide (j < nl) = true := decide_eq_true (by omega)
              obtain ⟨ad5, e5, hxs⟩ := Kd.at_int (Kd.C_below HR4.out HBI.out) (j : Int) (by omega) (by have := HNL.out; omega)
              rw [Int.toNat_natCast] at hxs
              have hjl2 : j < p.f2.length := by rw [HNL.out]; exact hjl
              have hrk : rd p.f2 (j : Int) = p.f2[j] := by unfold rd; simp [List.getD, hjl2]
              obtain ⟨s, hs⟩ : ∃ s, p.f2[j] = s := ⟨_, rfl⟩
              have hin := hsp.out.2 p.f2[j] (List.getElem_mem hjl2)
              have hst := HPI.out
              rw [folSym_drop _ _ _ _ _ _ j hjl2, hs] at hst
              rw [hrk, hs] at hxs
              rw [hs] at hin
              replace hst := Aside0.mk hst
              clear hrk hs
              subst e5
              by_cases hs0 : 0 ≤ s
              · have hs0b : decide (0 ≤ s) = true := decide_eq_true hs0
                have hst2 : Aside0 (folSym l0.length l2.length es fs srt p.f2 (ys, ch) = folSym l0.length l2.length es fs srt (p.f2.drop (j + 1)) (zs, c')) := ⟨by have := hst.out; rwa [if_pos hs0] at this⟩
                clear hst
                go_wp2
                exact ⟨⟨j + 1, c', zs, rfl, rfl, by omega, HRI, HGI, hst2⟩, by simp [intOf]; omega⟩
              · have hs0b : decide (0 ≤ s) = false := decide_eq_false hs0
                obtain ⟨jx, hjx⟩ : ∃ jx, IntKind.i64.wrap (-1 - s) = jx := ⟨_, rfl⟩
                obtain ⟨hj0, hj1⟩ := hin (by omega)
                obtain ⟨m, hm⟩ : ∃ m, folMore l0.length l2.length es fs srt s (p.f2.drop (j + 1)) zs = m := ⟨_, rfl⟩
                obtain ⟨o, ho⟩ : ∃ o, rdOf 0 zs jx = o := ⟨_, rfl⟩
                obtain ⟨o2, ho2⟩ : ∃ o2, rdOf 0 zs srt = o2 := ⟨_, rfl⟩
                have hst2 : Aside0 (folSym l0.length l2.length es fs srt p.f2 (ys, ch) = folSym l0.length l2.length es fs srt (p.f2.drop (j + 1)) (zs.set jx.toNat m, c' || decide (m ≠ o))) := ⟨by have := hst.out; rw [if_neg hs0, hm, hjx, ho] at this; exact this⟩
                have hm2 : Aside0 (∃ q, rowF l0.length l2.length es fs o2 (p.f2.drop (j + 1)) 0 = some q ∧ m = Go.bits .or .u64 o q) := ⟨by
                  obtain ⟨q, hq⟩ := rowF_total l0.length l2.length hT.out es fs o2 (p.f2.drop (j + 1)) 0
                  refine ⟨q, hq, ?_⟩
                  rw [← hm]; unfold folMore; rw [hjx, ho, ho2, hq]; rfl⟩
                clear hst hm
                rw [hjx] at hj0 hj1
                have q0 : (0 ≤ jx) = True := eq_true hj0
                have q1 : (jx < (l2.length : Int)) = True := eq_true hj1
                have q2 : (0 ≤ srt) = True := eq_true hsp.out.1.1
                have q3 : (srt < (l2.length : Int)) = True := eq_true hsp.out.1.2
                have hjj : IntKind.i64.wrap ((j : Int) + 1) = (j : Int) + 1 := IntWalk.i64_in _ (by omega)
                obtain ⟨q, hq1, hq2⟩ := hm2.out
                have hU := Aside0.mk (show bits_Union.f o q = some m by rw [hq2]; rfl)
                have hjl3 : j + 1 ≤ p.f2.length := hjl2
                obtain ⟨T, hTT⟩ : ∃ T, (if c4 = j + 1 then some ad5 else (some ad5).map (·.add ((j + 1) * (Kd.int .i64).sz))) = T := ⟨_, rfl⟩
                have hCd := Kd.C_drop (m := j + 1) HR4.out hjl3 HC4.out
                rw [hTT] at hCd
                have hlen : (p.f2.drop (j + 1)).length = nl - (j + 1) := by rw [List.length_drop, HNL.out]
                have h60n : l2.length ≤ 60 := by omega
                have hrow := fun (w' : World) (hb : Below wr.heap.size wr w') => row_calls tb l0.length l2.length A0 A2 E (some ⟨G, 0, none⟩) c0 c2 dE cap es fs T (c4 - (j + 1)) (p.f2.drop (j + 1)) o2 q w' (Kd.C_below hCd (below_step HBI.out hb)) h60n (pw_cell_below (below_step HBI.out hb) HFo.out.t0) (pw_cell_below (below_step HBI.out hb) HFo.out.t2) (pw_cell_below (below_step HBI.out hb) HFo.out.t5) (pw_cell_below (below_step HBI.out hb) HFo.out.t6) (Kd.C_below HFo.out.empty (below_step HBI.out hb)) (Kd.C_below HFo.out.first (below_step HBI.out hb)) hq1
                rw [hlen] at hrow
                replace hrow := Aside0.mk hrow
                obtain ⟨i41, hi41, hsz⟩ := Option.map_eq_some_iff.1 info41
                have hsl := cut_from (P := Try.prog) 28 41 .i64 Try.underlying28 hi41 (Kd.int .i64).sz (congrArg (fun z => z.2.1) hsz) (some ad5) nl c4 ((j : Int) + 1) (by omega) (by omega)
                rw [show ((j : Int) + 1).toNat = j + 1 by omega, hTT] at hsl
                have k1 := (Kd.R_celln 0 HRI.out jx hj0 hj1).1
                rw [ho] at k1
                have k2 := (Kd.R_celln 0 HRI.out srt hsp.out.1.1 hsp.out.1.2).1
                rw [ho2] at k2
                have k3 := HGI.out.cell Z1.out (by intro e; injection e with e; exact hgy.out e)
                have k4 := HGI.out.cell Z2.out (by intro e; injection e with e; exact hgy.out e)
                have K1 := Aside0.mk k1
                have K2 := Aside0.mk k2
                have K3 := Aside0.mk k3
                have K4 := Aside0.mk k4
                have HO1 := Aside0.mk ho
                clear k1 k2 k3 k4 hCd hTT hi41 hsz hq1 hq2 ho ho2 hlen hjl2 hjl3
                go_upto_region 14 with fail
                clear hxs
                have k1 := cell_below K1.out
                have k2 := cell_below K2.out
                have k3 := cell_below K3.out
                have k4 := cell_below K4.out
                refine wp_region_below (by kernel_rfl) (by kernel_rfl) ?_
                repeat (refine wpQuiet_step (fun K hK => ?_); go_simp; (first | (refine hK _ ?_; clear hK K) | (apply Exists.intro; refine ⟨fun wc hwc => ?_, hK _ ?_⟩; (first | exact rfl | (first | (go_at_call 33; exact calls_below hwc hwc.size ((hrow.out _ hwc).mono fun _ _ h => ⟨h.1, below_drawn h.2⟩)) | (go_at_call 32; exact calls_below hwc hwc.size ((bits_Union.calls _ _ _ _ hU.out).mono fun _ _ h => ⟨h.1, below_drawn h.2⟩))) | (go_simp; exact rfl)); clear hK K)))
                refine wpQuiet_nil ?_
                intro wq hwq
                clear k1 k2 k3 k4
                have HRQ := Aside0.mk (Kd.R_below HRI.out hwq)
                have HGQ := Aside0.mk (grown_below HGI.out hwq)
                obtain ⟨k5, k6⟩ := Kd.R_celln 0 HRQ.out jx hj0 hj1
                rw [HO1.out] at k5
                have hend : Aside0 (Kd.R (Kd.int .u64) 30 (wq.setCell ⟨G2, jx.toNat, none⟩ (.int .u64 m)) w.heap.size (fun _ => True) (.slice (some ⟨G2, 0, none⟩) l2.length cap2) (zs.set jx.toNat m)) := ⟨Kd.R_putn HRQ.out jx m⟩
                cases c'
                · by_cases hom : m = o
                  · subst hom
                    have hom1 : decide (m = m) = true := by simp
                    go_wp2
                    exact ⟨⟨_, _, _, _, _, ⟨j + 1, .inl ⟨rfl, rfl, by omega, zs.set jx.toNat m, hend, ⟨grown_put HGQ.out⟩, ⟨by rw [hst2.out]; simp⟩⟩⟩, rfl, rfl, rfl, rfl, rfl⟩, by simp [intOf]; omega⟩
                  · have hom1 : decide (m = o) = false := decide_eq_false hom
                    have hom2 : (m != o) = true := by simp [hom]
                    go_wp2
                    exact ⟨⟨_, _, _, _, _, ⟨j + 1, .inr ⟨rfl, rfl, by omega, zs.set jx.toNat m, hend, ⟨grown_put HGQ.out⟩, ⟨by rw [hst2.out]; simp [hom]⟩⟩⟩, rfl, rfl, rfl, rfl, rfl⟩, by simp [intOf]; omega⟩
                · go_wp2
                  exact ⟨⟨_, _, _, _, _, ⟨j + 1, .inr ⟨rfl, rfl, by omega, zs.set jx.toNat m, hend, ⟨grown_put HGQ.out⟩, ⟨by rw [hst2.out]; simp⟩⟩⟩, rfl, rfl, rfl, rfl, rfl⟩, by simp [intOf]; omega⟩
            · have hjb : decide (j < nl) = false := decide_eq_false (by omega)
              have HE : Aside0 (folSym l0.length l2.length es fs srt p.f2 (ys, ch) = (zs, c')) := ⟨by rw [HPI.out, List.drop_eq_nil_of_le (by have := HNL.out; omega)]; rfl⟩
              go_wp2
              exact ⟨⟨kk + 1, c', zs, rfl, rfl, by omega, HRI, HBI, ⟨by rw [hstep.out, HE.out]⟩⟩, by simp [intOf]; omega⟩
        · have hltb : decide (kk < l3.length) = false := decide_eq_false (by omega)
          obtain ⟨n', rfl⟩ : ∃ n', n = n' + 1 := by
            cases n with
            | zero => have := HG.out; cases this
            | succ n' => exact ⟨n', rfl⟩
          have HF : Aside0 (folPass l0.length l2.length es fs l3 (xs, false) = (ys, ch)) := ⟨by rw [HP.out, List.drop_eq_nil_of_le (by omega)]; rfl⟩
          cases ch
          · have HE : Aside0 (ys = r) := ⟨by have := HG.out; unfold folG at this; rw [HF.out] at this; simpa using this⟩
            go_wp2
            rw [← hQ.out]
            simp only [Exit.jump]
            go_ret
            exact ⟨_, rfl, by rw [← HE.out]; exact HRR.out, HFo.out.below.trans (HBB.out.mono HFo.out.below.size)⟩
          · have HE : Aside0 (folG l0.length l2.length es fs l3 n' ys = some r) := ⟨by have := HG.out; unfold folG at this; rw [HF.out] at this; simpa using this⟩
            go_wp2
            go_step3
            rw [← hQ.out]
            exact ⟨rfl, n', Nat.lt_succ_self _, w3, tb, G, cap, dE, G2, cap2, E, ys, _, _, _, _, _, _, _, _, _, _, _, _, _, _, _, _, _, _, _, _, _, _, _, _, _, _, _, _, _, _, _, _, _, _, _, _, _, _, _, _, _, _, _, _, _, _, _, _, _, _, _, _, _, _, _, _, _, _, _, _, _, _, _, _, _, _, _, _, _, _, _, _, _, _, rfl, HFo, ⟨HN.out.1, HBB.out⟩, HRR, HE⟩

end Go.Proofs.Ytggfiopajogiiaa.P
