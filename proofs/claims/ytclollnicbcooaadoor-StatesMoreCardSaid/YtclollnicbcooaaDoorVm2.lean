/- Texts of this claim put together: Clo, Px4, Px5, Nit, Num, Bup, Bui, Px6, Px7, Px16. -/
import Derived.Test.YtclollnicbcooaaDoorVm1
import Derived.Test.YtclollnicbcooaaDoorVm0
import Derived.Lib.AppendIntMem
set_option linter.unusedVariables false
set_option linter.unusedSimpArgs false
set_option linter.unusedSectionVars false
section
namespace Go.Proofs.YtclollnicbcooaaDoor.P
open Go.RowKit Go.Lib Go.Sort Go.Proofs.YtclollnicbcooaaDoorW.PrintWords Go.Proofs.YtclollnicbcooaaDoorW.PrintLast Go.Proofs.YtclollnicbcooaaDoorW.PrintMore St Base
attribute [local go_sem] Oper.semAt_some

set_option maxHeartbeats 16000000 in
set_option maxRecDepth 100000 in
theorem closed_in (A0 : Option Addr) (c0 : Nat) (l0 : List S82) (A1 : Option Addr) (c1 : Nat) (l1 : List S101) (A2 : Option Addr) (c2 : Nat) (l2 : List ByteArray) (A3 : Option Addr) (c3 : Nat) (l3 : List S64) (st : Int) (A : Option Addr) (c : Nat) (l : List S37) (w : World)
  (hr0 : Kd.C k82 w A0 l0.length l0) (hc0 : l0.length ≤ c0) (hr1 : Kd.C k101 w A1 l1.length l1) (hc1 : l1.length ≤ c1) (hr2 : Kd.C Kd.string w A2 l2.length l2) (hc2 : l2.length ≤ c2) (hr3 : Kd.C k64 w A3 l3.length l3) (hc3 : l3.length ≤ c3) (hr : Kd.C k37 w A l.length l) (hc : l.length ≤ c)
  (hF : Fits l2 l3 st) (hsy : ∀ p ∈ l3, ∀ s ∈ p.f2, -9223372036854775808 ≤ s) (hl : l.length ≤ 1000000) (hrng : ∀ x ∈ l, rngI (toI x)) :
  CallsIn Fence.wide 4 Tryd.prog 38 #[.agg #[.slice A0 l0.length c0, .slice A1 l1.length c1, .slice A2 l2.length c2, .slice A3 l3.length c3, .int .i64 st], .slice A l.length c] w fun e w' => ∃ v, e = .returned v ∧ Kd.R k37 37 w' w.heap.size (fun _ => True) v ((risen (closedL (gr st l3) (l.map toI))).map ofI) ∧ RowKit.Below w.heap.size w w' := by
 have HR0 := Aside0.mk hr0
 have HR1 := Aside0.mk hr1
 have HR2 := Aside0.mk hr2
 have HR3 := Aside0.mk hr3
 have HC0 := Aside0.mk hc0
 have HC1 := Aside0.mk hc1
 have HC2 := Aside0.mk hc2
 have HC3 := Aside0.mk hc3
 have HF := Aside0.mk hF
 have HL := Aside0.mk hl
 have HSY := Aside0.mk hsy
 have hfew : (gr st l3).ps.length ≤ 120 := by rw [gr_len]; exact hF.few
 have HFEW := Aside0.mk hfew
 clear hr0 hr1 hr2 hr3 hc0 hc1 hc2 hc3 hfew hsy
 have hu27 := Tryd.underlying27
 have hu28 := Tryd.underlying28
 have hu37 := Tryd.underlying37
 have hmm := @run_makeMap Tryd.prog
 have hstart := Fx.start hF (l.map toI) (by rw [List.length_map]; exact hl) (fun x hx => by
  obtain ⟨y, hy, rfl⟩ := List.mem_map.1 hx
  exact hrng y hy)
 have hmst := Lm.start (G := #[.slice A0 l0.length c0, .slice A1 l1.length c1, .slice A2 l2.length c2, .slice A3 l3.length c3, .int .i64 st]) hr hc
 have hN0' : fuel (l.map toI) ≤ 1189003 := by unfold fuel; rw [List.length_map]; omega
 generalize hN0 : fuel (l.map toI) = N0 at *
 generalize hres : closedL (gr st l3) (l.map toI) = res at *
 obtain ⟨Q0, hQ0⟩ : ∃ Q0, Q0 = 1000000 + 120 * N0 := ⟨_, rfl⟩
 have hQ0' : Q0 ≤ 144000000 := by omega
 rw [← hQ0] at hstart
 have HX := Aside0.mk hstart
 have HM := Aside0.mk hmst
 have HB := Aside0.mk (show N0 ≤ 1189003 ∧ Q0 ≤ 144000000 from ⟨hN0', hQ0'⟩)
 clear hstart hmst hN0 hN0' hQ0 hQ0' hres hF hl hrng hr hc
 refine callsIn_of_wp_marks Tryd.func38 rfl trivial ?_ rfl
 simp only [Tryd.ntmps38, List.size_toArray, List.length_cons, List.length_nil, Nat.reduceAdd, Nat.reduceSub, Array.replicate_succ, Array.replicate_zero, List.push_toArray, List.append_toArray, List.nil_append, List.cons_append]
 refine wpIn_wide.2 ?_
 go_wp2
 refine wp_loop_num (fun n a W => ∃ (u6 : Value) (out q : List Itm) (Aq : Option Addr) (cq : Nat) (ds : List Deferred) (hi : Nat) (u7 u8 u9 u10 u12 u13 u14 u15 u16 u17 u18 u19 u20 u21 u22 u23 u24 u25 u26 u27 u28 u29 u30 u31 u32 u33 u34 u35 u36 u37 u38 u39 u40 u41 u42 u43 u44 u45 u46 u47 u48 u49 u50 u51 u52 u53 u54 u55 u56 : Value), a = { tmps := #[.agg #[.slice A0 l0.length c0, .slice A1 l1.length c1, .slice A2 l2.length c2, .slice A3 l3.length c3, .int .i64 st], .slice A l.length c, .pointer (some ⟨w.heap.size, 0, none⟩), .pointer (some ⟨w.heap.size + 1, 0, none⟩), .slice none 0 0, .map (some (w.heap.size + 1 + 1)), u6, u7, u8, u9, u10, .map (some (w.heap.size + 1 + 1)), u12, u13, u14, u15, u16, u17, u18, u19, u20, u21, u22, u23, u24, u25, u26, u27, u28, u29, u30, u31, u32, u33, u34, u35, u36, u37, u38, u39, u40, u41, u42, u43, u44, u45, u46, u47, u48, u49, u50, u51, u52, u53, u54, u55, u56, undef, undef], defers := ds } ∧ Aside0 (Fx (gr st l3) res N0 Q0 n out q) ∧ Aside0 (Lm w #[.slice A0 l0.length c0, .slice A1 l1.length c1, .slice A2 l2.length c2, .slice A3 l3.length c3, .int .i64 st] hi out out q u6 Aq cq ds W)) N0 ⟨.slice none 0 0, [], l.map toI, A, c, [], w.heap.size + 3, undef, undef, undef, undef, undef, undef, undef, undef, undef, undef, undef, undef, undef, undef, undef, undef, undef, undef, undef, undef, undef, undef, undef, undef, undef, undef, undef, undef, undef, undef, undef, undef, undef, undef, undef, undef, undef, undef, undef, undef, undef, undef, undef, undef, undef, undef, undef, undef, undef, by rfl, HX, HM⟩ ?_
 clear HX HM
 rintro n a W ⟨u6, out, q, Aq, cq, ds, hi, u7, u8, u9, u10, u12, u13, u14, u15, u16, u17, u18, u19, u20, u21, u22, u23, u24, u25, u26, u27, u28, u29, u30, u31, u32, u33, u34, u35, u36, u37, u38, u39, u40, u41, u42, u43, u44, u45, u46, u47, u48, u49, u50, u51, u52, u53, u54, u55, u56, rfl, HX, HI⟩
 have z1 := blk_cell HI.out.bl 0
 simp only [List.getElem?_toArray, List.getElem?_cons_zero] at z1
 obtain ⟨k, rfl⟩ : ∃ k, n = k + 1 := by
  cases n with
  | zero => exact absurd HX.out.run (by rw [clQ]; simp)
  | succ k => exact ⟨k, rfl⟩
 cases q with
 | nil =>
  have hro : out = res := by
   have h := HX.out.run
   rw [clQ] at h
   exact Option.some.inj h
  have hlen : (out.map ofI).length < 4611686018427387904 := by
   rw [List.length_map]
   have := HX.out.small; have := HB.out.1; omega
  have HRS := Aside0.mk (show risenS (out.map ofI) = (risen res).map ofI by unfold risenS; rw [map_toI_ofI, hro])
  clear hro
  simp only [List.length_nil] at z1
  go_wp2_with (go_at_call 68; refine (rising_calls u6 _ (w.heap.size + 3) _ W HI.out.ho hlen).mono ?_; rintro e w6 ⟨v6, rfl, hR, hg, hat⟩)
  have hB6 := below_grown HI.out.hb hg (fun k hk => by have := Kd.R_base HI.out.ho k hk; omega)
  have hM6 : Marks (w.heap.size + 3) hi ds w6 := Marks.keep (fun D h1 h2 h3 => (hg.block D (Nat.lt_of_lt_of_le h2 HI.out.hil) (fun e => by
   obtain ⟨cells, hcc⟩ := Kd.R_typed HI.out.ho D e.symm
   rw [h3] at hcc; cases hcc)).trans h3) ds HI.out.mks
  exact leaves_marks (v := v6) (fun W => by exact results_tmp (t := 4) rfl _ _ _) (by omega) ds w6 hM6 (Kd.R_lower (Kd.R_mono (HRS.out ▸ hR) (fun _ _ => trivial)) (by omega)) hB6
 | cons x q =>
  have hqq := HI.out.hq
  have hxr : rngI x := HX.out.rng x (List.mem_cons_self ..)
  obtain ⟨ad, rfl, hx0, hx1⟩ := at_T37 hqq 0 (by omega) (by simp only [List.length_cons]; omega)
  have hrd : rd_T37 ((x :: q).map ofI) 0 = ofI x := rfl
  rw [hrd] at hx0 hx1
  have hx0' : W.cell? ad = some (.int .i64 x.1) := by
   have e : ad.add ((0 : Int).toNat * 2) = ad := add_none ad
   rw [e] at hx0; exact hx0
  have hx1' : W.cell? ⟨ad.block, ad.off + 1, none⟩ = some (.int .i64 x.2) := by
   have e : ad.add ((0 : Int).toNat * 2) = ad := add_none ad
   rw [e] at hx1; exact hx1
  clear hx0 hx1 hrd hqq
  obtain ⟨i37, hi37, hsz37⟩ := Option.map_eq_some_iff.1 info37
  have hsl := cut_from (P := Tryd.prog) 28 37 .i64 Tryd.underlying28 hi37 2 (congrArg (fun z => z.2.1) hsz37) (some ad) (q.length + 1) cq 1 (by omega) (by omega)
  rw [show (1 : Int).toNat = 1 from rfl, Nat.add_sub_cancel] at hsl
  have f1 := blk_frozen HI.out.bl 0
  simp only [List.length_cons] at z1
  clear hi37 hsz37
  have HIb := Aside0.mk (Lm.pop (Lm.below HI.out (below_alloc (RowKit.Below.refl _ W) (Obj.cells #[.int .i64 x.1, .int .i64 x.2] 37))))
  have BXb := Aside0.mk (blk_new W (Obj.cells #[.int .i64 x.1, .int .i64 x.2] 37))
  generalize hT : (if cq = 1 then some ad else (some ad).map (·.add (1 * 2))) = T at *
  have hxo : some W.heap.size ≠ u6.ownBlock := fun e => by
   obtain ⟨cells, hcc⟩ := Kd.R_typed HI.out.ho _ e.symm
   exact absurd (blk_lt hcc) (Nat.lt_irrefl _)
  have hhi : hi ≤ W.heap.size ∧ w.heap.size + 3 ≤ W.heap.size := ⟨HI.out.hil, Nat.le_trans HI.out.hi3 HI.out.hil⟩
  have HH := Aside0.mk hhi
  have HXO := Aside0.mk hxo
  clear hhi hxo hT
  go_upto_region 5 with fail
  have HI1 := Aside0.mk (Lm.below HI.out (below_alloc (RowKit.Below.refl _ W) (Obj.cells #[.int .i64 x.1, .int .i64 x.2] 37)))
  clear HI z1 f1 hx0' hx1'
  generalize W.alloc (Obj.cells #[.int .i64 x.1, .int .i64 x.2] 37) = W1 at *
  generalize W.heap.size = xb at *
  have z1 := blk_cell HI1.out.bl 0
  simp only [List.getElem?_toArray, List.getElem?_cons_zero, List.length_cons] at z1
  have f1 := blk_frozen HI1.out.bl 0
  go_upto_region 6 with fail
  have BX2 := Aside0.mk (blk_far BXb.out (show xb ≠ (⟨w.heap.size + 1, 0, none⟩ : Addr).block by have := HH.out.2; show xb ≠ w.heap.size + 1; omega) (.slice T q.length (cq - 1)))
  clear BXb HI1 z1 f1 hsl
  generalize W1.setCell ⟨w.heap.size + 1, 0, none⟩ (.slice T q.length (cq - 1)) = W2 at *
  have x0 : W2.cell? ⟨xb, 0, none⟩ = some (.int .i64 x.1) := blk_cell BX2.out 0
  have x1 : W2.cell? ⟨xb, 1, none⟩ = some (.int .i64 x.2) := blk_cell BX2.out 1
  by_cases hseen : x ∈ out
  ·have hlk := seen_has HIb.out.mp hseen hxr
   unfold keyV at hlk
   have HX2 := Aside0.mk (Fx.skip HX.out (.inl hseen))
   clear hseen
   go_wp2
   exact ⟨k, Nat.lt_succ_self k, u6, out, q, T, cq - 1, ds, hi, _, _, _, _, _, _, _, _, _, _, _, _, _, _, _, _, _, _, _, _, _, _, _, _, _, _, _, _, _, _, _, _, _, _, _, _, _, _, _, _, _, _, _, _, _, _, _, _, _, rfl, HX2, HIb⟩
  ·have hlk := seen_not HIb.out.mp hseen hxr
   unfold keyV at hlk
   obtain ⟨z0, z1, z2, z3, z4⟩ := five5 HIb.out.bg
   have his := is_is (l0 := l0) (l1 := l1) HF.out x.1 x.2
   have HSEEN := Aside0.mk hseen
   have HXR := Aside0.mk hxr
   have cb (W' : World) (hb : RowKit.Below W2.heap.size W2 W') : RowKit.Below w.heap.size w W' := below_step HIb.out.hb hb
   clear hseen hxr
   cases hI : isI (gr st l3) (x.1, x.2) with
   | false =>
    rw [hI] at his
    have HX2 := Aside0.mk (Fx.skip HX.out (.inr hI))
    clear hI
    go_wp2_with (go_at_call 65; refine (states_is.calls _ _ l0 _ _ l1 _ _ l2 _ _ l3 st x.1 x.2 false _ (Kd.C_below HR0.out HIb.out.hb) HC0.out (Kd.C_below HR1.out HIb.out.hb) HC1.out (Kd.C_below HR2.out HIb.out.hb) HC2.out (Kd.C_below HR3.out HIb.out.hb) HC3.out his).mono ?_; rintro e w5 ⟨rfl, hb⟩; have HI5 := Aside0.mk (Lm.below HIb.out hb); clear hb)
    exact ⟨k, Nat.lt_succ_self k, u6, out, q, T, cq - 1, ds, hi, _, _, _, _, _, _, _, _, _, _, _, _, _, _, _, _, _, _, _, _, _, _, _, _, _, _, _, _, _, _, _, _, _, _, _, _, _, _, _, _, _, _, _, _, _, _, _, _, _, rfl, HX2, HI5⟩
   | true =>
    rw [hI] at his
    have HIT := Aside0.mk hI
    clear hI
    go_upto_region 7 with (go_at_call 65; refine (states_is.calls _ _ l0 _ _ l1 _ _ l2 _ _ l3 st x.1 x.2 true _ (Kd.C_below HR0.out HIb.out.hb) HC0.out (Kd.C_below HR1.out HIb.out.hb) HC1.out (Kd.C_below HR2.out HIb.out.hb) HC2.out (Kd.C_below HR3.out HIb.out.hb) HC3.out his).mono ?_; rintro e w5 ⟨rfl, hb⟩; have HI5 := Aside0.mk (Lm.below HIb.out hb); have BX5 := Aside0.mk (blk_below BX2.out hb); clear hb)
    clear z0 z1 z2 z3 z4 x0 x1 HIb BX2 hlk cb his
    have x0 : w5.cell? ⟨xb, 0, none⟩ = some (.int .i64 x.1) := blk_cell BX5.out 0
    have x1 : w5.cell? ⟨xb, 1, none⟩ = some (.int .i64 x.2) := blk_cell BX5.out 1
    obtain ⟨hmu, hmp⟩ := seen_put HI5.out.mp HSEEN.out HXR.out
    have HI6 := Aside0.mk (Lm.put HI5.out hmp)
    have BX6 := Aside0.mk (((Mp.put_heap w5 (w.heap.size + 1 + 1) (keyV x) (.bool true)).2 xb (by have := HH.out.2; omega)).trans BX5.out)
    unfold keyV at hmu HI6 BX6
    clear hmp
    go_upto_region 8 with fail
    clear hmu x0 x1 HI5 BX5
    generalize Mp.put w5 (w.heap.size + 1 + 1) (.agg #[.int .i64 x.1, .int .i64 x.2]) (.bool true) = W6 at *
    have x0 : W6.cell? ⟨xb, 0, none⟩ = some (.int .i64 x.1) := blk_cell BX6.out 0
    have x1 : W6.cell? ⟨xb, 1, none⟩ = some (.int .i64 x.2) := blk_cell BX6.out 1
    have HLEN := Aside0.mk (show (out.map ofI).length ≤ 1189003 by rw [List.length_map]; have := HX.out.small; have := HB.out.1; omega)
    have HXN := Aside0.mk (Fx.on HFEW.out HX.out HSEEN.out HIT.out)
    go_upto_region 9 with (first | ((with_reducible refine gate_builtin (b := .append) (xs := #[.tmp 31, .tmp 33]) rfl ?_); at_builtin; refine Kd.R_append k37 (w0 := W6) (w.heap.size + 3) rfl (.tmp 31) (.tmp 33) 28 37 (.agg #[(.int .i64 0), (.int .i64 0)]) 16 rfl Tryd.underlying28 info37 rfl (by decide) (by omega) u6 _ (⟨x.1, x.2⟩ : S37) [.int .i64 x.1, .int .i64 x.2] (fun k => w.heap.size + 3 ≤ k) (fun _ => False) rfl rfl ?aP (fun _ hk => hk.elim) ?aF HI6.out.ho (RowKit.Below.refl _ _) (Nat.le_trans HI6.out.hi3 HI6.out.hil) ?aL ?_; (case aP => exact k37_mkM _ _ _ (⟨x.1, x.2⟩ : S37)); (case aF => exact (fun k hk => Nat.le_trans (Nat.le_trans HI6.out.hi3 HI6.out.hil) hk)); (case aL => have := HLEN.out; omega); intro v7 w7 ho hb hg hat; have HI7 := Aside0.mk (Lm.app (x := x) HI6.out ho hg hat); have BX7 := Aside0.mk ((hg.block xb (blk_lt BX6.out) HXO.out).trans BX6.out); clear ho hb hg hat))
    clear x0 x1 HI6 BX6 HXO HLEN
    have x0 : w7.cell? ⟨xb, 0, none⟩ = some (.int .i64 x.1) := blk_cell BX7.out 0
    have x1 : w7.cell? ⟨xb, 1, none⟩ = some (.int .i64 x.2) := blk_cell BX7.out 1
    obtain ⟨z0, z1, z2, z3, z4⟩ := five5 HI7.out.bg
    have hbeh := behind_is (l0 := l0) (l1 := l1) HF.out x.1 x.2
    cases hb : behindL (gr st l3) (x.1, x.2) with
    | none =>
     rw [hb] at hbeh
     simp only at hbeh
     have hnx : q ++ nexts (gr st l3) x = q := by rw [nexts_none _ x (fun s hs => by rw [show x = (x.1, x.2) from rfl, hb] at hs; cases hs), List.append_nil]
     have HX8 := Aside0.mk (hnx ▸ HXN.out)
     clear hb hnx HXN
     go_wp2_with (go_at_call 35; refine (states_behind.calls _ _ l0 _ _ l1 _ _ l2 _ _ l3 st x.1 x.2 0 false _ (Kd.C_below HR0.out HI7.out.hb) HC0.out (Kd.C_below HR1.out HI7.out.hb) HC1.out (Kd.C_below HR2.out HI7.out.hb) HC2.out (Kd.C_below HR3.out HI7.out.hb) HC3.out hbeh).mono ?_; rintro e w8 ⟨rfl, hb⟩; have HI8 := Aside0.mk (Lm.below HI7.out hb); clear hb)
     exact ⟨k, Nat.lt_succ_self k, v7, out ++ [x], q, T, cq - 1, ds, hi, _, _, _, _, _, _, _, _, _, _, _, _, _, _, _, _, _, _, _, _, _, _, _, _, _, _, _, _, _, _, _, _, _, _, _, _, _, _, _, _, _, _, _, _, _, _, _, _, _, rfl, HX8, HI8⟩
    | some t =>
     rw [hb] at hbeh
     simp only at hbeh
     have hrg := behind_rng HF.out HSY.out hb
     by_cases hts : t < 0
     ·have hnx : nexts (gr st l3) x = ofSort (gr st l3) (-1 - t) l3.length := by rw [nexts_ofSort _ x t hb hts, gr_len]
      have HXN2 := Aside0.mk (hnx ▸ HXN.out)
      have hltb : decide (t < 0) = true := decide_eq_true hts
      have hw1 : IntKind.i64.wrap ((-1) - t) = -1 - t := IntWalk.i64_in _ (by omega)
      clear hb hnx HXN hrg
      go_upto_region 11 with (go_at_call 35; refine (states_behind.calls _ _ l0 _ _ l1 _ _ l2 _ _ l3 st x.1 x.2 t true _ (Kd.C_below HR0.out HI7.out.hb) HC0.out (Kd.C_below HR1.out HI7.out.hb) HC1.out (Kd.C_below HR2.out HI7.out.hb) HC2.out (Kd.C_below HR3.out HI7.out.hb) HC3.out hbeh).mono ?_; rintro e w8 ⟨rfl, hb⟩; have HI8 := Aside0.mk (Lm.below HI7.out hb); clear hb)
      clear x0 x1 z0 z1 z2 z3 z4 hbeh HI7 BX7
      have hcl := clone_calls T (cq - 1) (q.map ofI) w8 (by rw [List.length_map]; exact HI8.out.hq) (by rw [List.length_map]; have := HXN2.out.qlen; have := HB.out.2; rw [List.length_append] at *; omega)
      rw [List.length_map] at hcl
      have z1 := blk_cell HI8.out.bl 0
      simp only [List.getElem?_toArray, List.getElem?_cons_zero] at z1
      have f1 := blk_frozen HI8.out.bl 0
      go_upto_region 12 with (go_at_call 66; refine hcl.mono ?_; rintro e w9 ⟨v9, rfl, hR, hb⟩; have HB9 := Aside0.mk hb; obtain ⟨A9, c9, e9⟩ := Kd.R_slice hR; rw [List.length_map] at e9; subst e9; have HR9 := Aside0.mk hR; clear hR; have f1 := blk_frozen (blk_below HI8.out.bl hb) 0; have z9 : w9.cell? ⟨w.heap.size + 1, 0, none⟩ = some (.slice T q.length (cq - 1)) := blk_cell (blk_below HI8.out.bl hb) 0; clear hb)
      clear z1 f1 z9 hcl
      have hsz8 : w.heap.size + 3 ≤ w8.heap.size := Nat.le_trans HI8.out.hi3 HI8.out.hil
      have hrd := Kd.R_reads' HR9.out
      have HI9 := Aside0.mk (Lm.turn (Lm.below HI8.out HB9.out) (q' := q) (T := A9) (c' := c9) hrd.2.1 (by have h := hrd.2.2; rw [List.length_map] at h; exact h) (fun hq ad' e' => by
       have hb1 : (Value.slice A9 q.length c9).ownBlock = some ad'.block := by rw [e']; rfl
       have h1 := Kd.R_base HR9.out _ hb1
       refine ⟨Kd.R_lt HR9.out _ hb1, .inr (by omega), fun e'' => ?_⟩
       have h2 := Kd.R_lt HI8.out.ho _ e''.symm
       omega))
      have HO9 := Aside0.mk (Kd.R_far HR9.out (p := ⟨w.heap.size + 1, 0, none⟩) (fun k hk => by show k ≠ w.heap.size + 1; omega) (.slice A9 q.length c9))
      have HS9 := Aside0.mk (show w8.heap.size ≤ (w9.setCell ⟨w.heap.size + 1, 0, none⟩ (.slice A9 q.length c9)).heap.size by rw [World.size_setCell]; exact HB9.out.size)
      have HV7 := Aside0.mk (Kd.R_lt HI8.out.ho)
      have HI8s := Aside0.mk (And.intro HI8.out.hil hsz8)
      clear hrd hsz8 HR9 HB9 HI8
      generalize w9.setCell ⟨w.heap.size + 1, 0, none⟩ (.slice A9 q.length c9) = W9 at *
      generalize w8.heap.size = Bc at *
      obtain ⟨z0, z1, z2, z3, z4⟩ := five5 HI9.out.bg
      go_wp2_with (go_at_call 67; refine (begins_calls #[] rfl _ _ _ _ _ _ _ _ _ _ _ _ _ _ _).mono ?_; rintro e w10 ⟨rfl, rfl⟩)
      clear z0 z1 z2 z3 z4 f1
      have hsz0 : ((W9.alloc (Obj.cells #[.slice A0 l0.length c0, .slice A1 l1.length c1, .slice A2 l2.length c2, .slice A3 l3.length c3, .int .i64 st] 27)).alloc (Obj.cells #[.int .i64 (-1 - t)] 3)).heap.size = W9.heap.size + 2 := by simp
      have bN : Boxed ((W9.alloc (Obj.cells #[.slice A0 l0.length c0, .slice A1 l1.length c1, .slice A2 l2.length c2, .slice A3 l3.length c3, .int .i64 st] 27)).alloc (Obj.cells #[.int .i64 (-1 - t)] 3)) (W9.heap.size + 1) 3 (.int .i64 (-1 - t)) := by
       have h := Boxed.new (W9.alloc (Obj.cells #[.slice A0 l0.length c0, .slice A1 l1.length c1, .slice A2 l2.length c2, .slice A3 l3.length c3, .int .i64 st] 27)) 3 (.int .i64 (-1 - t))
       rw [World.size_alloc] at h
       exact h
      have hlt7 : ∀ k, v7.ownBlock = some k → k < W9.heap.size + 1 := fun k hk => by have := HV7.out k hk; have := HS9.out; omega
      have hhas : Has w #[.slice A0 l0.length c0, .slice A1 l1.length c1, .slice A2 l2.length c2, .slice A3 l3.length c3, .int .i64 st] hi (out ++ [x]) (out ++ [x]) q v7 ds Bc W9.heap.size [] ((W9.alloc (Obj.cells #[.slice A0 l0.length c0, .slice A1 l1.length c1, .slice A2 l2.length c2, .slice A3 l3.length c3, .int .i64 st] 27)).alloc (Obj.cells #[.int .i64 (-1 - t)] 3)) := by
       refine ⟨⟨A9, c9, ?_, ?_, ?_⟩, blk_alloc (blk_new W9 _) _, fun e => Nat.lt_irrefl _ (hlt7 _ e.symm), HV7.out, HI8s.out.1, HS9.out, Nat.le_of_eq hsz0.symm⟩
       ·rw [List.append_nil]
        exact Lm.below HI9.out (below_alloc (below_alloc (RowKit.Below.refl _ W9) _) _)
       ·rw [List.append_nil]
        exact own_of_R2 (Kd.R_alloc (Kd.R_alloc HO9.out _) _)
       ·rw [List.append_nil]
        exact fun e => by have := Kd.R_lt HO9.out _ e; omega
      refine (wpIn_wide (n := 4)).1 ?_
      obtain ⟨j37, hj37, hz0, hz1, hz2⟩ := info_parts info37
      refine range_box (F := Fence.wide) (n := 4) rfl (by omega) (gf := 85) (lb := #[.pointer (some ⟨W9.heap.size, 0, none⟩), .pointer (some ⟨W9.heap.size + 1, 0, none⟩)]) rfl trivial (enters_of Tryd.func85 (by kernel_rfl) rfl)
       (b := W9.heap.size + 1) (t := 3) (by rw [hsz0]; omega) (begins1 3 (by omega) A0 c0 l0.length A1 c1 l1.length A2 c2 l2.length A3 c3 l3 st W9.heap.size (W9.heap.size + 1) (-1 - t) HF.out.few _ bN) (fun _ => rfl)
       (Has w #[.slice A0 l0.length c0, .slice A1 l1.length c1, .slice A2 l2.length c2, .slice A3 l3.length c3, .int .i64 st] hi (out ++ [x]) (out ++ [x]) q v7 ds Bc W9.heap.size) (has_bears (Nat.le_of_eq hsz0.symm)) (fun s W h => ?gg)
       hhas (fun y g => { tmps := #[.agg #[.slice A0 l0.length c0, .slice A1 l1.length c1, .slice A2 l2.length c2, .slice A3 l3.length c3, .int .i64 st], .slice A l.length c, .pointer (some ⟨w.heap.size, 0, none⟩), .pointer (some ⟨w.heap.size + 1, 0, none⟩), .slice none 0 0, .map (some (w.heap.size + 1 + 1)), v7, .pointer (some ⟨xb, 0, none⟩), .int .i64 t, .bool true, .pointer (some ⟨g, 0, none⟩), .map (some (w.heap.size + 1 + 1)), .slice (some ad) (q.length + 1) cq, .int .i64 ((q.length : Int) + 1), .bool true, .slice (some ad) (q.length + 1) cq, .pointer (some ad), .agg #[.int .i64 x.1, .int .i64 x.2], .slice (some ad) (q.length + 1) cq, .slice T q.length (cq - 1), .map (some (w.heap.size + 1 + 1)), .agg #[.int .i64 x.1, .int .i64 x.2], .bool false, .bool false, .agg #[.slice A0 l0.length c0, .slice A1 l1.length c1, .slice A2 l2.length c2, .slice A3 l3.length c3, .int .i64 st], .agg #[.int .i64 x.1, .int .i64 x.2], .bool true, .bool false, .bool false, .map (some (w.heap.size + 1 + 1)), .agg #[.int .i64 x.1, .int .i64 x.2], u6, .agg #[.int .i64 x.1, .int .i64 x.2], .slice (some ⟨W6.heap.size, 0, none⟩) 1 1, v7, .tuple #[.int .i64 t, .bool true], .agg #[.slice A0 l0.length c0, .slice A1 l1.length c1, .slice A2 l2.length c2, .slice A3 l3.length c3, .int .i64 st], .agg #[.int .i64 x.1, .int .i64 x.2], .tuple #[.int .i64 t, .bool true], .int .i64 t, .bool true, .bool true, .bool true, .int .i64 t, .bool true, .bool true, .slice T q.length (cq - 1), .slice A9 q.length c9, .agg #[.slice A0 l0.length c0, .slice A1 l1.length c1, .slice A2 l2.length c2, .slice A3 l3.length c3, .int .i64 st], .int .i64 t, .int .i64 (-1 - t), .func (.func 85) #[] #[.pointer (some ⟨W9.heap.size, 0, none⟩), .pointer (some ⟨W9.heap.size + 1, 0, none⟩)], .agg #[.int .i64 y.1, .int .i64 y.2], u53, u54, u55, u56, undef, undef], defers := [] }) (fun y => .cells #[.int .i64 y.1, .int .i64 y.2] 37) (fun _ => rfl) ?assign ?body ?done
      case gg =>
       obtain ⟨A', c', hL, -, -⟩ := h.ex
       exact ⟨h.bx, Kd.C_below HR3.out hL.hb⟩
      case assign =>
       intro l y W K hK
       simp only [encY]
       gi_wp2
       exact hK
      case body =>
       rintro l pre y W g ⟨⟨A', c', hL, hO, hx⟩, hbx, hs, hcc, hhi, hgb, hlt⟩ hgw hgy hlen hbo
       have hqpe : ∃ qp, qp = q ++ pre := ⟨_, rfl⟩
       obtain ⟨qp, hqp⟩ := hqpe
       rw [← hqp] at hL hO hx
       have HQP := Aside0.mk hqp
       have zL := blk_cell hL.bl 0
       simp only [List.getElem?_toArray, List.getElem?_cons_zero] at zL
       have fL := blk_frozen hL.bl 0
       have y0 : W.cell? ⟨g, 0, none⟩ = some (.int .i64 y.1) := blk_cell hgy 0
       have y1 : W.cell? ⟨g, 1, none⟩ = some (.int .i64 y.2) := blk_cell hgy 1
       have hmax : qp.length ≤ 144000000 := by
        have := HXN2.out.qlen; have := HB.out.2
        rw [hqp, List.length_append]; rw [List.length_append] at *; omega
       clear hqp
       gi_wp2_with (gi_at_builtin; refine wpListIn_append_own _ rfl _ _ 28 rfl Bc 37 j37 (.agg #[(.int .i64 0), (.int .i64 0)]) 2 16 Tryd.underlying28 hj37 hz0 hz1 hz2 rfl (by decide) _ _ _ rfl (hO.alloc _) ⟨W.heap.size, 0, none⟩ 1 1 [.int .i64 y.1, .int .i64 y.2] rfl rfl (cell_two_new _ _ _ _) (by simp [Value.oneCell']) (by unfold maxLen; omega) (by omega) (by rw [World.size_alloc]; omega) ?_; intro v' w1 hown' hgrow _; obtain ⟨g', cap', rfl⟩ := ownsRow_succ hown'; obtain ⟨hA1, hA2, hA3, hA4⟩ := Has.app HQP.out hL hO hbx hs hcc hhi hgb hlt hbo y hown' hgrow; have HA1 := Aside0.mk hA1; have HA2 := Aside0.mk hA2; have HA3 := Aside0.mk hA3; have hc1 := hA4.cell; have hf1 := hA4.frozen; clear hA1 hA2 hA3)
       exact ⟨HA2.out _, HA3.out, HA1.out⟩
      case done =>
       rintro D W hD ⟨⟨A', c', hL, hO, hx⟩, hbx, hs, hcc, hhi, hgb, hlt⟩ hK
       rw [hsz0] at hD
       have h1 := HI8s.out; have h2 := HS9.out
       exact ⟨k, Nat.lt_succ_self k, v7, out ++ [x], _, A', c', _, D + 1, _, _, _, _, _, _, _, _, _, _, _, _, _, _, _, _, _, _, _, _, _, _, _, _, _, _, _, _, _, _, _, _, _, _, _, _, _, _, _, _, _, _, _, _, _, _, _, _, _, rfl, HXN2, ⟨⟨hL.hb, hL.bg, hL.bl, hL.qc, hL.hq, hL.mp, hL.ho, hL.ne, hL.mks.cons (by omega) (by omega) hK, blk_lt hK, by omega⟩⟩⟩
     ·have hnx : q ++ nexts (gr st l3) x = q := by rw [nexts_none _ x (fun s hs => by rw [show x = (x.1, x.2) from rfl, hb] at hs; cases hs; exact hts), List.append_nil]
      have HX8 := Aside0.mk (hnx ▸ HXN.out)
      have hltb : decide (t < 0) = false := decide_eq_false hts
      clear hb hnx HXN
      go_wp2_with (go_at_call 35; refine (states_behind.calls _ _ l0 _ _ l1 _ _ l2 _ _ l3 st x.1 x.2 t true _ (Kd.C_below HR0.out HI7.out.hb) HC0.out (Kd.C_below HR1.out HI7.out.hb) HC1.out (Kd.C_below HR2.out HI7.out.hb) HC2.out (Kd.C_below HR3.out HI7.out.hb) HC3.out hbeh).mono ?_; rintro e w8 ⟨rfl, hb⟩; have HI8 := Aside0.mk (Lm.below HI7.out hb); clear hb)
      exact ⟨k, Nat.lt_succ_self k, v7, out ++ [x], q, T, cq - 1, ds, hi, _, _, _, _, _, _, _, _, _, _, _, _, _, _, _, _, _, _, _, _, _, _, _, _, _, _, _, _, _, _, _, _, _, _, _, _, _, _, _, _, _, _, _, _, _, _, _, _, _, rfl, HX8, HI8⟩

/-- What states.closed answers: for items that may be. -/
def okI (x : S37) : Bool := decide ((-9223372036854775808 ≤ x.f0 ∧ x.f0 ≤ 9223372036854775807) ∧ (-9223372036854775808 ≤ x.f1 ∧ x.f1 ≤ 9223372036854775807))
def okP (p : S64) : Bool := p.f2.all fun s => decide (-9223372036854775808 ≤ s)
def states_closed.f (l0 : List S82) (l1 : List S101) (l2 : List ByteArray) (l3 : List S64) (st : Int) (l : List S37) : Option (List S37) :=
 if validB l0 l1 l2 l3 st = true ∧ l3.all okP = true ∧ l.length ≤ 1000000 ∧ l.all okI = true then some ((risen (closedL (gr st l3) (l.map toI))).map ofI) else none
theorem states_closed.calls (A0 : Option Addr) (c0 : Nat) (l0 : List S82) (A1 : Option Addr) (c1 : Nat) (l1 : List S101) (A2 : Option Addr) (c2 : Nat) (l2 : List ByteArray) (A3 : Option Addr) (c3 : Nat) (l3 : List S64) (st : Int) (A : Option Addr) (c : Nat) (l : List S37) (r : List S37) (w : World)
  (hr0 : Kd.C k82 w A0 l0.length l0) (hc0 : l0.length ≤ c0) (hr1 : Kd.C k101 w A1 l1.length l1) (hc1 : l1.length ≤ c1) (hr2 : Kd.C Kd.string w A2 l2.length l2) (hc2 : l2.length ≤ c2) (hr3 : Kd.C k64 w A3 l3.length l3) (hc3 : l3.length ≤ c3) (hr : Kd.C k37 w A l.length l) (hc : l.length ≤ c)
  (h : states_closed.f l0 l1 l2 l3 st l = some r) :
  Calls Tryd.prog 38 #[.agg #[.slice A0 l0.length c0, .slice A1 l1.length c1, .slice A2 l2.length c2, .slice A3 l3.length c3, .int .i64 st], .slice A l.length c] w fun e w' => ∃ v0_ : Value, e = .returned (v0_) ∧ Kd.R k37 37 w' w.heap.size (fun _ => True) v0_ r ∧ Below w.heap.size w w' := by
 unfold states_closed.f at h
 split at h
 ·rename_i hv
  obtain ⟨hv, h3, hl, ho⟩ := hv
  obtain rfl := Option.some.inj h
  refine callsIn_wide.1 (closed_in A0 c0 l0 A1 c1 l1 A2 c2 l2 A3 c3 l3 st A c l w hr0 hc0 hr1 hc1 hr2 hc2 hr3 hc3 hr hc (fits_of hv) (fun p hp s hs => ?_) hl (fun x hx => ?_))
  ·have h1 := List.all_eq_true.1 h3 p hp
   unfold okP at h1
   exact of_decide_eq_true (List.all_eq_true.1 h1 s hs)
  ·have h1 := List.all_eq_true.1 ho x hx
   unfold okI at h1
   have h2 := of_decide_eq_true h1
   exact h2
 ·cases h

end Go.Proofs.YtclollnicbcooaaDoor.P
end

section
namespace Go.Proofs.YtclollnicbcooaaDoor.P
open Go.RowKit Go.Proofs.YtclollnicbcooaaDoorW.PrintWords Go.Proofs.YtclollnicbcooaaDoorW.PrintLast Go.Proofs.YtclollnicbcooaaDoorW.PrintMore
attribute [local go_sem] max2_int min2_int max_two min_two max_three min_three max_four min_four

/-! ### cmp_Or_int: function 93 -/
def cmp_Or_int.l0 : Nat → Int → List Int → Int → Int → Option (Int)
 | 0, _, _, _, _ => none
 | k + 1, x3, x6, x7, x8 => if x8 < x7 then (if 0 ≤ x8 then (if x8 < (x6.length : Int) then (if (rd x6 x8) = x3 then (cmp_Or_int.l0 k x3 x6 x7 (wrap64 (x8 + 1))) else (some (rd x6 x8))) else (none)) else (none)) else (some x3)
def cmp_Or_int.f (k : Nat) (l0 : List Int) : Option (Int) := cmp_Or_int.l0 k 0 l0 (l0.length : Int) 0
/-! ### cmp_isNaN_int: function 109 -/
def cmp_isNaN_int.f (a0 : Int) : Option (Bool) := some (a0 != a0)
/-! ### cmp_Compare_int: function 94 -/
def cmp_Compare_int.f (a0 : Int) (a1 : Int) : Option (Int) := (cmp_isNaN_int.f a0).bind fun t126 => ((cmp_isNaN_int.f a1).bind fun t127 => (if t126 = true then (if t127 = true then (some 0) else (some (-1))) else (if t127 = true then (some 1) else (if a0 < a1 then (some (-1)) else (if a0 > a1 then (some 1) else (some 0))))))
/-! ### states_Close: function 18 -/
def states_Close.f (l0_0 : List (S82)) (l0_1 : List (S101)) (l0_2 : List ByteArray) (l0_3 : List (S64)) (a0_4 : Int) (l1 : List (S37)) : Option ((List (S37))) := (inst_Valid.f l0_0 l0_1 l0_2 l0_3 a0_4).bind fun t143 => (if t143 = true then ((states_closed.f l0_0 l0_1 l0_2 l0_3 a0_4 l1).bind fun t144 => (some t144)) else (some ([] : List (S37))))
set_option maxHeartbeats 8000000 in
set_option maxRecDepth 100000 in
theorem states_Close.calls (A0_0 : Option Addr) (c0_0 : Nat) (l0_0 : List (S82)) (A0_1 : Option Addr) (c0_1 : Nat) (l0_1 : List (S101)) (A0_2 : Option Addr) (c0_2 : Nat) (l0_2 : List ByteArray) (A0_3 : Option Addr) (c0_3 : Nat) (l0_3 : List (S64)) (a0_4 : Int) (A1 : Option Addr) (c1 : Nat) (l1 : List (S37)) (r : List (S37)) (w : World) (hr0_0 : Kd.C k82 w A0_0 l0_0.length l0_0) (hc0_0 : l0_0.length ≤ c0_0) (hr0_1 : Kd.C k101 w A0_1 l0_1.length l0_1) (hc0_1 : l0_1.length ≤ c0_1) (hr0_2 : Kd.C Kd.string w A0_2 l0_2.length l0_2) (hc0_2 : l0_2.length ≤ c0_2) (hr0_3 : Kd.C k64 w A0_3 l0_3.length l0_3) (hc0_3 : l0_3.length ≤ c0_3) (hr1 : Kd.C k37 w A1 l1.length l1) (hc1 : l1.length ≤ c1) (h : states_Close.f l0_0 l0_1 l0_2 l0_3 a0_4 l1 = some r) :
  Calls Tryd.prog 18 #[.agg #[.slice A0_0 l0_0.length c0_0, .slice A0_1 l0_1.length c0_1, .slice A0_2 l0_2.length c0_2, .slice A0_3 l0_3.length c0_3, .int .i64 a0_4], .slice A1 l1.length c1] w fun e w' => ∃ v0_ : Value, e = .returned (v0_) ∧ Kd.R k37 37 w' w.heap.size (fun _ => True) v0_ r ∧ Below w.heap.size w w' := by
 have hu27 := Tryd.underlying27
 have HR0_0 := jM hr0_0
 have HC0_0 := jM hc0_0
 clear hr0_0 hc0_0
 have HR0_1 := jM hr0_1
 have HC0_1 := jM hc0_1
 clear hr0_1 hc0_1
 have HR0_2 := jM hr0_2
 have HC0_2 := jM hc0_2
 clear hr0_2 hc0_2
 have HR0_3 := jM hr0_3
 have HC0_3 := jM hc0_3
 clear hr0_3 hc0_3
 have HR1 := jM hr1
 have HC1 := jM hc1
 clear hr1 hc1
 have HB := jM (Below.refl w.heap.size w)
 have H : ((inst_Valid.f l0_0 l0_1 l0_2 l0_3 a0_4).bind fun t143 => (if t143 = true then ((states_closed.f l0_0 l0_1 l0_2 l0_3 a0_4 l1).bind fun t144 => (some t144)) else (some ([] : List (S37))))) = some r := h
 clear h
 replace H := Option.bind_eq_some_iff.mp H
 obtain ⟨t143, A30, H⟩ := H
 replace H : (if t143 = true then ((states_closed.f l0_0 l0_1 l0_2 l0_3 a0_4 l1).bind fun t144 => (some t144)) else (some ([] : List (S37)))) = some r := H
 have A3 := jM A30
 clear A30
 by_cases c4 : t143 = true
 ·subst c4
  have H1 : ((states_closed.f l0_0 l0_1 l0_2 l0_3 a0_4 l1).bind fun t144 => (some t144)) = some r := by rw [if_pos rfl] at H; exact H
  clear H
  have H := H1
  clear H1
  replace H := Option.bind_eq_some_iff.mp H
  obtain ⟨t144, A50, H⟩ := H
  replace H : (some t144) = some r := H
  have A5 := jM A50
  clear A50
  obtain rfl := Option.some.inj H
  go_enter Tryd.func18, Tryd.ntmps18
  go_wp2_with (first | ((with_reducible refine gate_dst (N := 2) rfl ?_); refine box_event ?hg (N := 2) ?hd (cs := #[.slice A0_0 l0_0.length c0_0, .slice A0_1 l0_1.length c0_1, .slice A0_2 l0_2.length c0_2, .slice A0_3 l0_3.length c0_3, .int .i64 a0_4]) (t := 27) ?hr ?_; (case hd => rfl); (case hg => rfl); (case hr => first | (go_simp; done) | (go_simp; rfl)); intro gb142 hg w6 hbox hb; have n0_ := jM (jT (by repeat (first | (with_reducible first | exact HB.out | apply jA | apply jN | apply jD) | exact HB.out)) hb); have n1_ := jM (hbox); have n2_ := jM ((by rw [hg]; exact (below_size (by repeat (first | (with_reducible first | exact HB.out | apply jA | apply jN | apply jD) | exact HB.out))) : w.heap.size ≤ gb142)); have n3_ := jM ((by rw [hg]; exact (below_size (by repeat (first | (with_reducible first | exact HB.out | apply jA | apply jN | apply jD) | exact HB.out))) : w.heap.size ≤ gb142)); clear HB; have HB := n0_; have BK142 := n1_; have GW142 := n2_; have GE142 := n3_; clear n0_ n1_ n2_ n3_; clear hb hbox hg; have hcz7_0 : w6.cell? ⟨gb142, 0, none⟩ = some (.slice A0_0 l0_0.length c0_0) := (jC BK142.out 0).trans rfl; have hcz7_1 : w6.cell? ⟨gb142, 1, none⟩ = some (.slice A0_1 l0_1.length c0_1) := (jC BK142.out 1).trans rfl; have hcz7_2 : w6.cell? ⟨gb142, 2, none⟩ = some (.slice A0_2 l0_2.length c0_2) := (jC BK142.out 2).trans rfl; have hcz7_3 : w6.cell? ⟨gb142, 3, none⟩ = some (.slice A0_3 l0_3.length c0_3) := (jC BK142.out 3).trans rfl; have hcz7_4 : w6.cell? ⟨gb142, 4, none⟩ = some (.int .i64 a0_4) := (jC BK142.out 4).trans rfl; have hfz7_0 := jF BK142.out 0; have hfz7_1 := jF BK142.out 1; have hfz7_2 := jF BK142.out 2; have hfz7_3 := jF BK142.out 3; have hfz7_4 := jF BK142.out 4) | ((with_reducible refine gate_callee (f := 34) rfl ?_); refine goesL_ (some 6) rfl rfl Tryd.func34 (by kernel_rfl) rfl #[.agg #[.slice A0_0 l0_0.length c0_0, .slice A0_1 l0_1.length c0_1, .slice A0_2 l0_2.length c0_2, .slice A0_3 l0_3.length c0_3, .int .i64 a0_4]] rfl (by (try simp only [List.map_toArray, List.map_cons, List.map_nil]); first | done | rfl | (simp only [List.length_drop, List.length_take]; rfl)) ?_; (with_reducible refine (inst_Valid.calls _ _ l0_0 _ _ l0_1 _ _ l0_2 _ _ l0_3 a0_4 true _ ?side1 ?side2 ?side3 ?side4 ?side5 ?side6 ?side7 ?side8 A3.out).mono ?_); (case side1 => repeat (first | exact (jB HR0_0.out HB.out) | (with_reducible refine Kd.C_alloc ?_ _) | (with_reducible refine Kd.C_drewN ?_ _) | (with_reducible refine Kd.C_drew ?_))); (case side2 => exact HC0_0.out); (case side3 => repeat (first | exact (jB HR0_1.out HB.out) | (with_reducible refine Kd.C_alloc ?_ _) | (with_reducible refine Kd.C_drewN ?_ _) | (with_reducible refine Kd.C_drew ?_))); (case side4 => exact HC0_1.out); (case side5 => repeat (first | exact (jB HR0_2.out HB.out) | (with_reducible refine Kd.C_alloc ?_ _) | (with_reducible refine Kd.C_drewN ?_ _) | (with_reducible refine Kd.C_drew ?_))); (case side6 => exact HC0_2.out); (case side7 => repeat (first | exact (jB HR0_3.out HB.out) | (with_reducible refine Kd.C_alloc ?_ _) | (with_reducible refine Kd.C_drewN ?_ _) | (with_reducible refine Kd.C_drew ?_))); (case side8 => exact HC0_3.out); rintro e w8 ⟨rfl, hb⟩; refine ⟨_, rfl, ?_⟩; have n0_ := jM (jW (g := gb142) (o := .cells #[.slice A0_0 l0_0.length c0_0, .slice A0_1 l0_1.length c0_1, .slice A0_2 l0_2.length c0_2, .slice A0_3 l0_3.length c0_3, .int .i64 a0_4] 27 (0, 0)) (by (with_reducible repeat (first | refine jY ?_ _ | refine jZ ?_ | refine jX ?_ _)); exact BK142.out) hb); have n1_ := jM (jT (by repeat (first | (with_reducible first | exact HB.out | apply jA | apply jN | apply jD | refine jS ?_ GE142.out) | exact HB.out)) hb); clear BK142; clear HB; have BK142 := n0_; have HB := n1_; clear n0_ n1_; (try clear hb); (try clear hb2); (try clear hk); (try clear hi); have hcz9_0 : w8.cell? ⟨gb142, 0, none⟩ = some (.slice A0_0 l0_0.length c0_0) := (jC BK142.out 0).trans rfl; have hcz9_1 : w8.cell? ⟨gb142, 1, none⟩ = some (.slice A0_1 l0_1.length c0_1) := (jC BK142.out 1).trans rfl; have hcz9_2 : w8.cell? ⟨gb142, 2, none⟩ = some (.slice A0_2 l0_2.length c0_2) := (jC BK142.out 2).trans rfl; have hcz9_3 : w8.cell? ⟨gb142, 3, none⟩ = some (.slice A0_3 l0_3.length c0_3) := (jC BK142.out 3).trans rfl; have hcz9_4 : w8.cell? ⟨gb142, 4, none⟩ = some (.int .i64 a0_4) := (jC BK142.out 4).trans rfl; have hfz9_0 := jF BK142.out 0; have hfz9_1 := jF BK142.out 1; have hfz9_2 := jF BK142.out 2; have hfz9_3 := jF BK142.out 3; have hfz9_4 := jF BK142.out 4) | ((with_reducible refine gate_callee (f := 38) rfl ?_); refine goesL_ (some 10) rfl rfl Tryd.func38 (by kernel_rfl) rfl #[.agg #[.slice A0_0 l0_0.length c0_0, .slice A0_1 l0_1.length c0_1, .slice A0_2 l0_2.length c0_2, .slice A0_3 l0_3.length c0_3, .int .i64 a0_4], .slice A1 l1.length c1] rfl (by (try simp only [List.map_toArray, List.map_cons, List.map_nil]); first | done | rfl | (simp only [List.length_drop, List.length_take]; rfl)) ?_; (with_reducible refine (states_closed.calls _ _ l0_0 _ _ l0_1 _ _ l0_2 _ _ l0_3 a0_4 _ _ l1 t144 _ ?side1 ?side2 ?side3 ?side4 ?side5 ?side6 ?side7 ?side8 ?side9 ?side10 A5.out).mono ?_); (case side1 => repeat (first | exact (jB HR0_0.out HB.out) | (with_reducible refine Kd.C_alloc ?_ _) | (with_reducible refine Kd.C_drewN ?_ _) | (with_reducible refine Kd.C_drew ?_))); (case side2 => exact HC0_0.out); (case side3 => repeat (first | exact (jB HR0_1.out HB.out) | (with_reducible refine Kd.C_alloc ?_ _) | (with_reducible refine Kd.C_drewN ?_ _) | (with_reducible refine Kd.C_drew ?_))); (case side4 => exact HC0_1.out); (case side5 => repeat (first | exact (jB HR0_2.out HB.out) | (with_reducible refine Kd.C_alloc ?_ _) | (with_reducible refine Kd.C_drewN ?_ _) | (with_reducible refine Kd.C_drew ?_))); (case side6 => exact HC0_2.out); (case side7 => repeat (first | exact (jB HR0_3.out HB.out) | (with_reducible refine Kd.C_alloc ?_ _) | (with_reducible refine Kd.C_drewN ?_ _) | (with_reducible refine Kd.C_drew ?_))); (case side8 => exact HC0_3.out); (case side9 => repeat (first | exact (jB HR1.out HB.out) | (with_reducible refine Kd.C_alloc ?_ _) | (with_reducible refine Kd.C_drewN ?_ _) | (with_reducible refine Kd.C_drew ?_))); (case side10 => exact HC1.out); rintro e w10 ⟨v145, rfl, ho0, hb⟩; refine ⟨_, rfl, ?_⟩; have n0_ := jM (Kd.R_lower ho0 (below_size (by repeat (first | (with_reducible first | exact HB.out | apply jA | apply jN | apply jD | refine jS ?_ GE142.out) | exact HB.out)))); have n1_ := jM (jW (g := gb142) (o := .cells #[.slice A0_0 l0_0.length c0_0, .slice A0_1 l0_1.length c0_1, .slice A0_2 l0_2.length c0_2, .slice A0_3 l0_3.length c0_3, .int .i64 a0_4] 27 (0, 0)) (by (with_reducible repeat (first | refine jY ?_ _ | refine jZ ?_ | refine jX ?_ _)); exact BK142.out) hb); have n2_ := jM (jT (by repeat (first | (with_reducible first | exact HB.out | apply jA | apply jN | apply jD | refine jS ?_ GE142.out) | exact HB.out)) hb); clear BK142; clear HB; have HO146 := n0_; have BK142 := n1_; have HB := n2_; clear n0_ n1_ n2_; (try clear hb); (try clear hb2); (try clear hk); (try clear hi); (try clear ho0)))
  go_ret
  exact ⟨_, by first | rfl | (simp [errW_none, errW_some] <;> rfl) | (simp [*, errW_none, errW_some] <;> rfl), by (with_reducible repeat (first | apply Kd.R_alloc | apply Kd.R_drewN | apply Kd.R_drew)); exact HO146.out, by repeat (first | (with_reducible first | exact HB.out | apply jA | apply jN | apply jD | refine jS ?_ GE142.out) | exact HB.out)⟩
 ·replace c4 := Bool.eq_false_iff.mpr c4
  subst c4
  have H1 : (some ([] : List (S37))) = some r := by rw [if_neg (show ¬ (false = true) by decide)] at H; exact H
  clear H
  have H := H1
  clear H1
  obtain rfl := Option.some.inj H
  go_enter Tryd.func18, Tryd.ntmps18
  go_wp2_with (first | ((with_reducible refine gate_dst (N := 2) rfl ?_); refine box_event ?hg (N := 2) ?hd (cs := #[.slice A0_0 l0_0.length c0_0, .slice A0_1 l0_1.length c0_1, .slice A0_2 l0_2.length c0_2, .slice A0_3 l0_3.length c0_3, .int .i64 a0_4]) (t := 27) ?hr ?_; (case hd => rfl); (case hg => rfl); (case hr => first | (go_simp; done) | (go_simp; rfl)); intro gb142 hg w11 hbox hb; have n0_ := jM (jT (by repeat (first | (with_reducible first | exact HB.out | apply jA | apply jN | apply jD) | exact HB.out)) hb); have n1_ := jM (hbox); have n2_ := jM ((by rw [hg]; exact (below_size (by repeat (first | (with_reducible first | exact HB.out | apply jA | apply jN | apply jD) | exact HB.out))) : w.heap.size ≤ gb142)); have n3_ := jM ((by rw [hg]; exact (below_size (by repeat (first | (with_reducible first | exact HB.out | apply jA | apply jN | apply jD) | exact HB.out))) : w.heap.size ≤ gb142)); clear HB; have HB := n0_; have BK142 := n1_; have GW142 := n2_; have GE142 := n3_; clear n0_ n1_ n2_ n3_; clear hb hbox hg; have hcz12_0 : w11.cell? ⟨gb142, 0, none⟩ = some (.slice A0_0 l0_0.length c0_0) := (jC BK142.out 0).trans rfl; have hcz12_1 : w11.cell? ⟨gb142, 1, none⟩ = some (.slice A0_1 l0_1.length c0_1) := (jC BK142.out 1).trans rfl; have hcz12_2 : w11.cell? ⟨gb142, 2, none⟩ = some (.slice A0_2 l0_2.length c0_2) := (jC BK142.out 2).trans rfl; have hcz12_3 : w11.cell? ⟨gb142, 3, none⟩ = some (.slice A0_3 l0_3.length c0_3) := (jC BK142.out 3).trans rfl; have hcz12_4 : w11.cell? ⟨gb142, 4, none⟩ = some (.int .i64 a0_4) := (jC BK142.out 4).trans rfl; have hfz12_0 := jF BK142.out 0; have hfz12_1 := jF BK142.out 1; have hfz12_2 := jF BK142.out 2; have hfz12_3 := jF BK142.out 3; have hfz12_4 := jF BK142.out 4) | ((with_reducible refine gate_callee (f := 34) rfl ?_); refine goesL_ (some 6) rfl rfl Tryd.func34 (by kernel_rfl) rfl #[.agg #[.slice A0_0 l0_0.length c0_0, .slice A0_1 l0_1.length c0_1, .slice A0_2 l0_2.length c0_2, .slice A0_3 l0_3.length c0_3, .int .i64 a0_4]] rfl (by (try simp only [List.map_toArray, List.map_cons, List.map_nil]); first | done | rfl | (simp only [List.length_drop, List.length_take]; rfl)) ?_; (with_reducible refine (inst_Valid.calls _ _ l0_0 _ _ l0_1 _ _ l0_2 _ _ l0_3 a0_4 false _ ?side1 ?side2 ?side3 ?side4 ?side5 ?side6 ?side7 ?side8 A3.out).mono ?_); (case side1 => repeat (first | exact (jB HR0_0.out HB.out) | (with_reducible refine Kd.C_alloc ?_ _) | (with_reducible refine Kd.C_drewN ?_ _) | (with_reducible refine Kd.C_drew ?_))); (case side2 => exact HC0_0.out); (case side3 => repeat (first | exact (jB HR0_1.out HB.out) | (with_reducible refine Kd.C_alloc ?_ _) | (with_reducible refine Kd.C_drewN ?_ _) | (with_reducible refine Kd.C_drew ?_))); (case side4 => exact HC0_1.out); (case side5 => repeat (first | exact (jB HR0_2.out HB.out) | (with_reducible refine Kd.C_alloc ?_ _) | (with_reducible refine Kd.C_drewN ?_ _) | (with_reducible refine Kd.C_drew ?_))); (case side6 => exact HC0_2.out); (case side7 => repeat (first | exact (jB HR0_3.out HB.out) | (with_reducible refine Kd.C_alloc ?_ _) | (with_reducible refine Kd.C_drewN ?_ _) | (with_reducible refine Kd.C_drew ?_))); (case side8 => exact HC0_3.out); rintro e w13 ⟨rfl, hb⟩; refine ⟨_, rfl, ?_⟩; have n0_ := jM (jW (g := gb142) (o := .cells #[.slice A0_0 l0_0.length c0_0, .slice A0_1 l0_1.length c0_1, .slice A0_2 l0_2.length c0_2, .slice A0_3 l0_3.length c0_3, .int .i64 a0_4] 27 (0, 0)) (by (with_reducible repeat (first | refine jY ?_ _ | refine jZ ?_ | refine jX ?_ _)); exact BK142.out) hb); have n1_ := jM (jT (by repeat (first | (with_reducible first | exact HB.out | apply jA | apply jN | apply jD | refine jS ?_ GE142.out) | exact HB.out)) hb); clear BK142; clear HB; have BK142 := n0_; have HB := n1_; clear n0_ n1_; (try clear hb); (try clear hb2); (try clear hk); (try clear hi)))
  go_ret
  exact ⟨_, by first | rfl | (simp [errW_none, errW_some] <;> rfl) | (simp [*, errW_none, errW_some] <;> rfl), by first | exact Kd.R_nil _ _ _ _ _ | exact Kd.N_nil _ _ _ _ _ | exact Kd.V_nil _ _ _ _ _ | exact Kd.Q_nil _ _ _ _ _ | exact Kd.S_nil _ _ _ _ _, by repeat (first | (with_reducible first | exact HB.out | apply jA | apply jN | apply jD | refine jS ?_ GE142.out) | exact HB.out)⟩

end Go.Proofs.YtclollnicbcooaaDoor.P
end

section
namespace Go.Proofs.YtclollnicbcooaaDoor.P
open Go.RowKit Go.Proofs.YtclollnicbcooaaDoorW.PrintWords Go.Proofs.YtclollnicbcooaaDoorW.PrintLast Go.Proofs.YtclollnicbcooaaDoorW.PrintMore
attribute [local go_sem] max2_int min2_int max_two min_two max_three min_three max_four min_four

/-! ### states_Step: function 20 -/
def states_Step.f (l0_0 : List (S82)) (l0_1 : List (S101)) (l0_2 : List ByteArray) (l0_3 : List (S64)) (a0_4 : Int) (l1 : List (S37)) (a2 : Int) : Option ((List (S37))) := (inst_Valid.f l0_0 l0_1 l0_2 l0_3 a0_4).bind fun t148 => (if t148 = true then ((states_closed.f l0_0 l0_1 l0_2 l0_3 a0_4 l1).bind fun t149 => ((states_step.f l0_0 l0_1 l0_2 l0_3 a0_4 t149 a2).bind fun t152 => (some t152))) else (some ([] : List (S37))))
set_option maxHeartbeats 8000000 in
set_option maxRecDepth 100000 in
theorem states_Step.calls (A0_0 : Option Addr) (c0_0 : Nat) (l0_0 : List (S82)) (A0_1 : Option Addr) (c0_1 : Nat) (l0_1 : List (S101)) (A0_2 : Option Addr) (c0_2 : Nat) (l0_2 : List ByteArray) (A0_3 : Option Addr) (c0_3 : Nat) (l0_3 : List (S64)) (a0_4 : Int) (A1 : Option Addr) (c1 : Nat) (l1 : List (S37)) (a2 : Int) (r : List (S37)) (w : World) (hr0_0 : Kd.C k82 w A0_0 l0_0.length l0_0) (hc0_0 : l0_0.length ≤ c0_0) (hr0_1 : Kd.C k101 w A0_1 l0_1.length l0_1) (hc0_1 : l0_1.length ≤ c0_1) (hr0_2 : Kd.C Kd.string w A0_2 l0_2.length l0_2) (hc0_2 : l0_2.length ≤ c0_2) (hr0_3 : Kd.C k64 w A0_3 l0_3.length l0_3) (hc0_3 : l0_3.length ≤ c0_3) (hr1 : Kd.C k37 w A1 l1.length l1) (hc1 : l1.length ≤ c1) (h : states_Step.f l0_0 l0_1 l0_2 l0_3 a0_4 l1 a2 = some r) :
  Calls Tryd.prog 20 #[.agg #[.slice A0_0 l0_0.length c0_0, .slice A0_1 l0_1.length c0_1, .slice A0_2 l0_2.length c0_2, .slice A0_3 l0_3.length c0_3, .int .i64 a0_4], .slice A1 l1.length c1, .int .i64 a2] w fun e w' => ∃ v0_ : Value, e = .returned (v0_) ∧ Kd.R k37 37 w' w.heap.size (fun _ => True) v0_ r ∧ Below w.heap.size w w' := by
 have hu27 := Tryd.underlying27
 have HR0_0 := jM hr0_0
 have HC0_0 := jM hc0_0
 clear hr0_0 hc0_0
 have HR0_1 := jM hr0_1
 have HC0_1 := jM hc0_1
 clear hr0_1 hc0_1
 have HR0_2 := jM hr0_2
 have HC0_2 := jM hc0_2
 clear hr0_2 hc0_2
 have HR0_3 := jM hr0_3
 have HC0_3 := jM hc0_3
 clear hr0_3 hc0_3
 have HR1 := jM hr1
 have HC1 := jM hc1
 clear hr1 hc1
 have HB := jM (Below.refl w.heap.size w)
 have H : ((inst_Valid.f l0_0 l0_1 l0_2 l0_3 a0_4).bind fun t148 => (if t148 = true then ((states_closed.f l0_0 l0_1 l0_2 l0_3 a0_4 l1).bind fun t149 => ((states_step.f l0_0 l0_1 l0_2 l0_3 a0_4 t149 a2).bind fun t152 => (some t152))) else (some ([] : List (S37))))) = some r := h
 clear h
 replace H := Option.bind_eq_some_iff.mp H
 obtain ⟨t148, A40, H⟩ := H
 replace H : (if t148 = true then ((states_closed.f l0_0 l0_1 l0_2 l0_3 a0_4 l1).bind fun t149 => ((states_step.f l0_0 l0_1 l0_2 l0_3 a0_4 t149 a2).bind fun t152 => (some t152))) else (some ([] : List (S37)))) = some r := H
 have A4 := jM A40
 clear A40
 by_cases c5 : t148 = true
 ·subst c5
  have H1 : ((states_closed.f l0_0 l0_1 l0_2 l0_3 a0_4 l1).bind fun t149 => ((states_step.f l0_0 l0_1 l0_2 l0_3 a0_4 t149 a2).bind fun t152 => (some t152))) = some r := by rw [if_pos rfl] at H; exact H
  clear H
  have H := H1
  clear H1
  replace H := Option.bind_eq_some_iff.mp H
  obtain ⟨t149, A60, H⟩ := H
  replace H : ((states_step.f l0_0 l0_1 l0_2 l0_3 a0_4 t149 a2).bind fun t152 => (some t152)) = some r := H
  have A6 := jM A60
  clear A60
  replace H := Option.bind_eq_some_iff.mp H
  obtain ⟨t152, A70, H⟩ := H
  replace H : (some t152) = some r := H
  have A7 := jM A70
  clear A70
  obtain rfl := Option.some.inj H
  go_enter Tryd.func20, Tryd.ntmps20
  try go_wp2_with (first | ((with_reducible refine gate_dst (N := 3) rfl ?_); refine box_event ?hg (N := 3) ?hd (cs := #[.slice A0_0 l0_0.length c0_0, .slice A0_1 l0_1.length c0_1, .slice A0_2 l0_2.length c0_2, .slice A0_3 l0_3.length c0_3, .int .i64 a0_4]) (t := 27) ?hr ?_; (case hd => rfl); (case hg => rfl); (case hr => first | (go_simp; done) | (go_simp; rfl)); intro gb147 hg w8 hbox hb; have n0_ := jM (jT (by repeat (first | (with_reducible first | exact HB.out | apply jA | apply jN | apply jD) | exact HB.out)) hb); have n1_ := jM (hbox); have n2_ := jM ((by rw [hg]; exact (below_size (by repeat (first | (with_reducible first | exact HB.out | apply jA | apply jN | apply jD) | exact HB.out))) : w.heap.size ≤ gb147)); have n3_ := jM ((by rw [hg]; exact (below_size (by repeat (first | (with_reducible first | exact HB.out | apply jA | apply jN | apply jD) | exact HB.out))) : w.heap.size ≤ gb147)); clear HB; have HB := n0_; have BK147 := n1_; have GW147 := n2_; have GE147 := n3_; clear n0_ n1_ n2_ n3_; clear hb hbox hg; have hcz9_0 : w8.cell? ⟨gb147, 0, none⟩ = some (.slice A0_0 l0_0.length c0_0) := (jC BK147.out 0).trans rfl; have hcz9_1 : w8.cell? ⟨gb147, 1, none⟩ = some (.slice A0_1 l0_1.length c0_1) := (jC BK147.out 1).trans rfl; have hcz9_2 : w8.cell? ⟨gb147, 2, none⟩ = some (.slice A0_2 l0_2.length c0_2) := (jC BK147.out 2).trans rfl; have hcz9_3 : w8.cell? ⟨gb147, 3, none⟩ = some (.slice A0_3 l0_3.length c0_3) := (jC BK147.out 3).trans rfl; have hcz9_4 : w8.cell? ⟨gb147, 4, none⟩ = some (.int .i64 a0_4) := (jC BK147.out 4).trans rfl; have hfz9_0 := jF BK147.out 0; have hfz9_1 := jF BK147.out 1; have hfz9_2 := jF BK147.out 2; have hfz9_3 := jF BK147.out 3; have hfz9_4 := jF BK147.out 4) | ((with_reducible refine gate_callee (f := 34) rfl ?_); refine goesL_ (some 8) rfl rfl Tryd.func34 (by kernel_rfl) rfl #[.agg #[.slice A0_0 l0_0.length c0_0, .slice A0_1 l0_1.length c0_1, .slice A0_2 l0_2.length c0_2, .slice A0_3 l0_3.length c0_3, .int .i64 a0_4]] rfl (by (try simp only [List.map_toArray, List.map_cons, List.map_nil]); first | done | rfl | (simp only [List.length_drop, List.length_take]; rfl)) ?_; (with_reducible refine (inst_Valid.calls _ _ l0_0 _ _ l0_1 _ _ l0_2 _ _ l0_3 a0_4 true _ ?side1 ?side2 ?side3 ?side4 ?side5 ?side6 ?side7 ?side8 A4.out).mono ?_); (case side1 => repeat (first | exact (jB HR0_0.out HB.out) | (with_reducible refine Kd.C_alloc ?_ _) | (with_reducible refine Kd.C_drewN ?_ _) | (with_reducible refine Kd.C_drew ?_))); (case side2 => exact HC0_0.out); (case side3 => repeat (first | exact (jB HR0_1.out HB.out) | (with_reducible refine Kd.C_alloc ?_ _) | (with_reducible refine Kd.C_drewN ?_ _) | (with_reducible refine Kd.C_drew ?_))); (case side4 => exact HC0_1.out); (case side5 => repeat (first | exact (jB HR0_2.out HB.out) | (with_reducible refine Kd.C_alloc ?_ _) | (with_reducible refine Kd.C_drewN ?_ _) | (with_reducible refine Kd.C_drew ?_))); (case side6 => exact HC0_2.out); (case side7 => repeat (first | exact (jB HR0_3.out HB.out) | (with_reducible refine Kd.C_alloc ?_ _) | (with_reducible refine Kd.C_drewN ?_ _) | (with_reducible refine Kd.C_drew ?_))); (case side8 => exact HC0_3.out); rintro e w10 ⟨rfl, hb⟩; refine ⟨_, rfl, ?_⟩; have n0_ := jM (jW (g := gb147) (o := .cells #[.slice A0_0 l0_0.length c0_0, .slice A0_1 l0_1.length c0_1, .slice A0_2 l0_2.length c0_2, .slice A0_3 l0_3.length c0_3, .int .i64 a0_4] 27 (0, 0)) (by (with_reducible repeat (first | refine jY ?_ _ | refine jZ ?_ | refine jX ?_ _)); exact BK147.out) hb); have n1_ := jM (jT (by repeat (first | (with_reducible first | exact HB.out | apply jA | apply jN | apply jD | refine jS ?_ GE147.out) | exact HB.out)) hb); clear BK147; clear HB; have BK147 := n0_; have HB := n1_; clear n0_ n1_; (try clear hb); (try clear hb2); (try clear hk); (try clear hi)))
  have n0_ := jM (jZ BK147.out)
  have n1_ := jM (jD HB.out)
  clear BK147 HB
  have BK147 := n0_
  have HB := n1_
  clear n0_ n1_
  refine start_ (n := 7) (S := fun w' => w'.cell? ⟨gb147, 0, none⟩ = some (.slice A0_0 l0_0.length c0_0) ∧ w'.cell? ⟨gb147, 1, none⟩ = some (.slice A0_1 l0_1.length c0_1) ∧ w'.cell? ⟨gb147, 2, none⟩ = some (.slice A0_2 l0_2.length c0_2) ∧ w'.cell? ⟨gb147, 3, none⟩ = some (.slice A0_3 l0_3.length c0_3) ∧ w'.cell? ⟨gb147, 4, none⟩ = some (.int .i64 a0_4)) (ds := []) (tf 0 7) (by kernel_rfl) rfl rfl ⟨(jC BK147.out 0).trans rfl, (jC BK147.out 1).trans rfl, (jC BK147.out 2).trans rfl, (jC BK147.out 3).trans rfl, (jC BK147.out 4).trans rfl⟩ (fun hHeld => ?_)
  generalize w10.drew = w11 at BK147 HB hHeld ⊢
  refine pure_ (i := 2) (N := some 12) (v := ?_) (a' := ?_) #[false, false, true, false, false, false, false] rfl rfl (by kernel_rfl) (fun _ _ _ h => h) (Or.inl ⟨by rfl, ?_⟩) ?_ ?_
  rotate_left
  ·intro w';go_simp;with_reducible rfl
  rotate_left
  ·simp only [Act.put, sA, i64_w, i32_w];rfl
  refine pure_ (i := 4) (N := some 14) (v := ?_) (a' := ?_) #[false, false, true, false, true, false, false] rfl rfl (by kernel_rfl) (fun _ _ _ h => h) (Or.inl ⟨by rfl, ?_⟩) ?_ ?_
  rotate_left
  ·intro w';go_simp;with_reducible rfl
  rotate_left
  ·simp only [Act.put, sA, i64_w, i32_w];rfl
  refine take_ (i := 0) (N := some 10) (v := ?_) (a' := ?_) #[true, false, true, false, true, false, false] rfl rfl (by kernel_rfl) (fun _ _ _ h => h) (Or.inl ⟨by rfl, ?_⟩) hHeld ?_ ?_
  rotate_left
  ·rintro w' ⟨s0, s1, s2, s3, s4⟩;go_simp;with_reducible rfl
  rotate_left
  ·simp only [Act.put, sA, i64_w, i32_w];rfl
  refine take_ (i := 1) (N := some 11) (v := ?_) (a' := ?_) #[true, true, true, false, true, false, false] rfl rfl (by kernel_rfl) (fun _ _ _ h => h) (Or.inl ⟨by rfl, ?_⟩) hHeld ?_ ?_
  rotate_left
  ·rintro w' ⟨s0, s1, s2, s3, s4⟩;go_simp;with_reducible rfl
  rotate_left
  ·simp only [Act.put, sA, i64_w, i32_w];rfl
  refine one_ (i := 3) (N := some 13) (tf 5 2) rfl rfl (by kernel_rfl) (by decide) (fun K hK => ?_)
  refine goes_ Tryd.func38 (by kernel_rfl) rfl #[.agg #[.slice A0_0 l0_0.length c0_0, .slice A0_1 l0_1.length c0_1, .slice A0_2 l0_2.length c0_2, .slice A0_3 l0_3.length c0_3, .int .i64 a0_4], .slice A1 l1.length c1] (by rfl) rfl rfl (by (try simp only [List.map_toArray, List.map_cons, List.map_nil]); first | done | rfl | (simp only [List.length_drop, List.length_take]; rfl)) ?_
  with_reducible refine (states_closed.calls _ _ l0_0 _ _ l0_1 _ _ l0_2 _ _ l0_3 a0_4 _ _ l1 t149 _ ?side1 ?side2 ?side3 ?side4 ?side5 ?side6 ?side7 ?side8 ?side9 ?side10 A6.out).mono ?_
  (case side1 => repeat (first | exact (jB HR0_0.out HB.out) | (with_reducible refine Kd.C_alloc ?_ _) | (with_reducible refine Kd.C_drewN ?_ _) | (with_reducible refine Kd.C_drew ?_)))
  (case side2 => exact HC0_0.out)
  (case side3 => repeat (first | exact (jB HR0_1.out HB.out) | (with_reducible refine Kd.C_alloc ?_ _) | (with_reducible refine Kd.C_drewN ?_ _) | (with_reducible refine Kd.C_drew ?_)))
  (case side4 => exact HC0_1.out)
  (case side5 => repeat (first | exact (jB HR0_2.out HB.out) | (with_reducible refine Kd.C_alloc ?_ _) | (with_reducible refine Kd.C_drewN ?_ _) | (with_reducible refine Kd.C_drew ?_)))
  (case side6 => exact HC0_2.out)
  (case side7 => repeat (first | exact (jB HR0_3.out HB.out) | (with_reducible refine Kd.C_alloc ?_ _) | (with_reducible refine Kd.C_drewN ?_ _) | (with_reducible refine Kd.C_drew ?_)))
  (case side8 => exact HC0_3.out)
  (case side9 => repeat (first | exact (jB HR1.out HB.out) | (with_reducible refine Kd.C_alloc ?_ _) | (with_reducible refine Kd.C_drewN ?_ _) | (with_reducible refine Kd.C_drew ?_)))
  (case side10 => exact HC1.out)
  rintro e w12 ⟨v150, rfl, ho0, hb⟩
  refine ⟨_, rfl, ?_⟩
  have n0_ := jM (Kd.R_lower ho0 (below_size (by repeat (first | (with_reducible first | exact HB.out | apply jA | apply jN | apply jD | refine jS ?_ GE147.out) | exact HB.out))))
  have n1_ := jM (jW (g := gb147) (o := .cells #[.slice A0_0 l0_0.length c0_0, .slice A0_1 l0_1.length c0_1, .slice A0_2 l0_2.length c0_2, .slice A0_3 l0_3.length c0_3, .int .i64 a0_4] 27 (0, 0)) (by (with_reducible repeat (first | refine jY ?_ _ | refine jZ ?_ | refine jX ?_ _)); exact BK147.out) hb)
  have n2_ := jM (jT (by repeat (first | (with_reducible first | exact HB.out | apply jA | apply jN | apply jD | refine jS ?_ GE147.out) | exact HB.out)) hb)
  clear BK147 HB
  have HO151 := n0_
  have BK147 := n1_
  have HB := n2_
  clear n0_ n1_ n2_
  (try clear hb)
  (try clear hb2)
  (try clear hk)
  (try clear hi)
  (try clear ho0)
  obtain ⟨Ao13, co13, eo13⟩ := Kd.R_slice HO151.out
  (first | subst eo13 | (injection eo13 with f1_ f2_ f3_; have f4_ := f1_.symm; have f5_ := f3_.symm; clear f1_ f2_ f3_; subst f4_; subst f5_))
  refine hK.out _ _ ⟨(jC BK147.out 0).trans rfl, (jC BK147.out 1).trans rfl, (jC BK147.out 2).trans rfl, (jC BK147.out 3).trans rfl, (jC BK147.out 4).trans rfl⟩ (fun hHeld => ?_)
  clear hK K
  refine norm_ (a' := ?_) ?_ ?_
  rotate_left
  ·show Act.put _ (some 13) _ = _
   simp only [Act.put, sA, i64_w, i32_w]
   rfl
  refine one_ (i := 5) (N := some 15) (tf 6 1) rfl rfl (by kernel_rfl) (by decide) (fun K hK => ?_)
  refine goes_ Tryd.func41 (by kernel_rfl) rfl #[.agg #[.slice A0_0 l0_0.length c0_0, .slice A0_1 l0_1.length c0_1, .slice A0_2 l0_2.length c0_2, .slice A0_3 l0_3.length c0_3, .int .i64 a0_4], .slice Ao13 t149.length co13, .int .i64 a2] (by rfl) rfl rfl (by (try simp only [List.map_toArray, List.map_cons, List.map_nil]); first | done | rfl | (simp only [List.length_drop, List.length_take]; rfl)) ?_
  with_reducible refine (states_step.calls _ _ l0_0 _ _ l0_1 _ _ l0_2 _ _ l0_3 a0_4 _ _ t149 a2 t152 _ ?side1 ?side2 ?side3 ?side4 ?side5 ?side6 ?side7 ?side8 ?side9 ?side10 A7.out).mono ?_
  (case side1 => repeat (first | exact (jB HR0_0.out HB.out) | (with_reducible refine Kd.C_alloc ?_ _) | (with_reducible refine Kd.C_drewN ?_ _) | (with_reducible refine Kd.C_drew ?_)))
  (case side2 => exact HC0_0.out)
  (case side3 => repeat (first | exact (jB HR0_1.out HB.out) | (with_reducible refine Kd.C_alloc ?_ _) | (with_reducible refine Kd.C_drewN ?_ _) | (with_reducible refine Kd.C_drew ?_)))
  (case side4 => exact HC0_1.out)
  (case side5 => repeat (first | exact (jB HR0_2.out HB.out) | (with_reducible refine Kd.C_alloc ?_ _) | (with_reducible refine Kd.C_drewN ?_ _) | (with_reducible refine Kd.C_drew ?_)))
  (case side6 => exact HC0_2.out)
  (case side7 => repeat (first | exact (jB HR0_3.out HB.out) | (with_reducible refine Kd.C_alloc ?_ _) | (with_reducible refine Kd.C_drewN ?_ _) | (with_reducible refine Kd.C_drew ?_)))
  (case side8 => exact HC0_3.out)
  (case side9 => repeat (first | exact (Kd.R_reads' HO151.out).2.2 | (with_reducible refine Kd.C_alloc ?_ _) | (with_reducible refine Kd.C_drewN ?_ _) | (with_reducible refine Kd.C_drew ?_)))
  (case side10 => exact (Kd.R_reads' HO151.out).2.1)
  rintro e w14 ⟨v153, rfl, ho0, hb⟩
  refine ⟨_, rfl, ?_⟩
  have n0_ := jM (Kd.R_elder' (by (with_reducible repeat (first | apply Kd.R_alloc | apply Kd.R_drewN | apply Kd.R_drew)); exact HO151.out) (Kd.R_base ho0) hb)
  have n1_ := jM (Kd.R_lower (Kd.R_new' ho0 (Kd.R_lt (by (with_reducible repeat (first | apply Kd.R_alloc | apply Kd.R_drewN | apply Kd.R_drew)); exact HO151.out))) (below_size (by repeat (first | (with_reducible first | exact HB.out | apply jA | apply jN | apply jD | refine jS ?_ GE147.out) | exact HB.out))))
  have n2_ := jM (jW (g := gb147) (o := .cells #[.slice A0_0 l0_0.length c0_0, .slice A0_1 l0_1.length c0_1, .slice A0_2 l0_2.length c0_2, .slice A0_3 l0_3.length c0_3, .int .i64 a0_4] 27 (0, 0)) (by (with_reducible repeat (first | refine jY ?_ _ | refine jZ ?_ | refine jX ?_ _)); exact BK147.out) hb)
  have n3_ := jM (jT (by repeat (first | (with_reducible first | exact HB.out | apply jA | apply jN | apply jD | refine jS ?_ GE147.out) | exact HB.out)) hb)
  clear HO151 BK147 HB
  have HO151 := n0_
  have HO154 := n1_
  have BK147 := n2_
  have HB := n3_
  clear n0_ n1_ n2_ n3_
  (try clear hb)
  (try clear hb2)
  (try clear hk)
  (try clear hi)
  (try clear ho0)
  refine hK.out _ _ ⟨(jC BK147.out 0).trans rfl, (jC BK147.out 1).trans rfl, (jC BK147.out 2).trans rfl, (jC BK147.out 3).trans rfl, (jC BK147.out 4).trans rfl⟩ (fun hHeld => ?_)
  clear hK K
  refine norm_ (a' := ?_) ?_ ?_
  rotate_left
  ·show Act.put _ (some 15) _ = _
   simp only [Act.put, sA, i64_w, i32_w]
   rfl
  refine pure_ (i := 6) (N := some 6) (v := ?_) (a' := ?_) (tf 7 0) rfl rfl (by kernel_rfl) (fun _ _ _ h => h) (Or.inl ⟨by rfl, ?_⟩) ?_ ?_
  rotate_left
  ·intro w';go_simp;with_reducible rfl
  rotate_left
  ·simp only [Act.put, sA, i64_w, i32_w];rfl
  refine done_ (by kernel_rfl) ?_
  try go_wp2
  go_ret
  exact ⟨_, by first | rfl | (simp [errW_none, errW_some] <;> rfl) | (simp [*, errW_none, errW_some] <;> rfl), by (with_reducible repeat (first | apply Kd.R_alloc | apply Kd.R_drewN | apply Kd.R_drew)); exact Kd.R_mono HO154.out (fun _ hk => trivial), by repeat (first | (with_reducible first | exact HB.out | apply jA | apply jN | apply jD | refine jS ?_ GE147.out) | exact HB.out)⟩
 ·replace c5 := Bool.eq_false_iff.mpr c5
  subst c5
  have H1 : (some ([] : List (S37))) = some r := by rw [if_neg (show ¬ (false = true) by decide)] at H; exact H
  clear H
  have H := H1
  clear H1
  obtain rfl := Option.some.inj H
  go_enter Tryd.func20, Tryd.ntmps20
  go_wp2_with (first | ((with_reducible refine gate_dst (N := 3) rfl ?_); refine box_event ?hg (N := 3) ?hd (cs := #[.slice A0_0 l0_0.length c0_0, .slice A0_1 l0_1.length c0_1, .slice A0_2 l0_2.length c0_2, .slice A0_3 l0_3.length c0_3, .int .i64 a0_4]) (t := 27) ?hr ?_; (case hd => rfl); (case hg => rfl); (case hr => first | (go_simp; done) | (go_simp; rfl)); intro gb147 hg w15 hbox hb; have n0_ := jM (jT (by repeat (first | (with_reducible first | exact HB.out | apply jA | apply jN | apply jD) | exact HB.out)) hb); have n1_ := jM (hbox); have n2_ := jM ((by rw [hg]; exact (below_size (by repeat (first | (with_reducible first | exact HB.out | apply jA | apply jN | apply jD) | exact HB.out))) : w.heap.size ≤ gb147)); have n3_ := jM ((by rw [hg]; exact (below_size (by repeat (first | (with_reducible first | exact HB.out | apply jA | apply jN | apply jD) | exact HB.out))) : w.heap.size ≤ gb147)); clear HB; have HB := n0_; have BK147 := n1_; have GW147 := n2_; have GE147 := n3_; clear n0_ n1_ n2_ n3_; clear hb hbox hg; have hcz16_0 : w15.cell? ⟨gb147, 0, none⟩ = some (.slice A0_0 l0_0.length c0_0) := (jC BK147.out 0).trans rfl; have hcz16_1 : w15.cell? ⟨gb147, 1, none⟩ = some (.slice A0_1 l0_1.length c0_1) := (jC BK147.out 1).trans rfl; have hcz16_2 : w15.cell? ⟨gb147, 2, none⟩ = some (.slice A0_2 l0_2.length c0_2) := (jC BK147.out 2).trans rfl; have hcz16_3 : w15.cell? ⟨gb147, 3, none⟩ = some (.slice A0_3 l0_3.length c0_3) := (jC BK147.out 3).trans rfl; have hcz16_4 : w15.cell? ⟨gb147, 4, none⟩ = some (.int .i64 a0_4) := (jC BK147.out 4).trans rfl; have hfz16_0 := jF BK147.out 0; have hfz16_1 := jF BK147.out 1; have hfz16_2 := jF BK147.out 2; have hfz16_3 := jF BK147.out 3; have hfz16_4 := jF BK147.out 4) | ((with_reducible refine gate_callee (f := 34) rfl ?_); refine goesL_ (some 8) rfl rfl Tryd.func34 (by kernel_rfl) rfl #[.agg #[.slice A0_0 l0_0.length c0_0, .slice A0_1 l0_1.length c0_1, .slice A0_2 l0_2.length c0_2, .slice A0_3 l0_3.length c0_3, .int .i64 a0_4]] rfl (by (try simp only [List.map_toArray, List.map_cons, List.map_nil]); first | done | rfl | (simp only [List.length_drop, List.length_take]; rfl)) ?_; (with_reducible refine (inst_Valid.calls _ _ l0_0 _ _ l0_1 _ _ l0_2 _ _ l0_3 a0_4 false _ ?side1 ?side2 ?side3 ?side4 ?side5 ?side6 ?side7 ?side8 A4.out).mono ?_); (case side1 => repeat (first | exact (jB HR0_0.out HB.out) | (with_reducible refine Kd.C_alloc ?_ _) | (with_reducible refine Kd.C_drewN ?_ _) | (with_reducible refine Kd.C_drew ?_))); (case side2 => exact HC0_0.out); (case side3 => repeat (first | exact (jB HR0_1.out HB.out) | (with_reducible refine Kd.C_alloc ?_ _) | (with_reducible refine Kd.C_drewN ?_ _) | (with_reducible refine Kd.C_drew ?_))); (case side4 => exact HC0_1.out); (case side5 => repeat (first | exact (jB HR0_2.out HB.out) | (with_reducible refine Kd.C_alloc ?_ _) | (with_reducible refine Kd.C_drewN ?_ _) | (with_reducible refine Kd.C_drew ?_))); (case side6 => exact HC0_2.out); (case side7 => repeat (first | exact (jB HR0_3.out HB.out) | (with_reducible refine Kd.C_alloc ?_ _) | (with_reducible refine Kd.C_drewN ?_ _) | (with_reducible refine Kd.C_drew ?_))); (case side8 => exact HC0_3.out); rintro e w17 ⟨rfl, hb⟩; refine ⟨_, rfl, ?_⟩; have n0_ := jM (jW (g := gb147) (o := .cells #[.slice A0_0 l0_0.length c0_0, .slice A0_1 l0_1.length c0_1, .slice A0_2 l0_2.length c0_2, .slice A0_3 l0_3.length c0_3, .int .i64 a0_4] 27 (0, 0)) (by (with_reducible repeat (first | refine jY ?_ _ | refine jZ ?_ | refine jX ?_ _)); exact BK147.out) hb); have n1_ := jM (jT (by repeat (first | (with_reducible first | exact HB.out | apply jA | apply jN | apply jD | refine jS ?_ GE147.out) | exact HB.out)) hb); clear BK147; clear HB; have BK147 := n0_; have HB := n1_; clear n0_ n1_; (try clear hb); (try clear hb2); (try clear hk); (try clear hi)))
  go_ret
  exact ⟨_, by first | rfl | (simp [errW_none, errW_some] <;> rfl) | (simp [*, errW_none, errW_some] <;> rfl), by first | exact Kd.R_nil _ _ _ _ _ | exact Kd.N_nil _ _ _ _ _ | exact Kd.V_nil _ _ _ _ _ | exact Kd.Q_nil _ _ _ _ _ | exact Kd.S_nil _ _ _ _ _, by repeat (first | (with_reducible first | exact HB.out | apply jA | apply jN | apply jD | refine jS ?_ GE147.out) | exact HB.out)⟩

/-! ### states_symbols: function 44 -/
mutual
def states_symbols.l0 : Nat → List Int → Int → Int → List (S82) → List (S101) → List ByteArray → List (S64) → Int → Option (List Int)
 | 0, _, _, _, _, _, _, _, _ => none
 | k + 1, x3, x8, x9, xA, xB, xC, xD, xE => if x9 < x8 then (if x3.length < 17592186044416 then (states_symbols.l0 k (x3 ++ [x9]) x8 (wrap64 (x9 + 1)) xA xB xC xD xE) else (none)) else (states_symbols.l1 k x3 (xC.length : Int) 0)
def states_symbols.l1 : Nat → List Int → Int → Int → Option (List Int)
 | 0, _, _, _ => none
 | k + 1, x3, x19, x20 => if x20 < x19 then (if x3.length < 17592186044416 then (states_symbols.l1 k (x3 ++ [wrap64 ((-1) - x20)]) x19 (wrap64 (x20 + 1))) else (none)) else (some x3)
end
def states_symbols.f (k : Nat) (l0_0 : List (S82)) (l0_1 : List (S101)) (l0_2 : List ByteArray) (l0_3 : List (S64)) (a0_4 : Int) : Option (List Int) := states_symbols.l0 k ([] : List Int) (l0_0.length : Int) 0 l0_0 l0_1 l0_2 l0_3 a0_4
set_option maxHeartbeats 8000000 in
set_option maxRecDepth 100000 in
theorem states_symbols.calls (k : Nat) (A0_0 : Option Addr) (c0_0 : Nat) (l0_0 : List (S82)) (A0_1 : Option Addr) (c0_1 : Nat) (l0_1 : List (S101)) (A0_2 : Option Addr) (c0_2 : Nat) (l0_2 : List ByteArray) (A0_3 : Option Addr) (c0_3 : Nat) (l0_3 : List (S64)) (a0_4 : Int) (r : List Int) (w : World) (hr0_0 : Kd.C k82 w A0_0 l0_0.length l0_0) (hc0_0 : l0_0.length ≤ c0_0) (hr0_1 : Kd.C k101 w A0_1 l0_1.length l0_1) (hc0_1 : l0_1.length ≤ c0_1) (hr0_2 : Kd.C Kd.string w A0_2 l0_2.length l0_2) (hc0_2 : l0_2.length ≤ c0_2) (hr0_3 : Kd.C k64 w A0_3 l0_3.length l0_3) (hc0_3 : l0_3.length ≤ c0_3) (h : states_symbols.f k l0_0 l0_1 l0_2 l0_3 a0_4 = some r) :
  Calls Tryd.prog 44 #[.agg #[.slice A0_0 l0_0.length c0_0, .slice A0_1 l0_1.length c0_1, .slice A0_2 l0_2.length c0_2, .slice A0_3 l0_3.length c0_3, .int .i64 a0_4]] w fun e w' => ∃ v0_ : Value, e = .returned (v0_) ∧ Kd.R (Kd.int .i64) 29 w' w.heap.size (fun _ => True) v0_ r ∧ Below w.heap.size w w' := by
 have hu27 := Tryd.underlying27
 have HR0_0 := jM hr0_0
 have HC0_0 := jM hc0_0
 clear hr0_0 hc0_0
 have HR0_1 := jM hr0_1
 have HC0_1 := jM hc0_1
 clear hr0_1 hc0_1
 have HR0_2 := jM hr0_2
 have HC0_2 := jM hc0_2
 clear hr0_2 hc0_2
 have HR0_3 := jM hr0_3
 have HC0_3 := jM hc0_3
 clear hr0_3 hc0_3
 have HB := jM (Below.refl w.heap.size w)
 have H : (states_symbols.l0 k ([] : List Int) (l0_0.length : Int) 0 l0_0 l0_1 l0_2 l0_3 a0_4) = some r := h
 clear h
 have H' := jM H
 clear H
 go_enter Tryd.func44, Tryd.ntmps44
 go_wp2_with (first | ((with_reducible refine gate_dst (N := 1) rfl ?_); refine box_event ?hg (N := 1) ?hd (cs := #[.slice A0_0 l0_0.length c0_0, .slice A0_1 l0_1.length c0_1, .slice A0_2 l0_2.length c0_2, .slice A0_3 l0_3.length c0_3, .int .i64 a0_4]) (t := 27) ?hr ?_; (case hd => rfl); (case hg => rfl); (case hr => first | (go_simp; done) | (go_simp; rfl)); intro gb155 hg w2 hbox hb; have n0_ := jM (jT (by repeat (first | (with_reducible first | exact HB.out | apply jA | apply jN | apply jD) | exact HB.out)) hb); have n1_ := jM (hbox); have n2_ := jM ((by rw [hg]; exact (below_size (by repeat (first | (with_reducible first | exact HB.out | apply jA | apply jN | apply jD) | exact HB.out))) : w.heap.size ≤ gb155)); have n3_ := jM ((by rw [hg]; exact (below_size (by repeat (first | (with_reducible first | exact HB.out | apply jA | apply jN | apply jD) | exact HB.out))) : w.heap.size ≤ gb155)); clear HB; have HB := n0_; have BK155 := n1_; have GW155 := n2_; have GE155 := n3_; clear n0_ n1_ n2_ n3_; clear hb hbox hg; have hcz3_0 : w2.cell? ⟨gb155, 0, none⟩ = some (.slice A0_0 l0_0.length c0_0) := (jC BK155.out 0).trans rfl; have hcz3_1 : w2.cell? ⟨gb155, 1, none⟩ = some (.slice A0_1 l0_1.length c0_1) := (jC BK155.out 1).trans rfl; have hcz3_2 : w2.cell? ⟨gb155, 2, none⟩ = some (.slice A0_2 l0_2.length c0_2) := (jC BK155.out 2).trans rfl; have hcz3_3 : w2.cell? ⟨gb155, 3, none⟩ = some (.slice A0_3 l0_3.length c0_3) := (jC BK155.out 3).trans rfl; have hcz3_4 : w2.cell? ⟨gb155, 4, none⟩ = some (.int .i64 a0_4) := (jC BK155.out 4).trans rfl; have hfz3_0 := jF BK155.out 0; have hfz3_1 := jF BK155.out 1; have hfz3_2 := jF BK155.out 2; have hfz3_3 := jF BK155.out 3; have hfz3_4 := jF BK155.out 4))
 go_loopg [3, 9] k (fun kq v3 v9 w' => ∃ (x3_1 : List Int) (x9_1 : Int), v9 = .int .i64 x9_1 ∧ Aside0 (states_symbols.l0 kq x3_1 (l0_0.length : Int) x9_1 l0_0 l0_1 l0_2 l0_3 a0_4 = some r) ∧ Aside0 (kq ≤ k) ∧ Aside0 (Kd.R (Kd.int .i64) 29 w' w.heap.size (fun _ => True) v3 x3_1) ∧ Aside0 (w'.heap[gb155]? = some (.cells #[(.slice A0_0 l0_0.length c0_0), (.slice A0_1 l0_1.length c0_1), (.slice A0_2 l0_2.length c0_2), (.slice A0_3 l0_3.length c0_3), .int .i64 a0_4] 27 (0, 0))) ∧ Aside0 (Below w.heap.size w w'))
 case atStart => exact ⟨(([] : List Int)), (0), (by first | rfl | (simp; done) | (simp [*]; done)), H', ⟨Nat.le_refl _⟩, ⟨by first | exact Kd.R_nil _ _ _ _ _ | exact Kd.N_nil _ _ _ _ _ | exact Kd.V_nil _ _ _ _ _ | exact Kd.Q_nil _ _ _ _ _ | exact Kd.S_nil _ _ _ _ _⟩, ⟨by (with_reducible repeat (first | refine jY ?_ _ | refine jZ ?_ | refine jX ?_ _)); exact BK155.out⟩, ⟨by repeat (first | (with_reducible first | exact HB.out | apply jA | apply jN | apply jD | refine jS ?_ GE155.out) | exact HB.out)⟩⟩
 case round =>
  clear H'
  try clear p2
  try clear hcz3_0
  try clear hcz3_1
  try clear hcz3_2
  try clear hcz3_3
  try clear hcz3_4
  try clear hfz3_0
  try clear hfz3_1
  try clear hfz3_2
  try clear hfz3_3
  try clear hfz3_4
  obtain ⟨x3_1, x9_1, rfl, HA, HK1, HO_3, BK155, HB⟩ := hrel
  cases gk with
  | zero => exact absurd HA.out (by simp [states_symbols.l0])
  | succ k1 =>
   have H := HA.out
   clear HA
   simp only [states_symbols.l0] at H
   by_cases c4 : x9_1 < (l0_0.length : Int)
   ·rw [if_pos c4] at H
    have c4b0 : decide (x9_1 < (l0_0.length : Int)) = true := decide_eq_true c4
    clear c4
    by_cases c5 : x3_1.length < 17592186044416
    ·rw [if_pos c5] at H
     have LMc5 := jM c5
     clear c5
     obtain ⟨y156, hy156⟩ : ∃ y_ : List Int, y_ = (x3_1 ++ [x9_1]) := ⟨_, rfl⟩
     replace H : (states_symbols.l0 k1 y156 (l0_0.length : Int) (wrap64 (x9_1 + 1)) l0_0 l0_1 l0_2 l0_3 a0_4) = some r := by first | (rw [hy156]; with_reducible exact H) | (have H2_ := (Option.bind_some _ _).symm.trans H; rw [hy156]; with_reducible exact H2_) | (have H2_ := (Option.bind_some _ _).symm.trans H; with_reducible exact H2_) | with_reducible exact H | (rw [hy156]; exact H) | exact H
     have Ny156 := jM hy156
     clear hy156
     have H' := jM H
     clear H
     go_wp2_with (first | ((with_reducible refine gate_builtin (b := .append) (xs := #[.tmp 12, .tmp 14]) rfl ?_); at_builtin; refine Kd.R_append (Kd.int .i64) (w0 := w) w.heap.size rfl (.tmp 12) (.tmp 14) 62 29 (.int .i64 0) 8 rfl Tryd.underlying62 info29 rfl (by decide) (by omega) u3 x3_1 x9_1 [.int .i64 x9_1] (fun _ => True) (fun _ => False) rfl rfl ?aP (fun _ hk => hk.elim) ?aF ?aO ?aB ?aS ?aL ?_; (case aP => exact rfl); (case aB => exact (by repeat (first | (with_reducible first | exact HB.out | apply jA | apply jN | apply jD | refine jS ?_ GE155.out) | exact HB.out))); (case aF => exact (fun _ _ => trivial)); (case aO => exact (by (with_reducible repeat (first | apply Kd.R_alloc | apply Kd.R_drewN | apply Kd.R_drew)); exact HO_3.out)); (case aS => exact (below_size (by repeat (first | (with_reducible first | exact HB.out | apply jA | apply jN | apply jD | refine jS ?_ GE155.out) | exact HB.out)))); (case aL => have := LMc5.out; omega); intro v157 w6 ho hb hg hat; rw [← Ny156.out] at ho; have n0_ := jM (blk_grown (g := gb155) (o := .cells #[.slice A0_0 l0_0.length c0_0, .slice A0_1 l0_1.length c0_1, .slice A0_2 l0_2.length c0_2, .slice A0_3 l0_3.length c0_3, .int .i64 a0_4] 27 (0, 0)) (by (with_reducible repeat (first | refine jY ?_ _ | refine jZ ?_ | refine jX ?_ _)); exact BK155.out) hg (Kd.R_ne HO_3.out BK155.out (by decide))); have n1_ := jM (hb); have n2_ := jM (ho); clear BK155; clear HB; clear HO_3; have BK155 := n0_; have HB := n1_; have HO158 := n2_; clear n0_ n1_ n2_; clear ho hb hg hat))
     go_roundg k1
     case measure => have := HK1.out; omega
     case rel => exact ⟨(y156), (wrap64 (x9_1 + 1)), (by first | rfl | (simp; done) | (simp [*]; done)), H', ⟨by have := HK1.out; omega⟩, ⟨by (with_reducible repeat (first | apply Kd.R_alloc | apply Kd.R_drewN | apply Kd.R_drew)); exact HO158.out⟩, ⟨by (with_reducible repeat (first | refine jY ?_ _ | refine jZ ?_ | refine jX ?_ _)); exact BK155.out⟩, ⟨by repeat (first | (with_reducible first | exact HB.out | apply jA | apply jN | apply jD | refine jS ?_ GE155.out) | exact HB.out)⟩⟩
    ·rw [if_neg c5] at H
     exact absurd H (by simp)
   ·rw [if_neg c4] at H
    have c4b0 : decide (x9_1 < (l0_0.length : Int)) = false := decide_eq_false c4
    clear c4
    have H' := jM H
    clear H
    have hcz7_0 : wr.cell? ⟨gb155, 0, none⟩ = some (.slice A0_0 l0_0.length c0_0) := (jC BK155.out 0).trans rfl
    have hcz7_1 : wr.cell? ⟨gb155, 1, none⟩ = some (.slice A0_1 l0_1.length c0_1) := (jC BK155.out 1).trans rfl
    have hcz7_2 : wr.cell? ⟨gb155, 2, none⟩ = some (.slice A0_2 l0_2.length c0_2) := (jC BK155.out 2).trans rfl
    have hcz7_3 : wr.cell? ⟨gb155, 3, none⟩ = some (.slice A0_3 l0_3.length c0_3) := (jC BK155.out 3).trans rfl
    have hcz7_4 : wr.cell? ⟨gb155, 4, none⟩ = some (.int .i64 a0_4) := (jC BK155.out 4).trans rfl
    have hfz7_0 := jF BK155.out 0
    have hfz7_1 := jF BK155.out 1
    have hfz7_2 := jF BK155.out 2
    have hfz7_3 := jF BK155.out 3
    have hfz7_4 := jF BK155.out 4
    go_wp2
    go_loopg [3, 20] k1 (fun kq v3 v20 w' => ∃ (x3_2 : List Int) (x20_2 : Int), v20 = .int .i64 x20_2 ∧ Aside0 (states_symbols.l1 kq x3_2 (l0_2.length : Int) x20_2 = some r) ∧ Aside0 (kq ≤ k1) ∧ Aside0 (Kd.R (Kd.int .i64) 29 w' w.heap.size (fun _ => True) v3 x3_2) ∧ Aside0 (w'.heap[gb155]? = some (.cells #[(.slice A0_0 l0_0.length c0_0), (.slice A0_1 l0_1.length c0_1), (.slice A0_2 l0_2.length c0_2), (.slice A0_3 l0_3.length c0_3), .int .i64 a0_4] 27 (0, 0))) ∧ Aside0 (Below w.heap.size w w'))
    case atStart => exact ⟨(x3_1), (0), (by first | rfl | (simp; done) | (simp [*]; done)), H', ⟨Nat.le_refl _⟩, ⟨by (with_reducible repeat (first | apply Kd.R_alloc | apply Kd.R_drewN | apply Kd.R_drew)); exact HO_3.out⟩, ⟨by (with_reducible repeat (first | refine jY ?_ _ | refine jZ ?_ | refine jX ?_ _)); exact BK155.out⟩, ⟨by repeat (first | (with_reducible first | exact HB.out | apply jA | apply jN | apply jD | refine jS ?_ GE155.out) | exact HB.out)⟩⟩
    case round =>
     clear H'
     try clear p2
     try clear c4
     try clear c4b0
     try clear c5
     try clear p6
     try clear hcz3_0
     try clear hcz3_1
     try clear hcz3_2
     try clear hcz3_3
     try clear hcz3_4
     try clear hcz7_0
     try clear hcz7_1
     try clear hcz7_2
     try clear hcz7_3
     try clear hcz7_4
     try clear hfz3_0
     try clear hfz3_1
     try clear hfz3_2
     try clear hfz3_3
     try clear hfz3_4
     try clear hfz7_0
     try clear hfz7_1
     try clear hfz7_2
     try clear hfz7_3
     try clear hfz7_4
     try clear p2
     obtain ⟨x3_2, x20_2, rfl, HA, HK2, HO_3, BK155, HB⟩ := hrel
     cases gk with
     | zero => exact absurd HA.out (by simp [states_symbols.l1])
     | succ k2 =>
      have H := HA.out
      clear HA
      simp only [states_symbols.l1] at H
      by_cases c8 : x20_2 < (l0_2.length : Int)
      ·rw [if_pos c8] at H
       have c8b0 : decide (x20_2 < (l0_2.length : Int)) = true := decide_eq_true c8
       clear c8
       by_cases c9 : x3_2.length < 17592186044416
       ·rw [if_pos c9] at H
        have LMc9 := jM c9
        clear c9
        obtain ⟨y159, hy159⟩ : ∃ y_ : List Int, y_ = (x3_2 ++ [wrap64 ((-1) - x20_2)]) := ⟨_, rfl⟩
        replace H : (states_symbols.l1 k2 y159 (l0_2.length : Int) (wrap64 (x20_2 + 1))) = some r := by first | (rw [hy159]; with_reducible exact H) | (have H2_ := (Option.bind_some _ _).symm.trans H; rw [hy159]; with_reducible exact H2_) | (have H2_ := (Option.bind_some _ _).symm.trans H; with_reducible exact H2_) | with_reducible exact H | (rw [hy159]; exact H) | exact H
        have Ny159 := jM hy159
        clear hy159
        have H' := jM H
        clear H
        go_wp2_with (first | ((with_reducible refine gate_builtin (b := .append) (xs := #[.tmp 23, .tmp 26]) rfl ?_); at_builtin; refine Kd.R_append (Kd.int .i64) (w0 := w) w.heap.size rfl (.tmp 23) (.tmp 26) 62 29 (.int .i64 0) 8 rfl Tryd.underlying62 info29 rfl (by decide) (by omega) u3 x3_2 (wrap64 ((-1) - x20_2)) [.int .i64 (wrap64 ((-1) - x20_2))] (fun _ => True) (fun _ => False) rfl rfl ?aP (fun _ hk => hk.elim) ?aF ?aO ?aB ?aS ?aL ?_; (case aP => exact rfl); (case aB => exact (by repeat (first | (with_reducible first | exact HB.out | apply jA | apply jN | apply jD | refine jS ?_ GE155.out) | exact HB.out))); (case aF => exact (fun _ _ => trivial)); (case aO => exact (by (with_reducible repeat (first | apply Kd.R_alloc | apply Kd.R_drewN | apply Kd.R_drew)); exact HO_3.out)); (case aS => exact (below_size (by repeat (first | (with_reducible first | exact HB.out | apply jA | apply jN | apply jD | refine jS ?_ GE155.out) | exact HB.out)))); (case aL => have := LMc9.out; omega); intro v160 w10 ho hb hg hat; rw [← Ny159.out] at ho; have n0_ := jM (blk_grown (g := gb155) (o := .cells #[.slice A0_0 l0_0.length c0_0, .slice A0_1 l0_1.length c0_1, .slice A0_2 l0_2.length c0_2, .slice A0_3 l0_3.length c0_3, .int .i64 a0_4] 27 (0, 0)) (by (with_reducible repeat (first | refine jY ?_ _ | refine jZ ?_ | refine jX ?_ _)); exact BK155.out) hg (Kd.R_ne HO_3.out BK155.out (by decide))); have n1_ := jM (hb); have n2_ := jM (ho); clear BK155; clear HB; clear HO_3; have BK155 := n0_; have HB := n1_; have HO161 := n2_; clear n0_ n1_ n2_; clear ho hb hg hat))
        go_roundg k2
        case measure => have := HK1.out; have := HK2.out; omega
        case rel => exact ⟨(y159), (wrap64 (x20_2 + 1)), (by first | rfl | (simp; done) | (simp [*]; done)), H', ⟨by have := HK1.out; have := HK2.out; omega⟩, ⟨by (with_reducible repeat (first | apply Kd.R_alloc | apply Kd.R_drewN | apply Kd.R_drew)); exact HO161.out⟩, ⟨by (with_reducible repeat (first | refine jY ?_ _ | refine jZ ?_ | refine jX ?_ _)); exact BK155.out⟩, ⟨by repeat (first | (with_reducible first | exact HB.out | apply jA | apply jN | apply jD | refine jS ?_ GE155.out) | exact HB.out)⟩⟩
       ·rw [if_neg c9] at H
        exact absurd H (by simp)
      ·rw [if_neg c8] at H
       have c8b0 : decide (x20_2 < (l0_2.length : Int)) = false := decide_eq_false c8
       clear c8
       obtain rfl := Option.some.inj H
       go_wp2
       go_ret
       exact ⟨_, by first | rfl | (simp [errW_none, errW_some] <;> rfl) | (simp [*, errW_none, errW_some] <;> rfl), by (with_reducible repeat (first | apply Kd.R_alloc | apply Kd.R_drewN | apply Kd.R_drew)); exact HO_3.out, by repeat (first | (with_reducible first | exact HB.out | apply jA | apply jN | apply jD | refine jS ?_ GE155.out) | exact HB.out)⟩

end Go.Proofs.YtclollnicbcooaaDoor.P
end

section
namespace Go.Proofs.YtclollnicbcooaaDoor.P
open Go.RowKit Go.Lib Go.Sort Go.Proofs.YtclollnicbcooaaDoorW.PrintWords Go.Proofs.YtclollnicbcooaaDoorW.PrintLast Go.Proofs.YtclollnicbcooaaDoorW.PrintMore St Base

def GTab (w : World) : Prop := Lib.TabIs Tryd.prog w "internal/strconv.uint64pow10" .u64 Lib.pow10Tab
theorem GTab.below {w w1 : World} (h : GTab w) (hb : RowKit.Below w.heap.size w w1) : GTab w1 := Lib.tabBelow_of_tabIs h w1 hb
theorem itoa_calls (n : Int) (h0 : -9223372036854775808 ≤ n) (h1 : n ≤ 9223372036854775807) (w : World) (hG : GTab w) :
  Calls Tryd.prog 43 #[.int .i64 n] w fun e w' => e = .returned (.string ⟨(itoa n).toArray⟩) ∧ RowKit.Below w.heap.size w w' := by
 refine (Any.strconv_Itoa Tryd.itoaL n h0 h1 w hG).mono ?_
 rintro e w' ⟨rfl, k, os, rfl⟩
 exact ⟨rfl, below_grow w.heap.size w (Nat.le_refl _) k os⟩

def keyS (l : List Itm) : ByteArray := ⟨(keyL l).toArray⟩
theorem keyS_inj {l m : List Itm} (h : keyS l = keyS m) : l = m := by
 unfold keyS at h
 injection h with h
 exact keyL_inj l m (by have := congrArg Array.toList h; simpa using this)
theorem bytes_app (a b : Array UInt8) : (⟨a⟩ ++ ⟨b⟩ : ByteArray) = ⟨a ++ b⟩ := by
 apply ByteArray.ext
 simp
theorem keyS_snoc (l : List Itm) (x : Itm) : keyS l ++ ((((⟨(itoa x.1).toArray⟩ ++ ⟨#[46]⟩ : ByteArray) ++ ⟨(itoa x.2).toArray⟩ : ByteArray) ++ ⟨#[32]⟩ : ByteArray)) = keyS (l ++ [x]) := by
 unfold keyS
 rw [keyL_app, bytes_app, bytes_app, bytes_app, bytes_app]
 simp [keyL, pieceL]
end Go.Proofs.YtclollnicbcooaaDoor.P
end

section
namespace Go.Proofs.YtclollnicbcooaaDoor.P
open Go.RowKit Go.Lib Go.Sort Go.Proofs.YtclollnicbcooaaDoorW.PrintWords Go.Proofs.YtclollnicbcooaaDoorW.PrintLast Go.Proofs.YtclollnicbcooaaDoorW.PrintMore St Base

theorem info28 : (Tryd.prog.info? 28).map (fun i => (i.zero, i.size, i.bytes)) = some (some (.slice none 0 0), 1, 24) := by kernel_rfl
theorem keyed9 : Maps.Keyed Tryd.prog 9 := Maps.string_keyed Tryd.underlying9
theorem key9 (s : ByteArray) (h : s.size ≤ maxLen) : ∃ x, keyOf Tryd.prog 9 (.string s) = some x := by
 unfold keyOf
 rw [Tryd.underlying9]
 simp only [mapKey, Tryd.underlying9]
 rw [if_pos h]
 exact ⟨_, rfl⟩
theorem dec_len : ∀ (k u : Nat), u < 10 ^ (k + 1) → (decDigits u).length ≤ k + 1
 | 0, u, h => by rw [dec_small u (by omega)]; simp
 | k + 1, u, h => by
  by_cases hu : u < 10
  ·rw [dec_small u hu]; simp
  ·rw [dec_step u hu, List.length_append, List.length_singleton]
   have := dec_len k (u / 10) (by rw [Nat.pow_succ] at h; omega)
   omega
theorem itoa_len (n : Int) (h : -9223372036854775808 ≤ n ∧ n ≤ 9223372036854775807) : (itoa n).length ≤ 20 := by
 unfold itoa
 split
 ·have := dec_len 18 n.natAbs (by omega)
  simp only [List.length_cons]; omega
 ·have := dec_len 18 n.toNat (by omega)
  omega
theorem keyL_len : ∀ l : List Itm, (∀ x ∈ l, rngI x) → (keyL l).length ≤ l.length * 42
 | [], _ => by simp [keyL]
 | x :: l, h => by
  have h1 := keyL_len l (fun y hy => h y (List.mem_cons_of_mem _ hy))
  have h2 := h x (List.mem_cons_self ..)
  have h3 := itoa_len x.1 h2.1
  have h4 := itoa_len x.2 h2.2
  unfold keyL pieceL
  simp only [List.length_append, List.length_cons, List.length_nil]
  omega
theorem keyS_size {l : List Itm} (h : ∀ x ∈ l, rngI x) (hs : l.length ≤ 1000000) : (keyS l).size ≤ maxLen := by
 have := keyL_len l h
 show (keyL l).toArray.size ≤ maxLen
 rw [List.size_toArray]
 unfold maxLen
 omega
/-- The rows' numbers, as the map has them. -/
def numK (K : List (List Itm)) : List (Value × Value) := K.zipIdx.map fun p => (.string (keyS p.1), .int .i64 (p.2 : Int))
theorem numK_snoc (K : List (List Itm)) (l : List Itm) : numK (K ++ [l]) = numK K ++ [(.string (keyS l), .int .i64 (K.length : Int))] := by
 unfold numK
 rw [List.zipIdx_append]
 simp
theorem numK_mem {K : List (List Itm)} {p : Value × Value} (h : p ∈ numK K) : ∃ (i : Nat) (l : List Itm), K[i]? = some l ∧ p = (.string (keyS l), .int .i64 (i : Int)) := by
 unfold numK at h
 obtain ⟨⟨l, i⟩, hm, rfl⟩ := List.mem_map.1 h
 have := List.mem_zipIdx hm
 simp only [Nat.zero_add, Nat.sub_zero] at this
 obtain ⟨_, h2, h3⟩ := this
 exact ⟨i, l, (List.getElem?_eq_getElem h2).trans (congrArg some h3.symm), rfl⟩
theorem numK_has {K : List (List Itm)} {i : Nat} {l : List Itm} (h : K[i]? = some l) : ((.string (keyS l), .int .i64 (i : Int)) : Value × Value) ∈ numK K := by
 unfold numK
 exact List.mem_map.2 ⟨(l, i), List.mem_of_getElem? (by rw [List.getElem?_zipIdx, h, Nat.zero_add]; rfl), rfl⟩
theorem look_has {W : World} {r i : Nat} {K : List (List Itm)} {l : List Itm} (hz : (keyS l).size ≤ maxLen) (h : Mp Tryd.prog 9 W r (numK K)) (hd : K.Nodup) (hi : K[i]? = some l) : (Instr.lookup 87 (.map (some r)) (.string (keyS l)) true).run Tryd.prog W = .ok (.tuple #[.int .i64 (i : Int), .bool true]) W := by
 refine h.find (et := 3) Tryd.underlying87 keyed9 (key9 _ hz).choose_spec (numK_has hi) (fun p hp he => ?_) true
 obtain ⟨j, m, hj, rfl⟩ := numK_mem hp
 injection he with he
 obtain rfl := keyS_inj he
 obtain ⟨h1, h2⟩ := List.getElem?_eq_some_iff.1 hi
 obtain ⟨h3, h4⟩ := List.getElem?_eq_some_iff.1 hj
 have : i = j := (List.getElem_inj hd).1 (h2.trans h4.symm)
 rw [this]
theorem look_not {W : World} {r : Nat} {K : List (List Itm)} {l : List Itm} (hz : (keyS l).size ≤ maxLen) (h : Mp Tryd.prog 9 W r (numK K)) (hn : l ∉ K) : (Instr.lookup 87 (.map (some r)) (.string (keyS l)) true).run Tryd.prog W = .ok (.tuple #[.int .i64 0, .bool false]) W := by
 refine h.miss (et := 3) Tryd.underlying87 keyed9 (key9 _ hz).choose_spec (Tryd.zeroValue3 W) (fun p hp he => ?_) true
 obtain ⟨j, m, hj, rfl⟩ := numK_mem hp
 injection he with he
 obtain rfl := keyS_inj he
 exact hn (List.mem_of_getElem? hj)
theorem look_put {W : World} {r : Nat} {K : List (List Itm)} {l : List Itm} (hz : (keyS l).size ≤ maxLen) (h : Mp Tryd.prog 9 W r (numK K)) (hn : l ∉ K) :
  (Instr.mapUpdate 87 (.map (some r)) (.string (keyS l)) (.int .i64 (K.length : Int))).run Tryd.prog W = .ok () (Mp.put W r (.string (keyS l)) (.int .i64 (K.length : Int))) ∧ Mp Tryd.prog 9 (Mp.put W r (.string (keyS l)) (.int .i64 (K.length : Int))) r (numK (K ++ [l])) := by
 refine ⟨h.store (et := 3) Tryd.underlying87 keyed9 (key9 _ hz).choose_spec (fun p hp he => ?_) _, ?_⟩
 ·obtain ⟨j, m, hj, rfl⟩ := numK_mem hp
  injection he with he
  obtain rfl := keyS_inj he
  exact hn (List.mem_of_getElem? hj)
 ·rw [numK_snoc]
  exact h.put_is (key9 _ hz).choose_spec _

theorem numb_cases (K : List (List Itm)) (l : List Itm) (hn : l ≠ []) : (∃ j : Nat, K[j]? = some l ∧ numb K l = ((j : Int), K)) ∨ (l ∉ K ∧ numb K l = ((K.length : Int), K ++ [l])) := by
 unfold numb
 rw [if_neg hn]
 split
 ·rename_i j hf
  obtain ⟨hj, hp, _⟩ := List.findIdx?_eq_some_iff_getElem.1 hf
  exact .inl ⟨j, by rw [List.getElem?_eq_getElem hj]; exact congrArg some (of_decide_eq_true hp), rfl⟩
 ·rename_i hf
  have hh := List.findIdx?_eq_none_iff.1 hf
  exact .inr ⟨fun hm => by have := hh l hm; simp at this, rfl⟩
/-- What Build has in memory: the grammar, the result, the automaton, the map, the map's variable; behind them the rows. -/
structure Bd (w : World) (B : Nat) (G : Array Value) (Km K : List (List Itm)) (N : List (List Int)) (vK vN : Value) (okK okN : Nat → Prop) (W : World) : Prop where
 hb : RowKit.Below w.heap.size w W
 bg : W.heap[w.heap.size]? = some (.cells G 27 (0, 0))
 br : W.heap[w.heap.size + 1]? = some (.cells #[.slice none 0 0, .slice none 0 0] 49 (0, 0))
 ba : W.heap[B]? = some (.cells #[vK, vN] 49 (0, 0))
 mp : Mp Tryd.prog 9 W (B + 1) (numK Km)
 bn : W.heap[B + 2]? = some (.cells #[.map (some (B + 1))] 87 (0, 0))
 ks : Kd.S (Kd.slice 37 k37) 28 W (B + 3) (fun k => B + 3 ≤ k ∧ okK k) vK (K.map (·.map ofI))
 ns : Kd.S (Kd.slice 3 (Kd.int .i64)) 58 W (B + 3) (fun k => B + 3 ≤ k ∧ okN k) vN N
 nd : Km.Nodup
 hB : w.heap.size + 2 ≤ B
section
variable {w : World} {B : Nat} {G : Array Value} {Km K : List (List Itm)} {N : List (List Int)} {vK vN : Value} {okK okN : Nat → Prop} {W W1 : World}
theorem Bd.size (h : Bd w B G Km K N vK vN okK okN W) : B + 3 ≤ W.heap.size := blk_lt h.bn
theorem Bd.below (h : Bd w B G Km K N vK vN okK okN W) (hb : RowKit.Below W.heap.size W W1) : Bd w B G Km K N vK vN okK okN W1 where
 hb := below_step h.hb hb
 bg := blk_below h.bg hb
 br := blk_below h.br hb
 ba := blk_below h.ba hb
 mp := h.mp.same (hb.block _ h.mp.lt)
 bn := blk_below h.bn hb
 ks := Kd.S_below h.ks hb
 ns := Kd.S_below h.ns hb
 nd := h.nd
 hB := h.hB
theorem Bd.any (h : Bd w B G Km K N vK vN okK okN W) {ok' okN' : Nat → Prop} (hk : ∀ k, okK k → ok' k) (hn : ∀ k, okN k → okN' k) : Bd w B G Km K N vK vN ok' okN' W :=
 ⟨h.hb, h.bg, h.br, h.ba, h.mp, h.bn, Kd.S_mono h.ks (fun k hk' => ⟨hk'.1, hk k hk'.2⟩), Kd.S_mono h.ns (fun k hk' => ⟨hk'.1, hn k hk'.2⟩), h.nd, h.hB⟩
/-- A key more in the map. -/
theorem Bd.put (h : Bd w B G Km K N vK vN okK okN W) {Km' : List (List Itm)} {k v : Value} (hm : Mp Tryd.prog 9 (Mp.put W (B + 1) k v) (B + 1) (numK Km')) (hd : Km'.Nodup) : Bd w B G Km' K N vK vN okK okN (Mp.put W (B + 1) k v) := by
 obtain ⟨hs, hk⟩ := Mp.put_heap W (B + 1) k v
 have hB := h.hB
 have hw : (Mp.put W (B + 1) k v).os = W.os ∧ (Mp.put W (B + 1) k v).tape = W.tape ∧ (Mp.put W (B + 1) k v).output = W.output := by
  unfold Mp.put
  split <;> exact ⟨rfl, rfl, rfl⟩
 refine ⟨⟨hw.1.trans h.hb.os, hw.2.1.trans h.hb.tape, hw.2.2.trans h.hb.output, by rw [hs]; exact h.hb.size, fun i hi => (hk i (by omega)).trans (h.hb.block i hi)⟩, (hk _ (by omega)).trans h.bg, (hk _ (by omega)).trans h.br, (hk _ (by omega)).trans h.ba, hm, (hk _ (by omega)).trans h.bn, ?_, ?_, hd, hB⟩
 ·exact Kd.S_step h.ks (fun i hi hlt => hk i (by omega))
 ·exact Kd.S_step h.ns (fun i hi hlt => hk i (by omega))
/-- A row more. -/
theorem Bd.app (h : Bd w B G Km K N vK vN okK okN W) {K' : List (List Itm)} {v1 : Value} (hs : Kd.S (Kd.slice 37 k37) 28 W1 (B + 3) (fun k => B + 3 ≤ k) v1 (K'.map (·.map ofI))) (hg : W.grownBy W1 vK.ownBlock) : Bd w B G Km K' N v1 vN (fun _ => True) okN (W1.setCell ⟨B, 0, none⟩ v1) := by
 have hbase := Kd.S_base h.ks
 have hB := h.hB
 have hkeep : ∀ k, k < B + 3 → k < W.heap.size → W1.heap[k]? = W.heap[k]? := fun k h1 h2 => hg.block k h2 (fun e => by have := hbase k e.symm; omega)
 have hsz := h.size
 have hfar : ∀ k, k ≠ B → (W1.setCell ⟨B, 0, none⟩ v1).heap[k]? = W1.heap[k]? := fun k hk => Below.heap_setCell W1 ⟨B, 0, none⟩ v1 k hk
 refine ⟨below_set (below_grown h.hb hg (fun k hk => by have := hbase k hk; omega)) (by show w.heap.size ≤ B; omega), ?_, ?_, ?_, ?_, ?_, ?_, ?_, h.nd, hB⟩
 ·exact ((hfar _ (by omega)).trans (hkeep _ (by omega) (by omega))).trans h.bg
 ·exact ((hfar _ (by omega)).trans (hkeep _ (by omega) (by omega))).trans h.br
 ·exact blk_put ((hkeep _ (by omega) (by omega)).trans h.ba) 0 _ rfl
 ·exact h.mp.same ((hfar _ (by omega)).trans (hkeep _ (by omega) (by omega)))
 ·exact ((hfar _ (by omega)).trans (hkeep _ (by omega) (by omega))).trans h.bn
 ·exact Kd.S_mono (Kd.S_far hs (fun k hk => by show k ≠ B; omega) _) (fun k hk => ⟨hk, trivial⟩)
 ·exact Kd.S_far (Kd.S_over' h.ns (Kd.S_typed h.ks) (by decide) hg) (fun k hk => by show k ≠ B; omega) _
end

set_option maxHeartbeats 8000000 in
set_option maxRecDepth 100000 in
theorem number_calls {w W : World} {B : Nat} {G : Array Value} {K : List (List Itm)} {N : List (List Int)} {vK vN vl : Value} {l : List Itm} {okN : Nat → Prop} (hG : GTab w) (h : Bd w B G K K N vK vN (fun k => some k ≠ vl.ownBlock) okN W)
  (hl : Kd.R k37 37 W (B + 3) (fun k => B + 3 ≤ k) vl (l.map ofI)) (hr : ∀ x ∈ l, rngI x) (hs : l.length ≤ 1000000) (hK : K.length ≤ 3000) :
  Calls Tryd.prog 42 #[vl, .pointer (some ⟨B + 2, 0, none⟩), .pointer (some ⟨B, 0, none⟩)] W fun e w' => e = .returned (.int .i64 (numb K l).1) ∧ ∃ vK', Bd w B G (numb K l).2 (numb K l).2 N vK' vN (fun _ => True) okN w' ∧ W.heap.size ≤ w'.heap.size ∧ ∀ k, k < W.heap.size → B + 3 ≤ k → some k ≠ vK.ownBlock → w'.heap[k]? = W.heap[k]? := by
 obtain ⟨A, c, e⟩ := Kd.R_slice hl
 subst e
 rw [List.length_map] at *
 have hrd := Kd.R_reads' hl
 rw [List.length_map] at hrd
 have HL := Aside0.mk hl
 have HRD := Aside0.mk hrd.2.2
 have H := Aside0.mk h
 have HG := Aside0.mk hG
 have HRG := Aside0.mk hr
 have HK := Aside0.mk hK
 clear hl hrd h hG hr hK
 have hu28 := Tryd.underlying28
 have hu37 := Tryd.underlying37
 by_cases hnil : l = []
 ·subst hnil
  have hnb : numb K [] = (-1, K) := by unfold numb; rw [if_pos rfl]
  have HNB := Aside0.mk hnb
  clear hnb
  simp only [List.length_nil] at *
  go_enter Tryd.func42, Tryd.ntmps42
  go_wp2
  go_ret
  rw [HNB.out]
  refine ⟨rfl, vK, H.out.any (fun _ _ => trivial) (fun _ h => h), Nat.le_refl _, fun _ _ _ _ => rfl⟩
 ·have hlen0 : (l.length : Int) ≠ 0 := by
   intro e
   exact hnil (List.eq_nil_of_length_eq_zero (by omega))
  have hlen : ((l.length : Int) == 0) = false := by simpa using hlen0
  have hlen2 : decide ((l.length : Int) = 0) = false := decide_eq_false hlen0
  have HNIL := Aside0.mk hnil
  clear hnil
  go_enter Tryd.func42, Tryd.ntmps42
  go_wp2
  go_loopw [5, 15] (fun v5 v15 wr => ∃ i : Nat, v15 = .int .i64 i ∧ i ≤ l.length ∧ v5 = .string (keyS (l.take i)) ∧ Aside0 (RowKit.Below W.heap.size W wr)) (fun _ v15 _ => l.length - (intOf v15).toNat)
  case atStart => exact ⟨0, rfl, Nat.zero_le _, rfl, ⟨RowKit.Below.refl _ _⟩⟩
  case round =>
   obtain ⟨i, rfl, hi, rfl, HB⟩ := hrel
   by_cases hlt : i < l.length
   ·have hltb : decide (i < l.length) = true := decide_eq_true hlt
    obtain ⟨ad, rfl, hx0, hx1⟩ := at_T37 (Kd.C_below HRD.out HB.out) (i : Int) (by omega) (by omega)
    rw [Int.toNat_natCast] at hx0 hx1
    obtain ⟨x, hx⟩ : ∃ x, l[i] = x := ⟨_, rfl⟩
    have hxe : rd_T37 (l.map ofI) i = ofI x := by rw [← hx]; unfold rd_T37; simp [List.getD, hlt]
    rw [hxe] at hx0 hx1
    have hxr : rngI x := by rw [← hx]; exact HRG.out _ (List.getElem_mem hlt)
    have HSN := Aside0.mk (show keyS (l.take (i + 1)) = keyS (l.take i ++ [x]) by rw [List.take_add_one, List.getElem?_eq_getElem hlt, hx]; rfl)
    unfold rngI at hxr
    have HXR := Aside0.mk hxr
    replace hx0 : wr.cell? (ad.add (i * 2)) = some (.int .i64 x.1) := hx0
    replace hx1 : wr.cell? ⟨(ad.add (i * 2)).block, (ad.add (i * 2)).off + 1, none⟩ = some (.int .i64 x.2) := hx1
    clear hxr hxe hx
    go_upto_region 7 with fail
    have BX := Aside0.mk (blk_new wr (Obj.cells #[.int .i64 x.1, .int .i64 x.2] 37))
    have HB1 := Aside0.mk (below_alloc HB.out (Obj.cells #[.int .i64 x.1, .int .i64 x.2] 37))
    clear hx0 hx1 HB
    generalize wr.alloc (Obj.cells #[.int .i64 x.1, .int .i64 x.2] 37) = w1 at *
    generalize wr.heap.size = xb at *
    have y0 : w1.cell? ⟨xb, 0, none⟩ = some (.int .i64 x.1) := blk_cell BX.out 0
    have y1 : w1.cell? ⟨xb, 1, none⟩ = some (.int .i64 x.2) := blk_cell BX.out 1
    obtain ⟨sa, hsa⟩ : ∃ s : ByteArray, s = ⟨(itoa x.1).toArray⟩ := ⟨_, rfl⟩
    obtain ⟨sb, hsb⟩ : ∃ s : ByteArray, s = ⟨(itoa x.2).toArray⟩ := ⟨_, rfl⟩
    obtain ⟨sk, hsk⟩ : ∃ s : ByteArray, s = keyS (l.take i) := ⟨_, rfl⟩
    have hza : sa.size ≤ 20 := by rw [hsa]; show (itoa x.1).toArray.size ≤ 20; rw [List.size_toArray]; exact itoa_len _ HXR.out.1
    have hzb : sb.size ≤ 20 := by rw [hsb]; show (itoa x.2).toArray.size ≤ 20; rw [List.size_toArray]; exact itoa_len _ HXR.out.2
    have hzk : sk.size ≤ 42000000 := by
     rw [hsk]
     have h1 := keyL_len (l.take i) (fun y hy => HRG.out y (List.mem_of_mem_take hy))
     show (keyL (l.take i)).toArray.size ≤ _
     rw [List.size_toArray]
     have : (l.take i).length ≤ 1000000 := by rw [List.length_take]; omega
     omega
    obtain ⟨s1, hs1⟩ : ∃ s : ByteArray, s = sa ++ ⟨#[46]⟩ := ⟨_, rfl⟩
    have hz1 : s1.size ≤ 21 := by rw [hs1, ByteArray.size_append]; show sa.size + 1 ≤ 21; omega
    obtain ⟨s2, hs2⟩ : ∃ s : ByteArray, s = s1 ++ sb := ⟨_, rfl⟩
    have hz2 : s2.size ≤ 41 := by rw [hs2, ByteArray.size_append]; omega
    obtain ⟨s3, hs3⟩ : ∃ s : ByteArray, s = s2 ++ ⟨#[32]⟩ := ⟨_, rfl⟩
    have hz3 : s3.size ≤ 42 := by rw [hs3, ByteArray.size_append]; show s2.size + 1 ≤ 42; omega
    obtain ⟨s4, hs4⟩ : ∃ s : ByteArray, s = sk ++ s3 := ⟨_, rfl⟩
    have e1 : ∀ W, (Op.stringOp .add sa ⟨#[46]⟩).run Tryd.prog W = .ok (.string s1) W := fun W => by rw [hs1]; exact run_string_add_sum _ _ _ (by show sa.size + 1 ≤ _; omega)
    have e2 : ∀ W, (Op.stringOp .add s1 sb).run Tryd.prog W = .ok (.string s2) W := fun W => by rw [hs2]; exact run_string_add_sum _ _ _ (by omega)
    have e3 : ∀ W, (Op.stringOp .add s2 ⟨#[32]⟩).run Tryd.prog W = .ok (.string s3) W := fun W => by rw [hs3]; exact run_string_add_sum _ _ _ (by show s2.size + 1 ≤ _; omega)
    have e4 : ∀ W, (Op.stringOp .add sk s3).run Tryd.prog W = .ok (.string s4) W := fun W => by rw [hs4]; exact run_string_add_sum _ _ _ (by omega)
    have HS4 := Aside0.mk (show s4 = keyS (l.take (i + 1)) by rw [hs4, hs3, hs2, hs1, hsa, hsb, hsk, HSN.out]; exact keyS_snoc _ _)
    have hI1 := itoa_calls x.1 HXR.out.1.1 HXR.out.1.2
    have hI2 := itoa_calls x.2 HXR.out.2.1 HXR.out.2.2
    rw [← hsa] at hI1
    rw [← hsb] at hI2
    rw [← hsk]
    have HI1 := Aside0.mk hI1
    have HI2 := Aside0.mk hI2
    clear hI1 hI2 hza hzb hzk hz1 hz2 hz3 hsa hsb hsk hs1 hs2 hs3 hs4
    go_region_with (first
     | (go_at_call 43; (with_reducible refine (HI1.out _ ?g1).mono ?_); (case g1 => exact GTab.below HG.out (below_step H.out.hb (by repeat (first | exact HB1.out | apply below_drew1 | apply pw_below_drewN)))); rintro e W1 ⟨rfl, hb⟩; have HB2 := Aside0.mk (below_step (by repeat (first | exact HB1.out | apply below_drew1 | apply pw_below_drewN)) hb); have BX2 := Aside0.mk (blk_below (g := xb) (o := .cells #[.int .i64 x.1, .int .i64 x.2] 37 (0, 0)) (by repeat (first | exact BX.out | refine blk_drew ?_ | refine blk_drewN ?_ _)) hb); have t0 := blk_cell BX2.out 0; have t1 := blk_cell BX2.out 1; clear hb)
     | (go_at_call 43; (with_reducible refine (HI2.out _ ?g1).mono ?_); (case g1 => exact GTab.below HG.out (below_step H.out.hb (by repeat (first | exact HB2.out | apply below_drew1 | apply pw_below_drewN)))); rintro e W2 ⟨rfl, hb⟩; have HB3 := Aside0.mk (below_step (by repeat (first | exact HB2.out | apply below_drew1 | apply pw_below_drewN)) hb); clear hb))
    all_goals go_wp2_with fail
    all_goals go_roundw
    all_goals first
     | exact ⟨i + 1, rfl, by omega, congrArg Value.string HS4.out, HB3⟩
     | (simp [intOf]; omega)
   ·have hltb : decide (i < l.length) = false := decide_eq_false hlt
    have hil : i = l.length := by omega
    subst hil
    rw [List.take_length]
    have hz := keyS_size HRG.out hs
    have H2 := Aside0.mk (H.out.below HB.out)
    have HL2 := Aside0.mk (Kd.R_below HL.out HB.out)
    have b0 : wr.cell? ⟨B + 2, 0, none⟩ = some (.map (some (B + 1))) := blk_cell H2.out.bn 0
    rcases numb_cases K l HNIL.out with ⟨j, hkj, hnb⟩ | ⟨hnin, hnb⟩
    ·have hlk := look_has hz H2.out.mp H2.out.nd hkj
     have HNB := Aside0.mk hnb
     clear hnb hkj hz
     go_wp2
     go_ret
     rw [HNB.out]
     exact ⟨rfl, vK, H2.out.any (fun _ _ => trivial) (fun _ h => h), HB.out.size, fun k h1 _ _ => HB.out.block k h1⟩
    ·have hlk := look_not hz H2.out.mp hnin
     obtain ⟨hmu, hmp⟩ := look_put hz H2.out.mp hnin
     obtain ⟨AK, cK, eK⟩ := Kd.S_slice H2.out.ks
     subst eK
     rw [List.length_map] at *
     have a0 : wr.cell? ⟨B, 0, none⟩ = some (.slice AK K.length cK) := blk_cell H2.out.ba 0
     have HNB := Aside0.mk hnb
     have HNIN := Aside0.mk hnin
     have HMP := Aside0.mk hmp
     clear hnb hnin hmp hz
     go_upto_region 13 with fail
     have hnd : (K ++ [l]).Nodup := by
      rw [List.nodup_append]
      refine ⟨H2.out.nd, by simp, fun a ha b hb e => ?_⟩
      rw [List.mem_singleton] at hb
      subst hb; subst e
      exact HNIN.out ha
     have H5 := Aside0.mk (H2.out.put HMP.out hnd)
     have hph := Mp.put_heap wr (B + 1) (.string (keyS l)) (.int .i64 (K.length : Int))
     have HL5 := Aside0.mk (Kd.R_step HL2.out (fun k hk hlt => hph.2 k (by omega)))
     have HP5 := Aside0.mk hph
     clear hnd hph hlk hmu a0 b0
     generalize Mp.put wr (B + 1) (.string (keyS l)) (.int .i64 (K.length : Int)) = W5 at *
     have a0 : W5.cell? ⟨B, 0, none⟩ = some (.slice AK K.length cK) := blk_cell H5.out.ba 0
     have f0 := blk_frozen H5.out.ba 0
     have hown : ∀ k, some k = (Value.slice A l.length c).ownBlock → some k ≠ (Value.slice AK K.length cK).ownBlock := fun k e e' => by
      obtain ⟨c1, h1⟩ := Kd.R_typed HL5.out k e.symm
      obtain ⟨c2, h2⟩ := Kd.S_typed H5.out.ks k e'.symm
      rw [h1] at h2
      cases h2
     have HOW := Aside0.mk hown
     clear hown
     go_wp2_with (first | ((with_reducible refine gate_builtin (b := .append) (xs := #[.tmp 46, .tmp 48]) rfl ?_); at_builtin; refine Kd.S_append (Kd.slice 37 k37) (w0 := W5) (B + 3) rfl (.tmp 46) (.tmp 48) 46 28 (.slice none 0 0) 24 rfl Tryd.underlying46 info28 rfl (by decide) (by omega) (.slice AK K.length cK) (K.map (·.map ofI)) (l.map ofI) [.slice A l.length c] (fun k => B + 3 ≤ k) (fun k => some k = (Value.slice A l.length c).ownBlock ∧ B + 3 ≤ k) rfl rfl ⟨_, rfl, Kd.R_tight2 rfl HL5.out⟩ (fun k hk => ⟨hk.2, HOW.out k hk.1⟩) (fun k hk => Nat.le_trans H5.out.size hk) (Kd.S_mono H5.out.ks (fun k hk => ⟨hk.1, fun h2 => hk.2 h2.1⟩)) (RowKit.Below.refl _ _) H5.out.size ?aL ?_; (case aL => have := HK.out; rw [List.length_map]; omega); intro v6 w6 ho hb hg hat; obtain ⟨A6, n6, e6⟩ := Kd.S_slice ho; have e7 : (K.map (·.map ofI) ++ [l.map ofI]).length = K.length + 1 := (by simp); rw [e7] at e6; subst e6; clear e7; have HS6 := Aside0.mk ho; have HG6 := Aside0.mk hg; have c6 : w6.cell? ⟨B, 0, none⟩ = some (.slice AK K.length cK) := blk_cell ((hg.block _ (blk_lt H5.out.ba) (fun e => by have := Kd.S_base H5.out.ks _ e.symm; omega)).trans H5.out.ba) 0; have f6 := blk_frozen ((hg.block _ (blk_lt H5.out.ba) (fun e => by have := Kd.S_base H5.out.ks _ e.symm; omega)).trans H5.out.ba) 0; clear ho hb hg hat))
     go_ret
     rw [HNB.out]
     refine ⟨rfl, _, Bd.app H5.out (by rw [List.map_append]; exact HS6.out) HG6.out, ?_, fun k h1 h2 h3 => ?_⟩
     ·rw [World.size_setCell]
      exact Nat.le_trans HB.out.size (Nat.le_trans (Nat.le_of_eq HP5.out.1.symm) HG6.out.size)
     ·refine (Below.heap_setCell w6 ⟨B, 0, none⟩ _ k (by show k ≠ B; omega)).trans ?_
      have h4 : k < wr.heap.size := Nat.lt_of_lt_of_le h1 HB.out.size
      exact ((HG6.out.block k (by rw [HP5.out.1]; exact h4) (fun e => h3 (e.trans (by cases AK <;> rfl)))).trans (HP5.out.2 k (by omega))).trans (HB.out.block k h1)
end Go.Proofs.YtclollnicbcooaaDoor.P
end

section
namespace Go.Proofs.YtclollnicbcooaaDoor.P
open Go.RowKit Go.Lib Go.Sort Go.Proofs.YtclollnicbcooaaDoorW.PrintWords Go.Proofs.YtclollnicbcooaaDoorW.PrintLast Go.Proofs.YtclollnicbcooaaDoorW.PrintMore St Base

theorem nodup_len : ∀ (l m : List Itm), l.Nodup → (∀ x ∈ l, x ∈ m) → l.length ≤ m.length
 | [], m, _, _ => Nat.zero_le _
 | x :: l, m, hd, h => by
  rw [List.nodup_cons] at hd
  have hx := h x (List.mem_cons_self ..)
  have h1 := nodup_len l (m.erase x) hd.2 (fun y hy => by
   have hne : y ≠ x := fun e => hd.1 (e ▸ hy)
   exact (List.mem_erase_of_ne hne).2 (h y (List.mem_cons_of_mem _ hy)))
  have h2 := List.length_erase_of_mem hx
  have h3 : 0 < m.length := List.length_pos_of_mem hx
  rw [List.length_cons]; omega
theorem risen_nodup (l : List Itm) : (risen l).Nodup := List.Pairwise.imp (fun h e => by rw [e] at h; exact lt_irr _ h) (risen_is l).up

/-- One step of the automaton: closed, behind a symbol, rising. -/
def Sg (g : Gr) (c : List Itm) (s : Int) : List Itm := risen (stepL g (risen (closedL g c)) s)
theorem isI_rng {l2 : List ByteArray} {l3 : List S64} {st : Int} (h : Fits l2 l3 st) {x : Itm} (hx : isI (gr st l3) x = true) : -1 ≤ x.1 ∧ x.1 < 120 ∧ 0 ≤ x.2 ∧ x.2 ≤ 12 := by
 have hA := allI_has (gr st l3) x hx
 unfold isI at hx
 cases hr : rightL (gr st l3) x.1 with
 | none => rw [hr] at hx; cases hx
 | some r =>
  rw [hr] at hx
  simp only [decide_eq_true_eq] at hx
  have hf := h.few
  unfold rightL at hr
  rw [gr_len] at hr
  split at hr
  ·injection hr with hr
   rw [← hr] at hx
   simp only [List.length_cons, List.length_nil] at hx
   omega
  ·split at hr
   ·rename_i h1 h2
    rw [gr_at st l3 x.1 h2.1 h2.2] at hr
    injection hr with hr
    have : (rd_T64 l3 x.1).f2.length ≤ 12 := h.short _ (by unfold rd_T64; rw [List.getD_eq_getElem?_getD, List.getElem?_eq_getElem (by omega)]; exact List.getElem_mem (by omega))
    rw [← hr] at hx
    simp only at hx
    omega
   ·cases hr
theorem closed_small {l2 : List ByteArray} {l3 : List S64} {st : Int} (h : Fits l2 l3 st) (c : List Itm) : (risen (closedL (gr st l3) c)).length ≤ 1562 :=
 Nat.le_trans (nodup_len _ _ (risen_nodup _) (fun x hx => allI_has _ x (cl_is _ _ _ ((closedL_rise h c).mem x |>.1 hx)))) (allI_len h)
theorem Sg_small {l2 : List ByteArray} {l3 : List S64} {st : Int} (h : Fits l2 l3 st) (c : List Itm) (s : Int) : (Sg (gr st l3) c s).length ≤ 1562 ∧ ∀ x ∈ Sg (gr st l3) c s, rngI x := by
 have hm : ∀ x ∈ Sg (gr st l3) c s, ∃ y ∈ risen (closedL (gr st l3) c), x = (y.1, y.2 + 1) := fun x hx => by
  obtain ⟨y, h1, h2, h3⟩ := (stepL_mem _ _ _ _).1 (((risen_is _).mem x).1 hx)
  exact ⟨y, h1, h3⟩
 refine ⟨?_, fun x hx => ?_⟩
 ·have h1 : ((Sg (gr st l3) c s).map fun x => ((x.1, x.2 - 1) : Itm)).Nodup := by
   refine List.Pairwise.map _ (fun x y hne e => hne ?_) (risen_nodup _)
   have e1 := congrArg Prod.fst e
   have e2 := congrArg Prod.snd e
   exact Prod.ext e1 (by simp only at e2; omega)
  have h2 := nodup_len _ _ h1 (fun x hx => by
   obtain ⟨y, hy, rfl⟩ := List.mem_map.1 hx
   obtain ⟨z, hz, rfl⟩ := hm y hy
   have : (((z.1, z.2 + 1) : Itm).1, ((z.1, z.2 + 1) : Itm).2 - 1) = z := Prod.ext rfl (by show z.2 + 1 - 1 = z.2; omega)
   rw [this]; exact hz)
  rw [List.length_map] at h2
  exact Nat.le_trans h2 (closed_small h c)
 ·obtain ⟨y, hy, rfl⟩ := hm x hx
  have := isI_rng h (cl_is _ _ _ ((closedL_rise h c).mem y |>.1 hy))
  unfold rngI
  simp only
  omega

/-- All symbols: the terminals, the sorts. -/
def symsL (T S : Nat) : List Int := (List.range T).map (fun (i : Nat) => (i : Int)) ++ (List.range S).map (fun (i : Nat) => -1 - (i : Int))
theorem symsL_len (T S : Nat) : (symsL T S).length = T + S := by unfold symsL; simp
theorem sy1 : ∀ (d k S j : Nat) (x : List Int), S - j ≤ d → j ≤ S → d < k → S ≤ 1000 → x.length + d < 10000 → states_symbols.l1 k x (S : Int) (j : Int) = some (x ++ ((List.range S).drop j).map (fun (i : Nat) => -1 - (i : Int))) := by
 intro d
 induction d with
 | zero =>
  intro k S j x h1 h2 h3 h4 h5
  obtain ⟨k, rfl⟩ : ∃ m, k = m + 1 := ⟨k - 1, by omega⟩
  rw [states_symbols.l1, if_neg (by omega)]
  rw [List.drop_eq_nil_of_le (by simp; omega)]
  simp
 | succ d ih =>
  intro k S j x h1 h2 h3 h4 h5
  obtain ⟨k, rfl⟩ : ∃ m, k = m + 1 := ⟨k - 1, by omega⟩
  rw [states_symbols.l1]
  by_cases hj : (j : Int) < (S : Int)
  ·rw [if_pos hj, if_pos (by omega), IntWalk.wrap64_in _ (by omega), IntWalk.wrap64_in _ (by omega)]
   have := ih k S (j + 1) (x ++ [-1 - (j : Int)]) (by omega) (by omega) (by omega) h4 (by rw [List.length_append, List.length_singleton]; omega)
   rw [show ((j : Int) + 1) = ((j + 1 : Nat) : Int) by omega, this]
   rw [List.drop_eq_getElem_cons (i := j) (l := List.range S) (by simp; omega)]
   simp
  ·rw [if_neg hj]
   rw [List.drop_eq_nil_of_le (by simp; omega)]
   simp
theorem sy0 (l0 : List S82) (l1 : List S101) (l2 : List ByteArray) (l3 : List S64) (st : Int) (hT : l0.length ≤ 1000) (hS : l2.length ≤ 1000) : ∀ (d k j : Nat) (x : List Int), l0.length - j ≤ d → j ≤ l0.length → d + l2.length + 1 < k → x.length + d < 5000 → states_symbols.l0 k x (l0.length : Int) (j : Int) l0 l1 l2 l3 st = some (x ++ ((List.range l0.length).drop j).map (fun (i : Nat) => (i : Int)) ++ (List.range l2.length).map (fun (i : Nat) => -1 - (i : Int))) := by
 intro d
 induction d with
 | zero =>
  intro k j x h1 h2 h3 h5
  obtain ⟨k, rfl⟩ : ∃ m, k = m + 1 := ⟨k - 1, by omega⟩
  rw [states_symbols.l0, if_neg (by omega)]
  rw [List.drop_eq_nil_of_le (by simp; omega)]
  have := sy1 l2.length k l2.length 0 x (by omega) (by omega) (by omega) hS (by omega)
  simpa using this
 | succ d ih =>
  intro k j x h1 h2 h3 h5
  obtain ⟨k, rfl⟩ : ∃ m, k = m + 1 := ⟨k - 1, by omega⟩
  rw [states_symbols.l0]
  by_cases hj : (j : Int) < (l0.length : Int)
  ·rw [if_pos hj, if_pos (by omega), IntWalk.wrap64_in _ (by omega)]
   have := ih k (j + 1) (x ++ [(j : Int)]) (by omega) (by omega) (by omega) (by rw [List.length_append, List.length_singleton]; omega)
   rw [show ((j : Int) + 1) = ((j + 1 : Nat) : Int) by omega, this]
   rw [List.drop_eq_getElem_cons (i := j) (l := List.range l0.length) (by simp; omega)]
   simp
  ·rw [if_neg hj]
   rw [List.drop_eq_nil_of_le (by simp; omega)]
   have := sy1 l2.length k l2.length 0 x (by omega) (by omega) (by omega) hS (by omega)
   simpa using this
theorem symbols_is (l0 : List S82) (l1 : List S101) (l2 : List ByteArray) (l3 : List S64) (st : Int) (hT : l0.length ≤ 60) (hS : l2.length ≤ 60) : states_symbols.f 300 l0 l1 l2 l3 st = some (symsL l0.length l2.length) := by
 unfold states_symbols.f symsL
 have := sy0 l0 l1 l2 l3 st (by omega) (by omega) l0.length 300 0 [] (by omega) (by omega) (by omega) (by simp; omega)
 simpa using this
end Go.Proofs.YtclollnicbcooaaDoor.P
end

section
namespace Go.Proofs.YtclollnicbcooaaDoor.P
open Go.RowKit Go.Lib Go.Sort Go.Proofs.YtclollnicbcooaaDoorW.PrintWords Go.Proofs.YtclollnicbcooaaDoorW.PrintLast Go.Proofs.YtclollnicbcooaaDoorW.PrintMore St Base
attribute [local go_sem] Oper.semAt_some

def builtL (T S : Nat) (g : Gr) : Option (Option (List (List Itm) × List (List Int))) := buildL (Sg g) (symsL T S) 2000 2003 0 [[(-1, 0)]] []
def outB : Option (List (List Itm) × List (List Int)) → List (List S37) × List (List Int) × Int
 | none => ([], [], 4)
 | some (K, N) => (K.map (·.map ofI), N, 0)
def states_Build.f (l0 : List S82) (l1 : List S101) (l2 : List ByteArray) (l3 : List S64) (st : Int) : Option (List (List S37) × List (List Int) × Int) :=
 if validB l0 l1 l2 l3 st = true then (if l3.all okP = true then (builtL l0.length l2.length (gr st l3)).map outB else none) else some ([], [], 1)

/-- Between two rounds of the outer loop. -/
structure Bx (T S : Nat) (g : Gr) (R : Option (List (List Itm) × List (List Int))) (n : Nat) (K : List (List Itm)) (N : List (List Int)) : Prop where
 run : buildL (Sg g) (symsL T S) 2000 n N.length K N = some R
 few : K.length ≤ 2000
 small : ∀ c ∈ K, c.length ≤ 1562 ∧ ∀ x ∈ c, rngI x
 rows : N.length ≤ K.length
 n3 : N.length + n ≤ 2003
theorem Bx.start {T S : Nat} {g : Gr} {R : Option (List (List Itm) × List (List Int))} (h : builtL T S g = some R) : Bx T S g R 2003 [[(-1, 0)]] [] where
 run := h
 few := by simp
 small := fun c hc => by
  rw [List.mem_singleton] at hc
  subst hc
  refine ⟨by simp, fun x hx => ?_⟩
  rw [List.mem_singleton] at hx
  subst hx
  unfold rngI
  simp only
  omega
 rows := by simp
 n3 := by simp
/-- Within a round: the first j symbols are done. -/
structure Rx (f : Int → List Itm) (syms : List Int) (res : List Int × List (List Itm)) (j : Nat) (nums : List Int) (K : List (List Itm)) : Prop where
 run1 : nums ++ (rowL f (syms.drop j) K).1 = res.1
 run2 : (rowL f (syms.drop j) K).2 = res.2
 few : K.length ≤ 2000 + j
 small : ∀ c ∈ K, c.length ≤ 1562 ∧ ∀ x ∈ c, rngI x
 le : j ≤ syms.length
 len : nums.length = j
theorem numb_small {K : List (List Itm)} {l : List Itm} (hK : ∀ c ∈ K, c.length ≤ 1562 ∧ ∀ x ∈ c, rngI x) (hl : l.length ≤ 1562 ∧ ∀ x ∈ l, rngI x) : (∀ c ∈ (numb K l).2, c.length ≤ 1562 ∧ ∀ x ∈ c, rngI x) ∧ (numb K l).2.length ≤ K.length + 1 := by
 by_cases h : l = []
 ·have e : numb K l = (-1, K) := by unfold numb; rw [if_pos h]
  rw [e]
  exact ⟨hK, Nat.le_succ _⟩
 ·rcases numb_cases K l h with ⟨j, _, e⟩ | ⟨_, e⟩
  ·rw [e]; exact ⟨hK, Nat.le_succ _⟩
  ·rw [e]
   refine ⟨fun c hc => ?_, by simp⟩
   rcases List.mem_append.1 hc with h1 | h1
   ·exact hK c h1
   ·rw [List.mem_singleton] at h1
    subst h1; exact hl
theorem Rx.next {f : Int → List Itm} {syms : List Int} {res : List Int × List (List Itm)} {j : Nat} {nums : List Int} {K : List (List Itm)} (h : Rx f syms res j nums K) (hj : j < syms.length) {s : Int} (hs : Go.Proofs.YtclollnicbcooaaDoorW.PrintWords.rd syms j = s) (hf : (f s).length ≤ 1562 ∧ ∀ x ∈ f s, rngI x) :
  Rx f syms res (j + 1) (nums ++ [(numb K (f s)).1]) (numb K (f s)).2 := by
 have e : syms.drop j = s :: syms.drop (j + 1) := by
  rw [List.drop_eq_getElem_cons hj]
  congr 1
  rw [← hs]
  unfold Go.Proofs.YtclollnicbcooaaDoorW.PrintWords.rd
  rw [Int.toNat_natCast, List.getD_eq_getElem?_getD, List.getElem?_eq_getElem hj]
  rfl
 obtain ⟨h1, h2⟩ := numb_small h.small hf
 refine ⟨?_, ?_, by have := h.few; omega, h1, hj, by rw [List.length_append, List.length_singleton, h.len]⟩
 ·have := h.run1
  rw [e, rowL] at this
  rw [← this]
  simp
 ·have := h.run2
  rw [e, rowL] at this
  exact this
theorem Rx.done {f : Int → List Itm} {syms : List Int} {res : List Int × List (List Itm)} {j : Nat} {nums : List Int} {K : List (List Itm)} (h : Rx f syms res j nums K) (hj : j = syms.length) : nums = res.1 ∧ K = res.2 := by
 have h1 := h.run1
 have h2 := h.run2
 rw [hj, List.drop_length] at h1 h2
 rw [rowL] at h1 h2
 rw [List.append_nil] at h1
 exact ⟨h1, h2⟩
theorem Rx.start {T S : Nat} {g : Gr} {R : Option (List (List Itm) × List (List Int))} {n : Nat} {K : List (List Itm)} {N : List (List Int)} (h : Bx T S g R n K N) (f : Int → List Itm) (syms : List Int) : Rx f syms (rowL f syms K) 0 [] K where
 run1 := by simp
 run2 := by simp
 few := h.few
 small := h.small
 le := Nat.zero_le _
 len := rfl
theorem Bx.on {T S : Nat} {g : Gr} {R : Option (List (List Itm) × List (List Int))} {n : Nat} {K : List (List Itm)} {N : List (List Int)} {c : List Itm} (h : Bx T S g R (n + 1) K N) (hc : K[N.length]? = some c) {K' : List (List Itm)} {nums : List Int} (hr : nums = (rowL (Sg g c) (symsL T S) K).1 ∧ K' = (rowL (Sg g c) (symsL T S) K).2) (hs : ∀ c ∈ K', c.length ≤ 1562 ∧ ∀ x ∈ c, rngI x) :
  (2000 < K'.length → R = none) ∧ (¬ 2000 < K'.length → Bx T S g R n K' (N ++ [nums])) := by
 have hr1 := h.run
 rw [buildL, hc] at hr1
 simp only at hr1
 rw [← hr.1, ← hr.2] at hr1
 have hn := h.n3
 constructor
 ·intro hm
  rw [if_pos hm] at hr1
  exact (Option.some.inj hr1).symm
 ·intro hm
  rw [if_neg hm] at hr1
  obtain ⟨M, e, _⟩ := rowL_is (Sg g c) (symsL T S) K
  obtain ⟨hlt, _⟩ := List.getElem?_eq_some_iff.1 hc
  have hl : K.length ≤ K'.length := by rw [hr.2, e, List.length_append]; omega
  refine ⟨?_, by omega, hs, ?_, ?_⟩
  ·rw [List.length_append, List.length_singleton]; exact hr1
  ·rw [List.length_append, List.length_singleton]; omega
  ·rw [List.length_append, List.length_singleton]; omega
theorem Bx.fine {T S : Nat} {g : Gr} {R : Option (List (List Itm) × List (List Int))} {n : Nat} {K : List (List Itm)} {N : List (List Int)} (h : Bx T S g R (n + 1) K N) (hc : K[N.length]? = none) : R = some (K, N) := by
 have hr1 := h.run
 rw [buildL, hc] at hr1
 exact (Option.some.inj hr1).symm
theorem Bx.pos {T S : Nat} {g : Gr} {R : Option (List (List Itm) × List (List Int))} {n : Nat} {K : List (List Itm)} {N : List (List Int)} (h : Bx T S g R n K N) : ∃ m, n = m + 1 := by
 cases n with
 | zero => have := h.run; cases this
 | succ m => exact ⟨m, rfl⟩

theorem Bd.start {w W : World} {G : Array Value} (hb : RowKit.Below w.heap.size w W) (bg : W.heap[w.heap.size]? = some (.cells G 27 (0, 0))) (br : W.heap[w.heap.size + 1]? = some (.cells #[.slice none 0 0, .slice none 0 0] 49 (0, 0))) :
  Bd w W.heap.size G [] [] [] (.slice none 0 0) (.slice none 0 0) (fun _ => True) (fun _ => True) (((W.alloc (Obj.cells #[.slice none 0 0, .slice none 0 0] 49)).alloc (Obj.map #[] 0)).alloc (Obj.cells #[.map (some (W.heap.size + 1))] 87)) where
 hb := below_alloc (below_alloc (below_alloc hb _) _) _
 bg := blk_alloc (blk_alloc (blk_alloc bg _) _) _
 br := blk_alloc (blk_alloc (blk_alloc br _) _) _
 ba := blk_alloc (blk_alloc (blk_new W _) _) _
 mp := by
  have h := Mp.new Tryd.prog 9 (W.alloc (Obj.cells #[.slice none 0 0, .slice none 0 0] 49))
  rw [World.size_alloc] at h
  exact h.same (Below.block (below_alloc (RowKit.Below.refl _ _) _) _ h.lt)
 bn := by
  have h := blk_new ((W.alloc (Obj.cells #[.slice none 0 0, .slice none 0 0] 49)).alloc (Obj.map #[] 0)) (Obj.cells #[.map (some (W.heap.size + 1))] 87)
  rw [World.size_alloc, World.size_alloc] at h
  exact h
 ks := Kd.S_nil _ _ _ _ _
 ns := Kd.S_nil _ _ _ _ _
 nd := List.nodup_nil
 hB := blk_lt br
/-- A row of one item that a call makes. -/
theorem one_row (W : World) (B : Nat) (hB : B + 3 ≤ W.heap.size) : Kd.R k37 37 (W.alloc (Obj.cells #[.int .i64 (-1), .int .i64 0] 37)) (B + 3) (fun k => B + 3 ≤ k) (.slice (some ⟨W.heap.size, 0, none⟩) 1 1) ([((-1, 0) : Itm)].map ofI) := by
 have h := R_of_own2 (W := W.alloc (Obj.cells #[.int .i64 (-1), .int .i64 0] 37)) (base := B + 3) (ok := fun k => B + 3 ≤ k) (v := .slice (some ⟨W.heap.size, 0, none⟩) 1 1) (l := [((-1, 0) : Itm)]) ?_ ?_
 ·exact h
 ·refine ⟨rfl, .inr ⟨W.heap.size, 1, _, rfl, hB, blk_new W _, ?_⟩⟩
  exact ⟨by decide, by decide, rfl, by simp [flatC, encI]⟩
 ·intro k hk
  injection hk with hk
  subst hk
  exact hB
section
variable {w : World} {B Bn : Nat} {G : Array Value} {Km K : List (List Itm)} {N : List (List Int)} {vK vN : Value} {okK okN : Nat → Prop} {W W1 : World}
/-- A row of numbers more. -/
theorem Bd.appN (h : Bd w B G Km K N vK vN okK okN W) {N' : List (List Int)} {v1 : Value} (hs : Kd.S (Kd.slice 3 (Kd.int .i64)) 58 W1 (B + 3) (fun k => B + 3 ≤ k) v1 N') (hg : W.grownBy W1 vN.ownBlock) : Bd w B G Km K N' vK v1 (fun _ => True) (fun _ => True) (W1.setCell ⟨B, 1, none⟩ v1) := by
 have hbase := Kd.S_base h.ns
 have hB := h.hB
 have hkeep : ∀ k, k < B + 3 → k < W.heap.size → W1.heap[k]? = W.heap[k]? := fun k h1 h2 => hg.block k h2 (fun e => by have := hbase k e.symm; omega)
 have hsz := h.size
 have hfar : ∀ k, k ≠ B → (W1.setCell ⟨B, 1, none⟩ v1).heap[k]? = W1.heap[k]? := fun k hk => Below.heap_setCell W1 ⟨B, 1, none⟩ v1 k hk
 refine ⟨below_set (below_grown h.hb hg (fun k hk => by have := hbase k hk; omega)) (by show w.heap.size ≤ B; omega), ?_, ?_, ?_, ?_, ?_, ?_, ?_, h.nd, hB⟩
 ·exact ((hfar _ (by omega)).trans (hkeep _ (by omega) (by omega))).trans h.bg
 ·exact ((hfar _ (by omega)).trans (hkeep _ (by omega) (by omega))).trans h.br
 ·exact blk_put ((hkeep _ (by omega) (by omega)).trans h.ba) 1 _ rfl
 ·exact h.mp.same ((hfar _ (by omega)).trans (hkeep _ (by omega) (by omega)))
 ·exact ((hfar _ (by omega)).trans (hkeep _ (by omega) (by omega))).trans h.bn
 ·exact Kd.S_mono (Kd.S_far (Kd.S_over' h.ks (Kd.S_typed h.ns) (by decide) hg) (fun k hk => by have := hk.1; show k ≠ B; omega) _) (fun k hk => ⟨hk.1, trivial⟩)
 ·exact Kd.S_mono (Kd.S_far hs (fun k hk => by show k ≠ B; omega) _) (fun k hk => ⟨hk, trivial⟩)
/-- Another row of numbers grows. -/
theorem Bd.other (h : Bd w B G Km K N vK vN okK (fun k => k < Bn) W) {v : Value} (hty : ∀ k, v.ownBlock = some k → ∃ cells, W.heap[k]? = some (.cells cells 3 (0, 0))) (hbs : ∀ k, v.ownBlock = some k → Bn ≤ k) (hBn : B + 3 ≤ Bn) (hg : W.grownBy W1 v.ownBlock) : Bd w B G Km K N vK vN okK (fun k => k < Bn) W1 := by
 have hB := h.hB
 have hsz := h.size
 have hkeep : ∀ k, k < B + 3 → W1.heap[k]? = W.heap[k]? := fun k h1 => hg.block k (by omega) (fun e => by have := hbs k e.symm; omega)
 refine ⟨below_grown h.hb hg (fun k hk => by have := hbs k hk; omega), ?_, ?_, ?_, ?_, ?_, ?_, ?_, h.nd, hB⟩
 ·exact (hkeep _ (by omega)).trans h.bg
 ·exact (hkeep _ (by omega)).trans h.br
 ·exact (hkeep _ (by omega)).trans h.ba
 ·exact h.mp.same (hkeep _ (by omega))
 ·exact (hkeep _ (by omega)).trans h.bn
 ·exact Kd.S_over' h.ks hty (by decide) hg
 ·exact Kd.S_grown h.ns hg (fun k hk e => by have := hbs k e.symm; have := hk.2; omega)
theorem Bd.later (h : Bd w B G Km K N vK vN okK okN W) : Bd w B G Km K N vK vN okK (fun k => k < W.heap.size) W :=
 ⟨h.hb, h.bg, h.br, h.ba, h.mp, h.bn, h.ks, Kd.S_mono (Kd.S_bound h.ns) (fun k hk => ⟨hk.1.1, hk.2.2.1⟩), h.nd, h.hB⟩
theorem Bd.apart (h : Bd w B G Km K N vK vN okK okN W) (hb : RowKit.Below W.heap.size W W1) {v : Value} (hbase : ∀ k, v.ownBlock = some k → W.heap.size ≤ k) : Bd w B G Km K N vK vN (fun k => some k ≠ v.ownBlock) okN W1 := by
 have h1 := h.below hb
 exact ⟨h1.hb, h1.bg, h1.br, h1.ba, h1.mp, h1.bn, Kd.S_mono (Kd.S_elder' h.ks hbase hb) (fun k hk => ⟨hk.1.1, hk.2⟩), h1.ns, h1.nd, h1.hB⟩
theorem R_up {α : Type} {d : Kd α} {e b : Nat} {ok : Nat → Prop} {v : Value} {xs : List α} (h : d.R e W b ok v xs) (hb : B + 3 ≤ b) : d.R e W (B + 3) (fun k => B + 3 ≤ k) v xs :=
 Kd.R_mono (Kd.R_lower (Kd.R_bound h) hb) (fun k hk => Nat.le_trans hb hk.2.1)
theorem R_numb {α : Type} {d : Kd α} {e b : Nat} {ok : Nat → Prop} {v : Value} {xs : List α} (h : d.R e W b ok v xs) (hK : ∀ k, vK.ownBlock = some k → ∃ cells, W.heap[k]? = some (.cells cells 28 (0, 0))) (ht : ∀ q, q ∈ e :: d.E → q ≠ 28) (hb : B + 3 ≤ b) (hk : ∀ k, k < W.heap.size → B + 3 ≤ k → some k ≠ vK.ownBlock → W1.heap[k]? = W.heap[k]?) : d.R e W1 b ok v xs := by
 refine Kd.R_mono (Kd.R_move (Kd.R_bound h) (fun k hh => ?_)) (fun k hh => hh.1)
 obtain ⟨_, h1, h2, q, hq, cells, hc⟩ := hh
 refine hk k h2 (by omega) (fun e' => ?_)
 obtain ⟨cells', hc'⟩ := hK k e'.symm
 rw [hc] at hc'
 injection hc' with hc'
 injection hc' with _ hc'
 exact ht q hq hc'
/-- One of the rows of items. -/
theorem kernel_at (h : Bd w B G Km K N vK vN okK okN W) {i : Nat} {c : List Itm} (hc : K[i]? = some c) : ∃ (ad : Addr) (n : Nat) (A : Option Addr) (cc : Nat), vK = .slice (some ad) K.length n ∧ W.cell? (ad.add i) = some (.slice A c.length cc) ∧ c.length ≤ cc ∧ Kd.C k37 W A c.length (c.map ofI) := by
 obtain ⟨A0, n, e, hn, hC⟩ := Kd.S_reads h.ks
 obtain ⟨hlt, _⟩ := List.getElem?_eq_some_iff.1 hc
 rw [List.length_map] at hC e
 obtain ⟨ad, cs, e1, hcl, hK, hcc⟩ := Kd.C_get hC [] (i : Int) (by omega) (by omega)
 have e3 : (K.map (·.map ofI)).getD (i : Int).toNat [] = c.map ofI := by
  rw [Int.toNat_natCast, List.getD_eq_getElem?_getD, List.getElem?_map, hc]
  rfl
 rw [e3] at hK
 obtain ⟨A, cc, e2, hle, hR⟩ := hK
 rw [List.length_map] at e2 hle hR
 have h3 := hcc 0 (.slice A c.length cc) (by rw [e2]; rfl)
 refine ⟨ad, n, A, cc, by rw [e, e1], ?_, hle, hR⟩
 rw [← h3]
 congr 2
 first | rfl | (show i = (i : Int).toNat * 1 + 0; omega) | simp
end
theorem closed_is {l0 : List S82} {l1 : List S101} {l2 : List ByteArray} {l3 : List S64} {st : Int} (hv : validB l0 l1 l2 l3 st = true) (hp : l3.all okP = true) {c : List Itm} (hc : c.length ≤ 1562 ∧ ∀ x ∈ c, rngI x) : states_closed.f l0 l1 l2 l3 st (c.map ofI) = some ((risen (closedL (gr st l3) c)).map ofI) := by
 unfold states_closed.f
 rw [if_pos, map_toI_ofI]
 refine ⟨hv, hp, by rw [List.length_map]; omega, List.all_eq_true.2 (fun x hx => ?_)⟩
 obtain ⟨y, hy, rfl⟩ := List.mem_map.1 hx
 have := hc.2 y hy
 unfold okI
 exact decide_eq_true this
theorem step_is {l0 : List S82} {l1 : List S101} {l2 : List ByteArray} {l3 : List S64} {st : Int} (hv : validB l0 l1 l2 l3 st = true) (c : List Itm) (s : Int) : states_step.f l0 l1 l2 l3 st ((risen (closedL (gr st l3) c)).map ofI) s = some ((Sg (gr st l3) c s).map ofI) := by
 unfold states_step.f
 rw [if_pos, map_toI_ofI]
 ·rfl
 ·refine ⟨hv, ?_⟩
  rw [List.length_map]
  have := closed_small (fits_of hv) c
  omega

theorem terms_few {l0 : List S82} {l1 : List S101} {l2 : List ByteArray} {l3 : List S64} {st : Int} (h : validB l0 l1 l2 l3 st = true) : l0.length ≤ 60 := by
 unfold validB at h
 simp only [Bool.and_eq_true, Bool.not_eq_true', decide_eq_false_iff_not, inB, decide_eq_true_eq] at h
 omega
set_option maxHeartbeats 4000000 in
set_option maxRecDepth 100000 in
theorem build_bad (A0 : Option Addr) (c0 : Nat) (l0 : List S82) (A1 : Option Addr) (c1 : Nat) (l1 : List S101) (A2 : Option Addr) (c2 : Nat) (l2 : List ByteArray) (A3 : Option Addr) (c3 : Nat) (l3 : List S64) (st : Int) (w : World)
  (hr0 : Kd.C k82 w A0 l0.length l0) (hc0 : l0.length ≤ c0) (hr1 : Kd.C k101 w A1 l1.length l1) (hc1 : l1.length ≤ c1) (hr2 : Kd.C Kd.string w A2 l2.length l2) (hc2 : l2.length ≤ c2) (hr3 : Kd.C k64 w A3 l3.length l3) (hc3 : l3.length ≤ c3) (hv : validB l0 l1 l2 l3 st = false) :
  Calls Tryd.prog 23 #[.agg #[.slice A0 l0.length c0, .slice A1 l1.length c1, .slice A2 l2.length c2, .slice A3 l3.length c3, .int .i64 st]] w fun e w' => e = .returned (.tuple #[.agg #[.slice none 0 0, .slice none 0 0], .int .i64 1]) ∧ RowKit.Below w.heap.size w w' := by
 have HR0 := Aside0.mk hr0
 have HR1 := Aside0.mk hr1
 have HR2 := Aside0.mk hr2
 have HR3 := Aside0.mk hr3
 have HC0 := Aside0.mk hc0
 have HC1 := Aside0.mk hc1
 have HC2 := Aside0.mk hc2
 have HC3 := Aside0.mk hc3
 have HV := Aside0.mk (show inst_Valid.f l0 l1 l2 l3 st = some false by unfold inst_Valid.f; rw [hv])
 clear hr0 hr1 hr2 hr3 hc0 hc1 hc2 hc3 hv
 have hu27 := Tryd.underlying27
 have hu49 := Tryd.underlying49
 go_enter Tryd.func23, Tryd.ntmps23
 go_upto_region 1 with fail
 have BG := Aside0.mk (blk_alloc (blk_new w (Obj.cells #[.slice A0 l0.length c0, .slice A1 l1.length c1, .slice A2 l2.length c2, .slice A3 l3.length c3, .int .i64 st] 27)) (Obj.cells #[.slice none 0 0, .slice none 0 0] 49))
 have BR := Aside0.mk (show ((w.alloc (Obj.cells #[.slice A0 l0.length c0, .slice A1 l1.length c1, .slice A2 l2.length c2, .slice A3 l3.length c3, .int .i64 st] 27)).alloc (Obj.cells #[.slice none 0 0, .slice none 0 0] 49)).heap[w.heap.size + 1]? = some (.cells #[.slice none 0 0, .slice none 0 0] 49 (0, 0)) by have h := blk_new (w.alloc (Obj.cells #[.slice A0 l0.length c0, .slice A1 l1.length c1, .slice A2 l2.length c2, .slice A3 l3.length c3, .int .i64 st] 27)) (Obj.cells #[.slice none 0 0, .slice none 0 0] 49); rw [World.size_alloc] at h; exact h)
 have HB := Aside0.mk (below_alloc (below_alloc (RowKit.Below.refl w.heap.size w) (Obj.cells #[.slice A0 l0.length c0, .slice A1 l1.length c1, .slice A2 l2.length c2, .slice A3 l3.length c3, .int .i64 st] 27)) (Obj.cells #[.slice none 0 0, .slice none 0 0] 49))
 generalize (w.alloc (Obj.cells #[.slice A0 l0.length c0, .slice A1 l1.length c1, .slice A2 l2.length c2, .slice A3 l3.length c3, .int .i64 st] 27)).alloc (Obj.cells #[.slice none 0 0, .slice none 0 0] 49) = w1 at *
 obtain ⟨z0, z1, z2, z3, z4⟩ := five5 BG.out
 go_upto_region 2 with (go_at_call 34; (with_reducible refine (inst_Valid.calls _ _ l0 _ _ l1 _ _ l2 _ _ l3 st false w1 (Kd.C_below HR0.out HB.out) HC0.out (Kd.C_below HR1.out HB.out) HC1.out (Kd.C_below HR2.out HB.out) HC2.out (Kd.C_below HR3.out HB.out) HC3.out HV.out).mono ?_); rintro e w2 ⟨rfl, hb⟩; have HB2 := Aside0.mk (below_step HB.out hb); have BR2 := Aside0.mk (blk_below BR.out hb); clear hb)
 clear z0 z1 z2 z3 z4
 have y0 : w2.cell? ⟨w.heap.size + 1, 0, none⟩ = some (.slice none 0 0) := blk_cell BR2.out 0
 have y1 : w2.cell? ⟨w.heap.size + 1, 1, none⟩ = some (.slice none 0 0) := blk_cell BR2.out 1
 have f2 := blk_frozen BR2.out 0
 have f3 := blk_frozen BR2.out 1
 go_wp2
 refine bodyPost_ret (results_ct rfl _ _ (w.heap.size + 1) 49 #[.slice none 0 0, .slice none 0 0] (0, 0) _ rfl (blk_put (blk_put BR2.out 0 _ rfl) 1 _ rfl) Tryd.underlying49 rfl (by kernel_rfl)) rfl ⟨rfl, ?_⟩
 exact below_set (below_set HB2.out (Nat.le_succ _)) (Nat.le_succ _)
set_option maxHeartbeats 16000000 in
set_option maxRecDepth 100000 in
theorem build_good (A0 : Option Addr) (c0 : Nat) (l0 : List S82) (A1 : Option Addr) (c1 : Nat) (l1 : List S101) (A2 : Option Addr) (c2 : Nat) (l2 : List ByteArray) (A3 : Option Addr) (c3 : Nat) (l3 : List S64) (st : Int) (R : Option (List (List Itm) × List (List Int))) (w : World) (hG : GTab w)
  (hr0 : Kd.C k82 w A0 l0.length l0) (hc0 : l0.length ≤ c0) (hr1 : Kd.C k101 w A1 l1.length l1) (hc1 : l1.length ≤ c1) (hr2 : Kd.C Kd.string w A2 l2.length l2) (hc2 : l2.length ≤ c2) (hr3 : Kd.C k64 w A3 l3.length l3) (hc3 : l3.length ≤ c3) (hv : validB l0 l1 l2 l3 st = true) (hp : l3.all okP = true) (h : builtL l0.length l2.length (gr st l3) = some R) :
  Calls Tryd.prog 23 #[.agg #[.slice A0 l0.length c0, .slice A1 l1.length c1, .slice A2 l2.length c2, .slice A3 l3.length c3, .int .i64 st]] w fun e w' => ∃ v0_ v1_ : Value, e = .returned (.tuple #[.agg #[v0_, v1_], .int .i64 (outB R).2.2]) ∧ Kd.S (Kd.slice 37 k37) 28 w' w.heap.size (fun _ => True) v0_ (outB R).1 ∧ Kd.S (Kd.slice 3 (Kd.int .i64)) 58 w' w.heap.size (fun _ => True) v1_ (outB R).2.1 ∧ RowKit.Below w.heap.size w w' := by
 have HR0 := Aside0.mk hr0
 have HR1 := Aside0.mk hr1
 have HR2 := Aside0.mk hr2
 have HR3 := Aside0.mk hr3
 have HC0 := Aside0.mk hc0
 have HC1 := Aside0.mk hc1
 have HC2 := Aside0.mk hc2
 have HC3 := Aside0.mk hc3
 have HG := Aside0.mk hG
 have HVB := Aside0.mk hv
 have HPB := Aside0.mk hp
 have HX := Aside0.mk (Bx.start h)
 have HV := Aside0.mk (show inst_Valid.f l0 l1 l2 l3 st = some true by unfold inst_Valid.f; rw [hv])
 clear hr0 hr1 hr2 hr3 hc0 hc1 hc2 hc3 hv hG hp h
 have hu27 := Tryd.underlying27
 have hu28 := Tryd.underlying28
 have hu37 := Tryd.underlying37
 have hu49 := Tryd.underlying49
 have hmm := @run_makeMap Tryd.prog
 have hmf : ∀ (fn : Fn) (first cap : Array Value) (w : World), (Instr.makeFunc fn first cap).run Tryd.prog w = .ok (.func fn first cap) w := fun _ _ _ _ => rfl
 go_enter Tryd.func23, Tryd.ntmps23
 go_upto_region 1 with fail
 have BG := Aside0.mk (blk_alloc (blk_new w (Obj.cells #[.slice A0 l0.length c0, .slice A1 l1.length c1, .slice A2 l2.length c2, .slice A3 l3.length c3, .int .i64 st] 27)) (Obj.cells #[.slice none 0 0, .slice none 0 0] 49))
 have BR := Aside0.mk (show ((w.alloc (Obj.cells #[.slice A0 l0.length c0, .slice A1 l1.length c1, .slice A2 l2.length c2, .slice A3 l3.length c3, .int .i64 st] 27)).alloc (Obj.cells #[.slice none 0 0, .slice none 0 0] 49)).heap[w.heap.size + 1]? = some (.cells #[.slice none 0 0, .slice none 0 0] 49 (0, 0)) by have h := blk_new (w.alloc (Obj.cells #[.slice A0 l0.length c0, .slice A1 l1.length c1, .slice A2 l2.length c2, .slice A3 l3.length c3, .int .i64 st] 27)) (Obj.cells #[.slice none 0 0, .slice none 0 0] 49); rw [World.size_alloc] at h; exact h)
 have HB := Aside0.mk (below_alloc (below_alloc (RowKit.Below.refl w.heap.size w) (Obj.cells #[.slice A0 l0.length c0, .slice A1 l1.length c1, .slice A2 l2.length c2, .slice A3 l3.length c3, .int .i64 st] 27)) (Obj.cells #[.slice none 0 0, .slice none 0 0] 49))
 generalize (w.alloc (Obj.cells #[.slice A0 l0.length c0, .slice A1 l1.length c1, .slice A2 l2.length c2, .slice A3 l3.length c3, .int .i64 st] 27)).alloc (Obj.cells #[.slice none 0 0, .slice none 0 0] 49) = w1 at *
 obtain ⟨z0, z1, z2, z3, z4⟩ := five5 BG.out
 go_upto_region 3 with (go_at_call 34; (with_reducible refine (inst_Valid.calls _ _ l0 _ _ l1 _ _ l2 _ _ l3 st true w1 (Kd.C_below HR0.out HB.out) HC0.out (Kd.C_below HR1.out HB.out) HC1.out (Kd.C_below HR2.out HB.out) HC2.out (Kd.C_below HR3.out HB.out) HC3.out HV.out).mono ?_); rintro e w2 ⟨rfl, hb⟩; have HB2 := Aside0.mk (below_step HB.out hb); have BG2 := Aside0.mk (blk_below BG.out hb); have BR2 := Aside0.mk (blk_below BR.out hb); clear hb)
 clear z0 z1 z2 z3 z4 HB BG BR
 have H0 := Aside0.mk (Bd.start HB2.out BG2.out BR2.out)
 have HS3 := Aside0.mk (show (((w2.alloc (Obj.cells #[.slice none 0 0, .slice none 0 0] 49)).alloc (Obj.map #[] 0)).alloc (Obj.cells #[.map (some (w2.heap.size + 1))] 87)).heap.size = w2.heap.size + 3 by simp)
 go_upto_region 6 with fail
 rw [show w2.heap.size + 1 + 1 = w2.heap.size + 2 from rfl]
 generalize ((w2.alloc (Obj.cells #[.slice none 0 0, .slice none 0 0] 49)).alloc (Obj.map #[] 0)).alloc (Obj.cells #[.map (some (w2.heap.size + 1))] 87) = W3 at *
 generalize w2.heap.size = B at *
 have hsz3 := HS3.out
 have hnum := number_calls (w := w) (W := W3.alloc (Obj.cells #[.int .i64 (-1), .int .i64 0] 37)) (B := B) (G := #[.slice A0 l0.length c0, .slice A1 l1.length c1, .slice A2 l2.length c2, .slice A3 l3.length c3, .int .i64 st]) (K := []) (N := []) (vK := .slice none 0 0) (vN := .slice none 0 0) (vl := .slice (some ⟨W3.heap.size, 0, none⟩) 1 1) (l := [((-1, 0) : Itm)]) (okN := fun _ => True) HG.out (Bd.apart H0.out (below_alloc (RowKit.Below.refl _ _) _) (fun k hk => by injection hk with hk; exact Nat.le_of_eq hk)) (one_row W3 B (by omega)) (HX.out.small _ (List.mem_singleton.2 rfl)).2 (by simp) (by simp)
 rw [show numb [] [((-1, 0) : Itm)] = (0, [[(-1, 0)]]) from rfl, hsz3] at hnum
 clear BG2 BR2 HB2 H0 HS3
 go_upto_region 7 with (go_at_call 42; (with_reducible refine hnum.mono ?_); rintro e w4 ⟨rfl, vK4, hd, hsz, hk⟩; have H4 := Aside0.mk hd; clear hd hsz hk)
 clear hnum hsz3
 go_wp2_with fail
 refine wp_loop_num (fun n a W => ∃ (vK vN : Value) (K : List (List Itm)) (N : List (List Int)) (u8 u9 u10 u11 u12 u13 u14 u15 u16 u17 u18 u19 u20 u21 u22 u23 u24 u25 u26 u27 u28 u29 u30 u31 u32 u33 u34 u35 u36 u37 u38 u39 u40 u41 u42 u43 u44 u45 u46 u47 u48 u49 u50 u51 u52 u53 u54 u55 u56 u57 u58 u59 u60 u61 u62 u63 u64 : Value), a = { tmps := #[.agg #[.slice A0 l0.length c0, .slice A1 l1.length c1, .slice A2 l2.length c2, .slice A3 l3.length c3, .int .i64 st], .pointer (some ⟨w.heap.size, 0, none⟩), .pointer (some ⟨w.heap.size + 1, 0, none⟩), .int .i64 0, .pointer (some ⟨B, 0, none⟩), .pointer (some ⟨B + 2, 0, none⟩), .func (.func 42) #[] #[.pointer (some ⟨B + 2, 0, none⟩), .pointer (some ⟨B, 0, none⟩)], .int .i64 N.length, u8, u9, u10, u11, u12, u13, u14, u15, u16, u17, u18, u19, u20, u21, u22, u23, u24, u25, u26, u27, u28, u29, u30, u31, u32, u33, u34, u35, u36, u37, u38, u39, u40, u41, u42, u43, u44, u45, u46, u47, u48, u49, u50, u51, u52, u53, u54, u55, u56, u57, u58, u59, u60, u61, u62, u63, u64], defers := [] } ∧ Aside0 (Bx l0.length l2.length (gr st l3) R n K N) ∧ Aside0 (Bd w B #[.slice A0 l0.length c0, .slice A1 l1.length c1, .slice A2 l2.length c2, .slice A3 l3.length c3, .int .i64 st] K K N vK vN (fun _ => True) (fun _ => True) W)) 2003 ⟨_, _, _, _, _, _, _, _, _, _, _, _, _, _, _, _, _, _, _, _, _, _, _, _, _, _, _, _, _, _, _, _, _, _, _, _, _, _, _, _, _, _, _, _, _, _, _, _, _, _, _, _, _, _, _, _, _, _, _, _, _, rfl, HX, H4⟩ ?_
 clear HX H4
 rintro n a W ⟨vK, vN, K, N, u8, u9, u10, u11, u12, u13, u14, u15, u16, u17, u18, u19, u20, u21, u22, u23, u24, u25, u26, u27, u28, u29, u30, u31, u32, u33, u34, u35, u36, u37, u38, u39, u40, u41, u42, u43, u44, u45, u46, u47, u48, u49, u50, u51, u52, u53, u54, u55, u56, u57, u58, u59, u60, u61, u62, u63, u64, rfl, HX, HI⟩
 obtain ⟨n, rfl⟩ := HX.out.pos
 obtain ⟨AK, cK, eK⟩ := Kd.S_slice HI.out.ks
 obtain ⟨AN, cN, eN⟩ := Kd.S_slice HI.out.ns
 subst eK
 subst eN
 rw [List.length_map] at HI
 have a0 : W.cell? ⟨B, 0, none⟩ = some (.slice AK K.length cK) := blk_cell HI.out.ba 0
 cases hc : K[N.length]? with
 | none =>
  have hle := List.getElem?_eq_none_iff.1 hc
  have hltb : decide (N.length < K.length) = false := decide_eq_false (by omega)
  have HRR := Aside0.mk (HX.out.fine hc)
  have a1 : W.cell? ⟨B, 1, none⟩ = some (.slice AN N.length cN) := blk_cell HI.out.ba 1
  have y0 : W.cell? ⟨w.heap.size + 1, 0, none⟩ = some (.slice none 0 0) := blk_cell HI.out.br 0
  have y1 : W.cell? ⟨w.heap.size + 1, 1, none⟩ = some (.slice none 0 0) := blk_cell HI.out.br 1
  have f2 := blk_frozen HI.out.br 0
  have f3 := blk_frozen HI.out.br 1
  clear hle hc
  go_wp2
  refine bodyPost_ret (results_ct rfl _ _ (w.heap.size + 1) 49 #[.slice AK K.length cK, .slice AN N.length cN] (0, 0) _ rfl (blk_put (blk_put HI.out.br 0 _ rfl) 1 _ rfl) Tryd.underlying49 rfl (by kernel_rfl)) rfl ?_
  rw [HRR.out]
  have hB := HI.out.hB
  refine ⟨_, _, rfl, ?_, ?_, ?_⟩
  ·exact Kd.S_mono (Kd.S_lower (Kd.S_far (Kd.S_far HI.out.ks (fun k hk => by have := hk.1; show k ≠ w.heap.size + 1; omega) _) (fun k hk => by have := hk.1; show k ≠ w.heap.size + 1; omega) _) (by omega)) (fun _ _ => trivial)
  ·exact Kd.S_mono (Kd.S_lower (Kd.S_far (Kd.S_far HI.out.ns (fun k hk => by have := hk.1; show k ≠ w.heap.size + 1; omega) _) (fun k hk => by have := hk.1; show k ≠ w.heap.size + 1; omega) _) (by omega)) (fun _ _ => trivial)
  ·exact below_set (below_set HI.out.hb (Nat.le_succ _)) (Nat.le_succ _)
 | some c =>
  obtain ⟨ad, nK, A, cc, eK2, hcell, hcc, hC⟩ := kernel_at HI.out hc
  injection eK2 with e1 e2 e3
  subst e1
  subst e3
  obtain ⟨hlt, -⟩ := List.getElem?_eq_some_iff.1 hc
  have hltb : decide (N.length < K.length) = true := decide_eq_true (by omega)
  have hsm := HX.out.small c (List.mem_of_getElem? hc)
  obtain ⟨all, hall⟩ : ∃ all, all = risen (closedL (gr st l3) c) := ⟨_, rfl⟩
  have hcl := closed_is HVB.out HPB.out hsm
  rw [← hall] at hcl
  have HALL := Aside0.mk hall
  have HCALL : Aside0 (∀ W', RowKit.Below W.heap.size W W' → Calls Tryd.prog 38 #[.agg #[.slice A0 l0.length c0, .slice A1 l1.length c1, .slice A2 l2.length c2, .slice A3 l3.length c3, .int .i64 st], .slice A c.length cc] W' fun e w' => ∃ A8 c8, e = .returned (.slice A8 all.length c8) ∧ Aside0 (Kd.R k37 37 w' (B + 3) (fun k => B + 3 ≤ k) (.slice A8 all.length c8) (all.map ofI)) ∧ Aside0 (RowKit.Below W.heap.size W w')) := ⟨fun W' hb => by
   have hq := states_closed.calls A0 c0 l0 A1 c1 l1 A2 c2 l2 A3 c3 l3 st A cc (c.map ofI) (all.map ofI) W' (Kd.C_below HR0.out (below_step HI.out.hb hb)) HC0.out (Kd.C_below HR1.out (below_step HI.out.hb hb)) HC1.out (Kd.C_below HR2.out (below_step HI.out.hb hb)) HC2.out (Kd.C_below HR3.out (below_step HI.out.hb hb)) HC3.out (by rw [List.length_map]; exact Kd.C_below hC hb) (by rw [List.length_map]; exact hcc) hcl
   rw [List.length_map] at hq
   refine hq.mono ?_
   rintro e w' ⟨v, rfl, hR, hb2⟩
   obtain ⟨A8, c8, rfl⟩ := Kd.R_slice hR
   rw [List.length_map] at hR ⊢
   exact ⟨A8, c8, rfl, ⟨R_up hR (Nat.le_trans HI.out.size hb.size)⟩, ⟨below_step hb hb2⟩⟩⟩
  obtain ⟨z0, z1, z2, z3, z4⟩ := five5 HI.out.bg
  have HCC := Aside0.mk hc
  have HSM := Aside0.mk hsm
  clear hcl hall hC hcc hc hsm e2
  go_upto_region 10 with fail
  obtain ⟨K9, hK9⟩ : ∃ K9 : Act → World → Prop, K9 = (fun a W' => ∃ (A8 : Option Addr) (c8 : Nat) (u9 u10 u11 u12 u13 u14 u15 u16 u17 u18 u19 u20 u21 u22 u23 u24 u25 u26 u27 u28 u29 u30 u31 u32 u33 u34 u35 u36 u37 u38 u39 u40 u41 u42 u43 u44 u45 u46 u47 u48 u49 u50 u51 u52 u53 u54 u55 u56 u57 u58 u59 u60 u61 u62 u63 u64 : Value), a = { tmps := #[.agg #[.slice A0 l0.length c0, .slice A1 l1.length c1, .slice A2 l2.length c2, .slice A3 l3.length c3, .int .i64 st], .pointer (some ⟨w.heap.size, 0, none⟩), .pointer (some ⟨w.heap.size + 1, 0, none⟩), .int .i64 0, .pointer (some ⟨B, 0, none⟩), .pointer (some ⟨B + 2, 0, none⟩), .func (.func 42) #[] #[.pointer (some ⟨B + 2, 0, none⟩), .pointer (some ⟨B, 0, none⟩)], .int .i64 N.length, .slice A8 all.length c8, u9, u10, u11, u12, u13, u14, u15, u16, u17, u18, u19, u20, u21, u22, u23, u24, u25, u26, u27, u28, u29, u30, u31, u32, u33, u34, u35, u36, u37, u38, u39, u40, u41, u42, u43, u44, u45, u46, u47, u48, u49, u50, u51, u52, u53, u54, u55, u56, u57, u58, u59, u60, u61, u62, u63, u64], defers := [] } ∧ Aside0 (RowKit.Below W.heap.size W W') ∧ Aside0 (Kd.R k37 37 W' (B + 3) (fun k => B + 3 ≤ k) (.slice A8 all.length c8) (all.map ofI))) := ⟨_, rfl⟩
  have HK9 := Aside0.mk hK9
  clear hK9
  refine Code.wp_mono (Q := Exit.then K9 (fun _ _ _ => False)) ?post ?reg
  case reg =>
   go_region_with (go_at_call 38; (with_reducible refine (HCALL.out _ (by repeat (first | exact RowKit.Below.refl _ _ | apply below_drew1 | apply pw_below_drewN))).mono ?_); rintro e w5 ⟨A8, c8, rfl, HR8, HB8⟩)
   all_goals (show K9 _ _; rw [HK9.out]; exact ⟨_, _, _, _, _, _, _, _, _, _, _, _, _, _, _, _, _, _, _, _, _, _, _, _, _, _, _, _, _, _, _, _, _, _, _, _, _, _, _, _, _, _, _, _, _, _, _, _, _, _, _, _, _, _, _, _, _, _, rfl, ⟨by repeat (first | exact HB8.out | apply below_drew1 | apply pw_below_drewN)⟩, ⟨by repeat (first | exact HR8.out | apply Kd.R_drew | refine Kd.R_drewN ?_ _)⟩⟩)
  case post =>
   clear z0 z1 z2 z3 z4 hcell HCALL a0 hlt hltb
   intro e a' W1 he
   cases e with
   | normal =>
    replace he : K9 a' W1 := he
    rw [HK9.out] at he
    obtain ⟨A8, c8, u9, u10, u11, u12, u13, u14, u15, u16, u17, u18, u19, u20, u21, u22, u23, u24, u25, u26, u27, u28, u29, u30, u31, u32, u33, u34, u35, u36, u37, u38, u39, u40, u41, u42, u43, u44, u45, u46, u47, u48, u49, u50, u51, u52, u53, u54, u55, u56, u57, u58, u59, u60, u61, u62, u63, u64, rfl, HB9, HA9⟩ := he
    clear HK9
    have HI9 := Aside0.mk (HI.out.below HB9.out)
    clear HI HB9
    obtain ⟨z0, z1, z2, z3, z4⟩ := five5 HI9.out.bg
    obtain ⟨syms, hsyms⟩ : ∃ s, s = symsL l0.length l2.length := ⟨_, rfl⟩
    have hsy := symbols_is l0 l1 l2 l3 st (terms_few HVB.out) (fits_of HVB.out).sorts
    have hsl : syms.length ≤ 120 := by rw [hsyms, symsL_len]; have := terms_few HVB.out; have := (fits_of HVB.out).sorts; omega
    rw [← hsyms] at hsy
    have HSY := Aside0.mk hsyms
    have HSL := Aside0.mk hsl
    clear hsyms hsl
    go_wp2_with (go_at_call 44; (with_reducible refine (states_symbols.calls 300 _ _ l0 _ _ l1 _ _ l2 _ _ l3 st syms W1 (Kd.C_below HR0.out HI9.out.hb) HC0.out (Kd.C_below HR1.out HI9.out.hb) HC1.out (Kd.C_below HR2.out HI9.out.hb) HC2.out (Kd.C_below HR3.out HI9.out.hb) HC3.out hsy).mono ?_); rintro e w10 ⟨v7, rfl, hR7, hb7⟩; obtain ⟨A7, c7, e7⟩ := Kd.R_slice hR7; subst e7; have HS10 := Aside0.mk (R_up hR7 HI9.out.size); have HB10 := Aside0.mk hb7; clear hR7 hb7)
    clear z0 z1 z2 z3 z4 hsy
    have HJ10 := Aside0.mk (Bd.later (HI9.out.below HB10.out))
    have HA10 := Aside0.mk (Kd.R_below HA9.out HB10.out)
    have HBn := Aside0.mk HJ10.out.size
    obtain ⟨Bn, hBn⟩ : ∃ b, b = w10.heap.size := ⟨_, rfl⟩
    have HLE := Aside0.mk (Nat.le_of_eq hBn)
    rw [← hBn] at HBn HJ10
    clear HI9 HA9 HB10 hBn
    refine wp_loop_num (fun n2 a W' => ∃ (j : Nat) (v9 vK' : Value) (nums : List Int) (K' : List (List Itm)) (u10 u11 u12 u13 u14 u15 u16 u17 u18 u19 u20 u21 u22 u23 u24 u25 u26 u27 u28 u29 u30 u31 u32 u33 u34 u35 u36 u40 u41 u42 u43 u44 u45 u46 u47 u48 u49 u50 u51 u52 u53 u54 u55 u56 u57 u58 u59 u60 u61 u62 u63 u64 : Value), a = { tmps := #[.agg #[.slice A0 l0.length c0, .slice A1 l1.length c1, .slice A2 l2.length c2, .slice A3 l3.length c3, .int .i64 st], .pointer (some ⟨w.heap.size, 0, none⟩), .pointer (some ⟨w.heap.size + 1, 0, none⟩), .int .i64 0, .pointer (some ⟨B, 0, none⟩), .pointer (some ⟨B + 2, 0, none⟩), .func (.func 42) #[] #[.pointer (some ⟨B + 2, 0, none⟩), .pointer (some ⟨B, 0, none⟩)], .int .i64 N.length, .slice A8 all.length c8, v9, u10, u11, u12, u13, u14, u15, u16, u17, u18, u19, u20, u21, u22, u23, u24, u25, u26, u27, u28, u29, u30, u31, u32, u33, u34, u35, u36, .slice A7 syms.length c7, .int .i64 syms.length, .int .i64 j, u40, u41, u42, u43, u44, u45, u46, u47, u48, u49, u50, u51, u52, u53, u54, u55, u56, u57, u58, u59, u60, u61, u62, u63, u64], defers := [] } ∧ n2 = syms.length - j ∧ Aside0 (Rx (Sg (gr st l3) c) syms (rowL (Sg (gr st l3) c) syms K) j nums K') ∧ Aside0 (Bd w B #[.slice A0 l0.length c0, .slice A1 l1.length c1, .slice A2 l2.length c2, .slice A3 l3.length c3, .int .i64 st] K' K' N vK' (.slice AN N.length cN) (fun _ => True) (fun k => k < Bn) W') ∧ Aside0 (Kd.R k37 37 W' (B + 3) (fun k => B + 3 ≤ k) (.slice A8 all.length c8) (all.map ofI)) ∧ Aside0 (Kd.R (Kd.int .i64) 29 W' (B + 3) (fun k => B + 3 ≤ k) (.slice A7 syms.length c7) syms) ∧ Aside0 (Kd.R (Kd.int .i64) 3 W' Bn (fun k => Bn ≤ k) v9 nums) ∧ Aside0 (Bn ≤ W'.heap.size)) syms.length ⟨0, _, _, [], K, _, _, _, _, _, _, _, _, _, _, _, _, _, _, _, _, _, _, _, _, _, _, _, _, _, _, _, _, _, _, _, _, _, _, _, _, _, _, _, _, _, _, _, _, _, _, _, _, _, _, _, _, rfl, by omega, ⟨Rx.start HX.out _ _⟩, HJ10, HA10, HS10, ⟨Kd.R_nil _ _ _ _ _⟩, HLE⟩ ?_
    clear HJ10 HA10 HS10 HLE
    rintro n2 a W' ⟨j, v9, vK', nums, K', u10, u11, u12, u13, u14, u15, u16, u17, u18, u19, u20, u21, u22, u23, u24, u25, u26, u27, u28, u29, u30, u31, u32, u33, u34, u35, u36, u40, u41, u42, u43, u44, u45, u46, u47, u48, u49, u50, u51, u52, u53, u54, u55, u56, u57, u58, u59, u60, u61, u62, u63, u64, rfl, hn2, HRX, HJ, HA, HS, HN, HBN⟩
    by_cases hj : j < syms.length
    ·have hjb : decide (j < syms.length) = true := decide_eq_true (by omega)
     obtain ⟨ad7, e7, hx⟩ := Kd.at_int (Kd.R_reads' HS.out).2.2 (j : Int) (by omega) (by omega)
     subst e7
     rw [Int.toNat_natCast] at hx
     obtain ⟨s, hs⟩ : ∃ s, rd syms j = s := ⟨_, rfl⟩
     rw [hs] at hx
     obtain ⟨ls, hls⟩ : ∃ ls, ls = Sg (gr st l3) c s := ⟨_, rfl⟩
     have hsm2 : ls.length ≤ 1562 ∧ ∀ x ∈ ls, rngI x := by rw [hls]; exact Sg_small (fits_of HVB.out) c s
     have HLS := Aside0.mk hls
     have HSM2 := Aside0.mk hsm2
     have HRN := Aside0.mk (hls ▸ Rx.next HRX.out hj hs (by rw [← hls]; exact hsm2))
     have hst := step_is HVB.out c s
     rw [← HALL.out, ← hls] at hst
     have HSTEP : Aside0 (Calls Tryd.prog 41 #[.agg #[.slice A0 l0.length c0, .slice A1 l1.length c1, .slice A2 l2.length c2, .slice A3 l3.length c3, .int .i64 st], .slice A8 all.length c8, .int .i64 s] W' fun e w' => ∃ v0 : Value, e = .returned v0 ∧ Kd.R k37 37 w' W'.heap.size (fun _ => True) v0 (ls.map ofI) ∧ RowKit.Below W'.heap.size W' w') := ⟨by
      have hRA := Kd.R_reads' HA.out
      rw [List.length_map] at hRA
      have hq := states_step.calls A0 c0 l0 A1 c1 l1 A2 c2 l2 A3 c3 l3 st A8 c8 (all.map ofI) s (ls.map ofI) W' (Kd.C_below HR0.out HJ.out.hb) HC0.out (Kd.C_below HR1.out HJ.out.hb) HC1.out (Kd.C_below HR2.out HJ.out.hb) HC2.out (Kd.C_below HR3.out HJ.out.hb) HC3.out (by rw [List.length_map]; exact hRA.2.2) (by rw [List.length_map]; exact hRA.2.1) hst
      rw [List.length_map] at hq
      exact hq⟩
     obtain ⟨z0, z1, z2, z3, z4⟩ := five5 HJ.out.bg
     have hjw : IntKind.i64.wrap ((j : Int) + 1) = ((j + 1 : Nat) : Int) := by
      have := HSL.out
      rw [IntWalk.i64_in _ (by omega)]
      rfl
     have HK := Aside0.mk (show K'.length ≤ 3000 by have := HRX.out.few; have := HSL.out; omega)
     have HNL := Aside0.mk (show nums.length ≤ 120 by have := HRX.out.len; have := HSL.out; omega)
     clear hst hls hsm2 hs
     go_upto_region 16 with (first
      | (go_at_call 41; (with_reducible refine HSTEP.out.mono ?_); rintro e w11 ⟨v11, rfl, hR11, hb11⟩; have HNUM := Aside0.mk (number_calls (okN := fun k => k < Bn) HG.out (Bd.apart HJ.out hb11 (fun k hk => Kd.R_base hR11 k hk)) (R_up hR11 HJ.out.size) HSM2.out.2 (Nat.le_trans HSM2.out.1 (by omega)) HK.out); have HA11 := Aside0.mk (Kd.R_below HA.out hb11); have HS11 := Aside0.mk (Kd.R_below HS.out hb11); have HN11 := Aside0.mk (Kd.R_below HN.out hb11); have HB11 := Aside0.mk (Nat.le_trans HBN.out hb11.size); have HT11 := Aside0.mk (Kd.S_typed (Kd.S_below HJ.out.ks hb11)); clear hR11 hb11)
      | (go_at_call 42; (with_reducible refine HNUM.out.mono ?_); rintro e w12 ⟨rfl, vK2, hd, hsz, hkp⟩; have HJ12 := Aside0.mk hd; have HA12 := Aside0.mk (R_numb HA11.out HT11.out (by decide) (Nat.le_refl _) hkp); have HS12 := Aside0.mk (R_numb HS11.out HT11.out (by decide) (Nat.le_refl _) hkp); have HN12 := Aside0.mk (R_numb HN11.out HT11.out (by decide) HBn.out hkp); have HB12 := Aside0.mk (Nat.le_trans HB11.out hsz); clear hd hsz hkp)
      | ((with_reducible refine gate_builtin (b := .append) (xs := #[.tmp 43, .tmp 50]) rfl ?_); at_builtin; refine Kd.R_append (Kd.int .i64) (w0 := w12) Bn rfl (.tmp 43) (.tmp 50) 58 3 (.int .i64 0) 8 rfl Tryd.underlying58 info3 rfl (by decide) (by omega) v9 nums (numb K' ls).1 [.int .i64 (numb K' ls).1] (fun k => Bn ≤ k) (fun _ => False) rfl rfl rfl (fun _ hk => hk.elim) (fun k hk => Nat.le_trans HB12.out hk) HN12.out (RowKit.Below.refl _ _) HB12.out ?aL ?_; (case aL => have := HNL.out; omega); intro v13 w13 ho hb hg hat; have HN13 := Aside0.mk ho; have HJ13 := Aside0.mk (Bd.other HJ12.out (Kd.R_typed HN12.out) (Kd.R_base HN12.out) HBn.out hg); have HA13 := Aside0.mk (Kd.R_over' HA12.out (Kd.R_typed HN12.out) (by decide) hg); have HS13 := Aside0.mk (Kd.R_over' HS12.out (Kd.R_typed HN12.out) (by decide) hg); have HB13 := Aside0.mk (Nat.le_trans HB12.out hg.size); clear ho hb hg hat))
     go_wp2_with fail
     exact ⟨syms.length - (j + 1), by omega, j + 1, v13, vK2, _, _, _, _, _, _, _, _, _, _, _, _, _, _, _, _, _, _, _, _, _, _, _, _, _, _, _, _, _, _, _, _, _, _, _, _, _, _, _, _, _, _, _, _, _, _, _, _, _, _, _, _, _, _, rfl, rfl, HRN, HJ13, HA13, HS13, HN13, HB13⟩
    ·have hjb : decide (j < syms.length) = false := decide_eq_false (by omega)
     have hjl : j = syms.length := by have := HRX.out.le; omega
     have HDN := Aside0.mk (HRX.out.done hjl)
     have HSM3 := Aside0.mk HRX.out.small
     clear hjl
     obtain ⟨A9, c9, e9⟩ := Kd.R_slice HN.out
     subst e9
     obtain ⟨AK2, cK2, eK2⟩ := Kd.S_slice HJ.out.ks
     subst eK2
     rw [List.length_map] at HJ
     have a1 : W'.cell? ⟨B, 1, none⟩ = some (.slice AN N.length cN) := blk_cell HJ.out.ba 1
     have HN9 := Aside0.mk (R_up HN.out HBn.out)
     have HOW : Aside0 (∀ k, some k = (Value.slice A9 nums.length c9).ownBlock → some k ≠ (Value.slice AN N.length cN).ownBlock) := ⟨fun k e e' => by
      obtain ⟨q1, h1⟩ := Kd.R_typed HN.out k e.symm
      obtain ⟨q2, h2⟩ := Kd.S_typed HJ.out.ns k e'.symm
      rw [h1] at h2
      cases h2⟩
     have HNS := Aside0.mk (Kd.S_mono HJ.out.ns (ok' := fun k => B + 3 ≤ k ∧ ¬ (some k = (Value.slice A9 nums.length c9).ownBlock ∧ B + 3 ≤ k)) (fun k hk => ⟨hk.1, fun h2 => by have := Kd.R_base HN.out k h2.1.symm; have := hk.2; omega⟩))
     have HNL := Aside0.mk (show N.length ≤ 3000 by have := HX.out.n3; omega)
     go_upto_region 18 with (first | ((with_reducible refine gate_builtin (b := .append) (xs := #[.tmp 54, .tmp 56]) rfl ?_); at_builtin; refine Kd.S_append (Kd.slice 3 (Kd.int .i64)) (w0 := W') (B + 3) rfl (.tmp 54) (.tmp 56) 47 58 (.slice none 0 0) 24 rfl Tryd.underlying47 info58 rfl (by decide) (by omega) (.slice AN N.length cN) N nums [.slice A9 nums.length c9] (fun k => B + 3 ≤ k) (fun k => some k = (Value.slice A9 nums.length c9).ownBlock ∧ B + 3 ≤ k) rfl rfl ⟨_, rfl, Kd.R_tight2 rfl HN9.out⟩ (fun k hk => ⟨hk.2, HOW.out k hk.1⟩) (fun k hk => Nat.le_trans HJ.out.size hk) HNS.out (RowKit.Below.refl _ _) HJ.out.size ?aL ?_; (case aL => have := HNL.out; omega); intro v14 w14 ho hb hg hat; obtain ⟨A14, c14, e14⟩ := Kd.S_slice ho; have e15 : (N ++ [nums]).length = N.length + 1 := (by simp); rw [e15] at e14; subst e14; clear e15; have HJ15 := Aside0.mk (Bd.appN HJ.out ho hg); have c6 : w14.cell? ⟨B, 1, none⟩ = some (.slice AN N.length cN) := blk_cell ((hg.block _ (blk_lt HJ.out.ba) (fun e => by have := Kd.S_base HJ.out.ns _ e.symm; omega)).trans HJ.out.ba) 1; have f6 := blk_frozen ((hg.block _ (blk_lt HJ.out.ba) (fun e => by have := Kd.S_base HJ.out.ns _ e.symm; omega)).trans HJ.out.ba) 1; clear ho hb hg hat))
     clear a1
     generalize w14.setCell ⟨B, 1, none⟩ (.slice A14 (N.length + 1) c14) = W15 at *
     clear HS HA HN HJ HN9 HOW HNS c6 f6
     have a0 : W15.cell? ⟨B, 0, none⟩ = some (.slice AK2 K'.length cK2) := blk_cell HJ15.out.ba 0
     have HON := Aside0.mk (HX.out.on HCC.out (K' := K') (nums := nums) (by have := HDN.out; rw [HSY.out] at this; exact this) HSM3.out)
     by_cases hmany : 2000 < K'.length
     ·have hmb : decide (2000 < K'.length) = true := decide_eq_true hmany
      have HRR := Aside0.mk (HON.out.1 hmany)
      have y0 : W15.cell? ⟨w.heap.size + 1, 0, none⟩ = some (.slice none 0 0) := blk_cell HJ15.out.br 0
      have y1 : W15.cell? ⟨w.heap.size + 1, 1, none⟩ = some (.slice none 0 0) := blk_cell HJ15.out.br 1
      have f2 := blk_frozen HJ15.out.br 0
      have f3 := blk_frozen HJ15.out.br 1
      go_wp2
      refine bodyPost_ret (results_ct rfl _ _ (w.heap.size + 1) 49 #[.slice none 0 0, .slice none 0 0] (0, 0) _ rfl (blk_put (blk_put HJ15.out.br 0 _ rfl) 1 _ rfl) Tryd.underlying49 rfl (by kernel_rfl)) rfl ?_
      rw [HRR.out]
      exact ⟨_, _, rfl, Kd.S_nil _ _ _ _ _, Kd.S_nil _ _ _ _ _, below_set (below_set HJ15.out.hb (Nat.le_succ _)) (Nat.le_succ _)⟩
     ·have hmb : decide (2000 < K'.length) = false := decide_eq_false hmany
      have HBX := Aside0.mk (HON.out.2 hmany)
      have hN1 : IntKind.i64.wrap ((N.length : Int) + 1) = (((N ++ [nums]).length : Nat) : Int) := by
       have := HNL.out
       rw [List.length_append, List.length_singleton, IntWalk.i64_in _ (by omega)]
       rfl
      go_wp2_with fail
      exact ⟨n, Nat.lt_succ_self n, _, _, K', N ++ [nums], by rw [List.length_append, List.length_singleton]; rfl, HBX, HJ15⟩
   | _ => exact he.elim

theorem states_Build.calls (A0 : Option Addr) (c0 : Nat) (l0 : List S82) (A1 : Option Addr) (c1 : Nat) (l1 : List S101) (A2 : Option Addr) (c2 : Nat) (l2 : List ByteArray) (A3 : Option Addr) (c3 : Nat) (l3 : List S64) (st : Int) (r1 : List (List S37)) (r2 : List (List Int)) (r3 : Int) (w : World) (hG : GTab w)
  (hr0 : Kd.C k82 w A0 l0.length l0) (hc0 : l0.length ≤ c0) (hr1 : Kd.C k101 w A1 l1.length l1) (hc1 : l1.length ≤ c1) (hr2 : Kd.C Kd.string w A2 l2.length l2) (hc2 : l2.length ≤ c2) (hr3 : Kd.C k64 w A3 l3.length l3) (hc3 : l3.length ≤ c3) (h : states_Build.f l0 l1 l2 l3 st = some (r1, r2, r3)) :
  Calls Tryd.prog 23 #[.agg #[.slice A0 l0.length c0, .slice A1 l1.length c1, .slice A2 l2.length c2, .slice A3 l3.length c3, .int .i64 st]] w fun e w' => ∃ v0_ v1_ : Value, e = .returned (.tuple #[.agg #[v0_, v1_], .int .i64 r3]) ∧ Kd.S (Kd.slice 37 k37) 28 w' w.heap.size (fun _ => True) v0_ r1 ∧ Kd.S (Kd.slice 3 (Kd.int .i64)) 58 w' w.heap.size (fun _ => True) v1_ r2 ∧ Below w.heap.size w w' := by
 unfold states_Build.f at h
 cases hv : validB l0 l1 l2 l3 st with
 | false =>
  rw [hv, if_neg (by decide)] at h
  have h := Option.some.inj h
  obtain ⟨rfl, h2⟩ := Prod.mk.inj h
  obtain ⟨rfl, rfl⟩ := Prod.mk.inj h2
  refine (build_bad A0 c0 l0 A1 c1 l1 A2 c2 l2 A3 c3 l3 st w hr0 hc0 hr1 hc1 hr2 hc2 hr3 hc3 hv).mono ?_
  rintro e w' ⟨rfl, hb⟩
  exact ⟨_, _, rfl, Kd.S_nil _ _ _ _ _, Kd.S_nil _ _ _ _ _, hb⟩
 | true =>
  rw [hv, if_pos rfl] at h
  split at h
  ·rename_i hp
   obtain ⟨R, hR, hO⟩ := Option.map_eq_some_iff.1 h
   have hz := build_good A0 c0 l0 A1 c1 l1 A2 c2 l2 A3 c3 l3 st R w hG hr0 hc0 hr1 hc1 hr2 hc2 hr3 hc3 hv hp hR
   rw [hO] at hz
   exact hz
  ·cases h

end Go.Proofs.YtclollnicbcooaaDoor.P
end

section
namespace Go.Proofs.YtclollnicbcooaaDoor.P
open Go.RowKit Go.Proofs.YtclollnicbcooaaDoorW.PrintWords Go.Proofs.YtclollnicbcooaaDoorW.PrintLast Go.Proofs.YtclollnicbcooaaDoorW.PrintMore
attribute [local go_sem] max2_int min2_int max_two min_two max_three min_three max_four min_four

attribute [local go_sem high] eqA37
/-! ### states_Go: function 25 -/
def states_Go.f (l0_0 : List (S82)) (l0_1 : List (S101)) (l0_2 : List ByteArray) (l0_3 : List (S64)) (a0_4 : Int) (l1_0 : List (List (S37))) (l1_1 : List (List Int)) (a2 : Int) (a3 : Int) : Option (Int) := if a3 < 0 then (if a2 < 0 then (some (-1)) else (if a2 ≥ (l1_1.length : Int) then (some (-1)) else (if (wrap64 ((l0_0.length : Int) + (wrap64 ((-1) - a3)))) < 0 then (some (-1)) else (if 0 ≤ a2 then (if a2 < (l1_1.length : Int) then (if (wrap64 ((l0_0.length : Int) + (wrap64 ((-1) - a3)))) ≥ ((rd_L17 l1_1 a2).length : Int) then (some (-1)) else (if 0 ≤ (wrap64 ((l0_0.length : Int) + (wrap64 ((-1) - a3)))) then (if (wrap64 ((l0_0.length : Int) + (wrap64 ((-1) - a3)))) < ((rd_L17 l1_1 a2).length : Int) then (some (rd (rd_L17 l1_1 a2) (wrap64 ((l0_0.length : Int) + (wrap64 ((-1) - a3)))))) else (none)) else (none))) else (none)) else (none))))) else (if a3 ≥ (l0_0.length : Int) then (some (-1)) else (if a2 < 0 then (some (-1)) else (if a2 ≥ (l1_1.length : Int) then (some (-1)) else (if 0 ≤ a2 then (if a2 < (l1_1.length : Int) then (if a3 ≥ ((rd_L17 l1_1 a2).length : Int) then (some (-1)) else (if 0 ≤ a3 then (if a3 < ((rd_L17 l1_1 a2).length : Int) then (some (rd (rd_L17 l1_1 a2) a3)) else (none)) else (none))) else (none)) else (none)))))
set_option maxHeartbeats 8000000 in
set_option maxRecDepth 100000 in
theorem states_Go.calls (A0_0 : Option Addr) (c0_0 : Nat) (l0_0 : List (S82)) (A0_1 : Option Addr) (c0_1 : Nat) (l0_1 : List (S101)) (A0_2 : Option Addr) (c0_2 : Nat) (l0_2 : List ByteArray) (A0_3 : Option Addr) (c0_3 : Nat) (l0_3 : List (S64)) (a0_4 : Int) (A1_0 : Option Addr) (c1_0 : Nat) (l1_0 : List (List (S37))) (A1_1 : Option Addr) (c1_1 : Nat) (l1_1 : List (List Int)) (a2 : Int) (a3 : Int) (r : Int) (w : World) (hr0_0 : Kd.C k82 w A0_0 l0_0.length l0_0) (hc0_0 : l0_0.length ≤ c0_0) (hr0_1 : Kd.C k101 w A0_1 l0_1.length l0_1) (hc0_1 : l0_1.length ≤ c0_1) (hr0_2 : Kd.C Kd.string w A0_2 l0_2.length l0_2) (hc0_2 : l0_2.length ≤ c0_2) (hr0_3 : Kd.C k64 w A0_3 l0_3.length l0_3) (hc0_3 : l0_3.length ≤ c0_3) (hr1_0 : Kd.C (Kd.slice 37 k37) w A1_0 l1_0.length l1_0) (hc1_0 : l1_0.length ≤ c1_0) (hr1_1 : Kd.C (Kd.slice 3 (Kd.int .i64)) w A1_1 l1_1.length l1_1) (hc1_1 : l1_1.length ≤ c1_1) (h : states_Go.f l0_0 l0_1 l0_2 l0_3 a0_4 l1_0 l1_1 a2 a3 = some r) :
  Calls Tryd.prog 25 #[.agg #[.slice A0_0 l0_0.length c0_0, .slice A0_1 l0_1.length c0_1, .slice A0_2 l0_2.length c0_2, .slice A0_3 l0_3.length c0_3, .int .i64 a0_4], .agg #[.slice A1_0 l1_0.length c1_0, .slice A1_1 l1_1.length c1_1], .int .i64 a2, .int .i64 a3] w fun e w' => e = .returned (.int .i64 r) ∧ Below w.heap.size w w' := by
 have hu27 := Tryd.underlying27
 have hu49 := Tryd.underlying49
 have HR0_0 := jM hr0_0
 have HC0_0 := jM hc0_0
 clear hr0_0 hc0_0
 have HR0_1 := jM hr0_1
 have HC0_1 := jM hc0_1
 clear hr0_1 hc0_1
 have HR0_2 := jM hr0_2
 have HC0_2 := jM hc0_2
 clear hr0_2 hc0_2
 have HR0_3 := jM hr0_3
 have HC0_3 := jM hc0_3
 clear hr0_3 hc0_3
 have HR1_0 := jM hr1_0
 have HC1_0 := jM hc1_0
 clear hr1_0 hc1_0
 have HR1_1 := jM hr1_1
 have HC1_1 := jM hc1_1
 clear hr1_1 hc1_1
 have HB := jM (Below.refl w.heap.size w)
 have H : (if a3 < 0 then (if a2 < 0 then (some (-1)) else (if a2 ≥ (l1_1.length : Int) then (some (-1)) else (if (wrap64 ((l0_0.length : Int) + (wrap64 ((-1) - a3)))) < 0 then (some (-1)) else (if 0 ≤ a2 then (if a2 < (l1_1.length : Int) then (if (wrap64 ((l0_0.length : Int) + (wrap64 ((-1) - a3)))) ≥ ((rd_L17 l1_1 a2).length : Int) then (some (-1)) else (if 0 ≤ (wrap64 ((l0_0.length : Int) + (wrap64 ((-1) - a3)))) then (if (wrap64 ((l0_0.length : Int) + (wrap64 ((-1) - a3)))) < ((rd_L17 l1_1 a2).length : Int) then (some (rd (rd_L17 l1_1 a2) (wrap64 ((l0_0.length : Int) + (wrap64 ((-1) - a3)))))) else (none)) else (none))) else (none)) else (none))))) else (if a3 ≥ (l0_0.length : Int) then (some (-1)) else (if a2 < 0 then (some (-1)) else (if a2 ≥ (l1_1.length : Int) then (some (-1)) else (if 0 ≤ a2 then (if a2 < (l1_1.length : Int) then (if a3 ≥ ((rd_L17 l1_1 a2).length : Int) then (some (-1)) else (if 0 ≤ a3 then (if a3 < ((rd_L17 l1_1 a2).length : Int) then (some (rd (rd_L17 l1_1 a2) a3)) else (none)) else (none))) else (none)) else (none)))))) = some r := h
 clear h
 by_cases c5 : a3 < 0
 ·rw [if_pos c5] at H
  have c5b0 : decide (a3 < 0) = true := decide_eq_true c5
  clear c5
  by_cases c6 : a2 < 0
  ·rw [if_pos c6] at H
   have c6b0 : decide (a2 < 0) = true := decide_eq_true c6
   clear c6
   obtain rfl := Option.some.inj H
   go_enter Tryd.func25, Tryd.ntmps25
   go_wp2_with (first | ((with_reducible refine gate_dst (N := 4) rfl ?_); (try (refine gate_guard (by rfl) ?_; dsimp only)); refine box_event ?hg (N := 4) ?hd (cs := #[.slice A0_0 l0_0.length c0_0, .slice A0_1 l0_1.length c0_1, .slice A0_2 l0_2.length c0_2, .slice A0_3 l0_3.length c0_3, .int .i64 a0_4]) (t := 27) ?hr ?_; (case hd => rfl); (case hg => rfl); (case hr => first | (go_simp; done) | (go_simp; rfl)); intro gb162 hg w7 hbox hb; have n0_ := jM (jT (by repeat (first | (with_reducible first | exact HB.out | apply jA | apply jN | apply jD) | exact HB.out)) hb); have n1_ := jM (hbox); have n2_ := jM ((by rw [hg]; exact (below_size (by repeat (first | (with_reducible first | exact HB.out | apply jA | apply jN | apply jD) | exact HB.out))) : w.heap.size ≤ gb162)); have n3_ := jM ((by rw [hg]; exact (below_size (by repeat (first | (with_reducible first | exact HB.out | apply jA | apply jN | apply jD) | exact HB.out))) : w.heap.size ≤ gb162)); clear HB; have HB := n0_; have BK162 := n1_; have GW162 := n2_; have GE162 := n3_; clear n0_ n1_ n2_ n3_; clear hb hbox hg) | ((with_reducible refine gate_dst (N := 5) rfl ?_); (try (refine gate_guard (by rfl) ?_; dsimp only)); refine box_event ?hg (N := 5) ?hd (cs := #[.slice A1_0 l1_0.length c1_0, .slice A1_1 l1_1.length c1_1]) (t := 49) ?hr ?_; (case hd => rfl); (case hg => rfl); (case hr => first | (go_simp; done) | (go_simp; rfl)); intro gb163 hg w8 hbox hb; have n0_ := jM (jW (g := gb162) (o := .cells #[.slice A0_0 l0_0.length c0_0, .slice A0_1 l0_1.length c0_1, .slice A0_2 l0_2.length c0_2, .slice A0_3 l0_3.length c0_3, .int .i64 a0_4] 27 (0, 0)) (by (with_reducible repeat (first | refine jY ?_ _ | refine jZ ?_ | refine jX ?_ _)); exact BK162.out) hb); have n1_ := jM (jT (by repeat (first | (with_reducible first | exact HB.out | apply jA | apply jN | apply jD | refine jS ?_ GE162.out) | exact HB.out)) hb); have n2_ := jM (hbox); have n3_ := jM ((by rw [hg]; exact (below_size (by repeat (first | (with_reducible first | exact HB.out | apply jA | apply jN | apply jD | refine jS ?_ GE162.out) | exact HB.out))) : w.heap.size ≤ gb163)); have n4_ := jM ((by rw [hg]; exact (below_size (by repeat (first | (with_reducible first | exact HB.out | apply jA | apply jN | apply jD | refine jS ?_ GE162.out) | exact HB.out))) : w.heap.size ≤ gb163)); have n5_ := jM ((by rw [hg]; exact Nat.ne_of_lt (blk_lt (g := gb162) (o := .cells #[.slice A0_0 l0_0.length c0_0, .slice A0_1 l0_1.length c0_1, .slice A0_2 l0_2.length c0_2, .slice A0_3 l0_3.length c0_3, .int .i64 a0_4] 27 (0, 0)) (by (with_reducible repeat (first | refine jY ?_ _ | refine jZ ?_ | refine jX ?_ _)); exact BK162.out)) : gb162 ≠ gb163)); have n6_ := jM ((by rw [hg]; exact Nat.ne_of_gt (blk_lt (g := gb162) (o := .cells #[.slice A0_0 l0_0.length c0_0, .slice A0_1 l0_1.length c0_1, .slice A0_2 l0_2.length c0_2, .slice A0_3 l0_3.length c0_3, .int .i64 a0_4] 27 (0, 0)) (by (with_reducible repeat (first | refine jY ?_ _ | refine jZ ?_ | refine jX ?_ _)); exact BK162.out)) : gb163 ≠ gb162)); clear BK162; clear HB; have BK162 := n0_; have HB := n1_; have BK163 := n2_; have GW163 := n3_; have GE163 := n4_; have NB162_163 := n5_; have NB163_162 := n6_; clear n0_ n1_ n2_ n3_ n4_ n5_ n6_; clear hb hbox hg; have hnb9 := NB162_163.out; have hnc9 := NB163_162.out; have hcz10_0 : w8.cell? ⟨gb162, 0, none⟩ = some (.slice A0_0 l0_0.length c0_0) := (jC BK162.out 0).trans rfl; have hcz10_1 : w8.cell? ⟨gb162, 1, none⟩ = some (.slice A0_1 l0_1.length c0_1) := (jC BK162.out 1).trans rfl; have hcz10_2 : w8.cell? ⟨gb162, 2, none⟩ = some (.slice A0_2 l0_2.length c0_2) := (jC BK162.out 2).trans rfl; have hcz10_3 : w8.cell? ⟨gb162, 3, none⟩ = some (.slice A0_3 l0_3.length c0_3) := (jC BK162.out 3).trans rfl; have hcz10_4 : w8.cell? ⟨gb162, 4, none⟩ = some (.int .i64 a0_4) := (jC BK162.out 4).trans rfl; have hfz10_0 := jF BK162.out 0; have hfz10_1 := jF BK162.out 1; have hfz10_2 := jF BK162.out 2; have hfz10_3 := jF BK162.out 3; have hfz10_4 := jF BK162.out 4))
   go_ret
   exact ⟨by first | rfl | (simp [errW_none, errW_some] <;> rfl) | (simp [*, errW_none, errW_some] <;> rfl), by repeat (first | (with_reducible first | exact HB.out | apply jA | apply jN | apply jD | refine jS ?_ GE162.out | refine jS ?_ GE163.out) | exact HB.out)⟩
  ·rw [if_neg c6] at H
   have c6b0 : decide (a2 < 0) = false := decide_eq_false c6
   clear c6
   by_cases c11 : a2 ≥ (l1_1.length : Int)
   ·rw [if_pos c11] at H
    have c11b0 : decide ((l1_1.length : Int) ≤ a2) = true := decide_eq_true c11
    clear c11
    obtain rfl := Option.some.inj H
    go_enter Tryd.func25, Tryd.ntmps25
    go_wp2_with (first | ((with_reducible refine gate_dst (N := 4) rfl ?_); (try (refine gate_guard (by rfl) ?_; dsimp only)); refine box_event ?hg (N := 4) ?hd (cs := #[.slice A0_0 l0_0.length c0_0, .slice A0_1 l0_1.length c0_1, .slice A0_2 l0_2.length c0_2, .slice A0_3 l0_3.length c0_3, .int .i64 a0_4]) (t := 27) ?hr ?_; (case hd => rfl); (case hg => rfl); (case hr => first | (go_simp; done) | (go_simp; rfl)); intro gb162 hg w12 hbox hb; have n0_ := jM (jT (by repeat (first | (with_reducible first | exact HB.out | apply jA | apply jN | apply jD) | exact HB.out)) hb); have n1_ := jM (hbox); have n2_ := jM ((by rw [hg]; exact (below_size (by repeat (first | (with_reducible first | exact HB.out | apply jA | apply jN | apply jD) | exact HB.out))) : w.heap.size ≤ gb162)); have n3_ := jM ((by rw [hg]; exact (below_size (by repeat (first | (with_reducible first | exact HB.out | apply jA | apply jN | apply jD) | exact HB.out))) : w.heap.size ≤ gb162)); clear HB; have HB := n0_; have BK162 := n1_; have GW162 := n2_; have GE162 := n3_; clear n0_ n1_ n2_ n3_; clear hb hbox hg) | ((with_reducible refine gate_dst (N := 5) rfl ?_); (try (refine gate_guard (by rfl) ?_; dsimp only)); refine box_event ?hg (N := 5) ?hd (cs := #[.slice A1_0 l1_0.length c1_0, .slice A1_1 l1_1.length c1_1]) (t := 49) ?hr ?_; (case hd => rfl); (case hg => rfl); (case hr => first | (go_simp; done) | (go_simp; rfl)); intro gb163 hg w13 hbox hb; have n0_ := jM (jW (g := gb162) (o := .cells #[.slice A0_0 l0_0.length c0_0, .slice A0_1 l0_1.length c0_1, .slice A0_2 l0_2.length c0_2, .slice A0_3 l0_3.length c0_3, .int .i64 a0_4] 27 (0, 0)) (by (with_reducible repeat (first | refine jY ?_ _ | refine jZ ?_ | refine jX ?_ _)); exact BK162.out) hb); have n1_ := jM (jT (by repeat (first | (with_reducible first | exact HB.out | apply jA | apply jN | apply jD | refine jS ?_ GE162.out) | exact HB.out)) hb); have n2_ := jM (hbox); have n3_ := jM ((by rw [hg]; exact (below_size (by repeat (first | (with_reducible first | exact HB.out | apply jA | apply jN | apply jD | refine jS ?_ GE162.out) | exact HB.out))) : w.heap.size ≤ gb163)); have n4_ := jM ((by rw [hg]; exact (below_size (by repeat (first | (with_reducible first | exact HB.out | apply jA | apply jN | apply jD | refine jS ?_ GE162.out) | exact HB.out))) : w.heap.size ≤ gb163)); have n5_ := jM ((by rw [hg]; exact Nat.ne_of_lt (blk_lt (g := gb162) (o := .cells #[.slice A0_0 l0_0.length c0_0, .slice A0_1 l0_1.length c0_1, .slice A0_2 l0_2.length c0_2, .slice A0_3 l0_3.length c0_3, .int .i64 a0_4] 27 (0, 0)) (by (with_reducible repeat (first | refine jY ?_ _ | refine jZ ?_ | refine jX ?_ _)); exact BK162.out)) : gb162 ≠ gb163)); have n6_ := jM ((by rw [hg]; exact Nat.ne_of_gt (blk_lt (g := gb162) (o := .cells #[.slice A0_0 l0_0.length c0_0, .slice A0_1 l0_1.length c0_1, .slice A0_2 l0_2.length c0_2, .slice A0_3 l0_3.length c0_3, .int .i64 a0_4] 27 (0, 0)) (by (with_reducible repeat (first | refine jY ?_ _ | refine jZ ?_ | refine jX ?_ _)); exact BK162.out)) : gb163 ≠ gb162)); clear BK162; clear HB; have BK162 := n0_; have HB := n1_; have BK163 := n2_; have GW163 := n3_; have GE163 := n4_; have NB162_163 := n5_; have NB163_162 := n6_; clear n0_ n1_ n2_ n3_ n4_ n5_ n6_; clear hb hbox hg; have hnb14 := NB162_163.out; have hnc14 := NB163_162.out; have hcz15_0 : w13.cell? ⟨gb162, 0, none⟩ = some (.slice A0_0 l0_0.length c0_0) := (jC BK162.out 0).trans rfl; have hcz15_1 : w13.cell? ⟨gb162, 1, none⟩ = some (.slice A0_1 l0_1.length c0_1) := (jC BK162.out 1).trans rfl; have hcz15_2 : w13.cell? ⟨gb162, 2, none⟩ = some (.slice A0_2 l0_2.length c0_2) := (jC BK162.out 2).trans rfl; have hcz15_3 : w13.cell? ⟨gb162, 3, none⟩ = some (.slice A0_3 l0_3.length c0_3) := (jC BK162.out 3).trans rfl; have hcz15_4 : w13.cell? ⟨gb162, 4, none⟩ = some (.int .i64 a0_4) := (jC BK162.out 4).trans rfl; have hfz15_0 := jF BK162.out 0; have hfz15_1 := jF BK162.out 1; have hfz15_2 := jF BK162.out 2; have hfz15_3 := jF BK162.out 3; have hfz15_4 := jF BK162.out 4; have hcz16_0 : w13.cell? ⟨gb163, 0, none⟩ = some (.slice A1_0 l1_0.length c1_0) := (jC BK163.out 0).trans rfl; have hcz16_1 : w13.cell? ⟨gb163, 1, none⟩ = some (.slice A1_1 l1_1.length c1_1) := (jC BK163.out 1).trans rfl; have hfz16_0 := jF BK163.out 0; have hfz16_1 := jF BK163.out 1))
    go_ret
    exact ⟨by first | rfl | (simp [errW_none, errW_some] <;> rfl) | (simp [*, errW_none, errW_some] <;> rfl), by repeat (first | (with_reducible first | exact HB.out | apply jA | apply jN | apply jD | refine jS ?_ GE162.out | refine jS ?_ GE163.out) | exact HB.out)⟩
   ·rw [if_neg c11] at H
    have c11b0 : decide ((l1_1.length : Int) ≤ a2) = false := decide_eq_false c11
    clear c11
    by_cases c17 : (wrap64 ((l0_0.length : Int) + (wrap64 ((-1) - a3)))) < 0
    ·rw [if_pos c17] at H
     have c17b0 : decide ((wrap64 ((l0_0.length : Int) + (wrap64 ((-1) - a3)))) < 0) = true := decide_eq_true c17
     clear c17
     obtain rfl := Option.some.inj H
     go_enter Tryd.func25, Tryd.ntmps25
     go_wp2_with (first | ((with_reducible refine gate_dst (N := 4) rfl ?_); (try (refine gate_guard (by rfl) ?_; dsimp only)); refine box_event ?hg (N := 4) ?hd (cs := #[.slice A0_0 l0_0.length c0_0, .slice A0_1 l0_1.length c0_1, .slice A0_2 l0_2.length c0_2, .slice A0_3 l0_3.length c0_3, .int .i64 a0_4]) (t := 27) ?hr ?_; (case hd => rfl); (case hg => rfl); (case hr => first | (go_simp; done) | (go_simp; rfl)); intro gb162 hg w18 hbox hb; have n0_ := jM (jT (by repeat (first | (with_reducible first | exact HB.out | apply jA | apply jN | apply jD) | exact HB.out)) hb); have n1_ := jM (hbox); have n2_ := jM ((by rw [hg]; exact (below_size (by repeat (first | (with_reducible first | exact HB.out | apply jA | apply jN | apply jD) | exact HB.out))) : w.heap.size ≤ gb162)); have n3_ := jM ((by rw [hg]; exact (below_size (by repeat (first | (with_reducible first | exact HB.out | apply jA | apply jN | apply jD) | exact HB.out))) : w.heap.size ≤ gb162)); clear HB; have HB := n0_; have BK162 := n1_; have GW162 := n2_; have GE162 := n3_; clear n0_ n1_ n2_ n3_; clear hb hbox hg) | ((with_reducible refine gate_dst (N := 5) rfl ?_); (try (refine gate_guard (by rfl) ?_; dsimp only)); refine box_event ?hg (N := 5) ?hd (cs := #[.slice A1_0 l1_0.length c1_0, .slice A1_1 l1_1.length c1_1]) (t := 49) ?hr ?_; (case hd => rfl); (case hg => rfl); (case hr => first | (go_simp; done) | (go_simp; rfl)); intro gb163 hg w19 hbox hb; have n0_ := jM (jW (g := gb162) (o := .cells #[.slice A0_0 l0_0.length c0_0, .slice A0_1 l0_1.length c0_1, .slice A0_2 l0_2.length c0_2, .slice A0_3 l0_3.length c0_3, .int .i64 a0_4] 27 (0, 0)) (by (with_reducible repeat (first | refine jY ?_ _ | refine jZ ?_ | refine jX ?_ _)); exact BK162.out) hb); have n1_ := jM (jT (by repeat (first | (with_reducible first | exact HB.out | apply jA | apply jN | apply jD | refine jS ?_ GE162.out) | exact HB.out)) hb); have n2_ := jM (hbox); have n3_ := jM ((by rw [hg]; exact (below_size (by repeat (first | (with_reducible first | exact HB.out | apply jA | apply jN | apply jD | refine jS ?_ GE162.out) | exact HB.out))) : w.heap.size ≤ gb163)); have n4_ := jM ((by rw [hg]; exact (below_size (by repeat (first | (with_reducible first | exact HB.out | apply jA | apply jN | apply jD | refine jS ?_ GE162.out) | exact HB.out))) : w.heap.size ≤ gb163)); have n5_ := jM ((by rw [hg]; exact Nat.ne_of_lt (blk_lt (g := gb162) (o := .cells #[.slice A0_0 l0_0.length c0_0, .slice A0_1 l0_1.length c0_1, .slice A0_2 l0_2.length c0_2, .slice A0_3 l0_3.length c0_3, .int .i64 a0_4] 27 (0, 0)) (by (with_reducible repeat (first | refine jY ?_ _ | refine jZ ?_ | refine jX ?_ _)); exact BK162.out)) : gb162 ≠ gb163)); have n6_ := jM ((by rw [hg]; exact Nat.ne_of_gt (blk_lt (g := gb162) (o := .cells #[.slice A0_0 l0_0.length c0_0, .slice A0_1 l0_1.length c0_1, .slice A0_2 l0_2.length c0_2, .slice A0_3 l0_3.length c0_3, .int .i64 a0_4] 27 (0, 0)) (by (with_reducible repeat (first | refine jY ?_ _ | refine jZ ?_ | refine jX ?_ _)); exact BK162.out)) : gb163 ≠ gb162)); clear BK162; clear HB; have BK162 := n0_; have HB := n1_; have BK163 := n2_; have GW163 := n3_; have GE163 := n4_; have NB162_163 := n5_; have NB163_162 := n6_; clear n0_ n1_ n2_ n3_ n4_ n5_ n6_; clear hb hbox hg; have hnb20 := NB162_163.out; have hnc20 := NB163_162.out; have hcz21_0 : w19.cell? ⟨gb162, 0, none⟩ = some (.slice A0_0 l0_0.length c0_0) := (jC BK162.out 0).trans rfl; have hcz21_1 : w19.cell? ⟨gb162, 1, none⟩ = some (.slice A0_1 l0_1.length c0_1) := (jC BK162.out 1).trans rfl; have hcz21_2 : w19.cell? ⟨gb162, 2, none⟩ = some (.slice A0_2 l0_2.length c0_2) := (jC BK162.out 2).trans rfl; have hcz21_3 : w19.cell? ⟨gb162, 3, none⟩ = some (.slice A0_3 l0_3.length c0_3) := (jC BK162.out 3).trans rfl; have hcz21_4 : w19.cell? ⟨gb162, 4, none⟩ = some (.int .i64 a0_4) := (jC BK162.out 4).trans rfl; have hfz21_0 := jF BK162.out 0; have hfz21_1 := jF BK162.out 1; have hfz21_2 := jF BK162.out 2; have hfz21_3 := jF BK162.out 3; have hfz21_4 := jF BK162.out 4; have hcz22_0 : w19.cell? ⟨gb163, 0, none⟩ = some (.slice A1_0 l1_0.length c1_0) := (jC BK163.out 0).trans rfl; have hcz22_1 : w19.cell? ⟨gb163, 1, none⟩ = some (.slice A1_1 l1_1.length c1_1) := (jC BK163.out 1).trans rfl; have hfz22_0 := jF BK163.out 0; have hfz22_1 := jF BK163.out 1))
     go_ret
     exact ⟨by first | rfl | (simp [errW_none, errW_some] <;> rfl) | (simp [*, errW_none, errW_some] <;> rfl), by repeat (first | (with_reducible first | exact HB.out | apply jA | apply jN | apply jD | refine jS ?_ GE162.out | refine jS ?_ GE163.out) | exact HB.out)⟩
    ·rw [if_neg c17] at H
     have c17b0 : decide ((wrap64 ((l0_0.length : Int) + (wrap64 ((-1) - a3)))) < 0) = false := decide_eq_false c17
     clear c17
     by_cases c23 : 0 ≤ a2
     ·rw [if_pos c23] at H
      have c23b0 : decide (0 ≤ a2) = true := decide_eq_true c23
      clear c23
      by_cases c24 : a2 < (l1_1.length : Int)
      ·rw [if_pos c24] at H
       have c24b0 : decide (a2 < (l1_1.length : Int)) = true := decide_eq_true c24
       clear c24
       by_cases c25 : (wrap64 ((l0_0.length : Int) + (wrap64 ((-1) - a3)))) ≥ ((rd_L17 l1_1 a2).length : Int)
       ·rw [if_pos c25] at H
        have c25b0 : decide (((rd_L17 l1_1 a2).length : Int) ≤ (wrap64 ((l0_0.length : Int) + (wrap64 ((-1) - a3))))) = true := decide_eq_true c25
        clear c25
        obtain rfl := Option.some.inj H
        go_enter Tryd.func25, Tryd.ntmps25
        go_wp2_with (first | ((with_reducible refine gate_dst (N := 4) rfl ?_); (try (refine gate_guard (by rfl) ?_; dsimp only)); refine box_event ?hg (N := 4) ?hd (cs := #[.slice A0_0 l0_0.length c0_0, .slice A0_1 l0_1.length c0_1, .slice A0_2 l0_2.length c0_2, .slice A0_3 l0_3.length c0_3, .int .i64 a0_4]) (t := 27) ?hr ?_; (case hd => rfl); (case hg => rfl); (case hr => first | (go_simp; done) | (go_simp; rfl)); intro gb162 hg w26 hbox hb; have n0_ := jM (jT (by repeat (first | (with_reducible first | exact HB.out | apply jA | apply jN | apply jD) | exact HB.out)) hb); have n1_ := jM (hbox); have n2_ := jM ((by rw [hg]; exact (below_size (by repeat (first | (with_reducible first | exact HB.out | apply jA | apply jN | apply jD) | exact HB.out))) : w.heap.size ≤ gb162)); have n3_ := jM ((by rw [hg]; exact (below_size (by repeat (first | (with_reducible first | exact HB.out | apply jA | apply jN | apply jD) | exact HB.out))) : w.heap.size ≤ gb162)); clear HB; have HB := n0_; have BK162 := n1_; have GW162 := n2_; have GE162 := n3_; clear n0_ n1_ n2_ n3_; clear hb hbox hg) | ((with_reducible refine gate_dst (N := 5) rfl ?_); (try (refine gate_guard (by rfl) ?_; dsimp only)); refine box_event ?hg (N := 5) ?hd (cs := #[.slice A1_0 l1_0.length c1_0, .slice A1_1 l1_1.length c1_1]) (t := 49) ?hr ?_; (case hd => rfl); (case hg => rfl); (case hr => first | (go_simp; done) | (go_simp; rfl)); intro gb163 hg w27 hbox hb; have n0_ := jM (jW (g := gb162) (o := .cells #[.slice A0_0 l0_0.length c0_0, .slice A0_1 l0_1.length c0_1, .slice A0_2 l0_2.length c0_2, .slice A0_3 l0_3.length c0_3, .int .i64 a0_4] 27 (0, 0)) (by (with_reducible repeat (first | refine jY ?_ _ | refine jZ ?_ | refine jX ?_ _)); exact BK162.out) hb); have n1_ := jM (jT (by repeat (first | (with_reducible first | exact HB.out | apply jA | apply jN | apply jD | refine jS ?_ GE162.out) | exact HB.out)) hb); have n2_ := jM (hbox); have n3_ := jM ((by rw [hg]; exact (below_size (by repeat (first | (with_reducible first | exact HB.out | apply jA | apply jN | apply jD | refine jS ?_ GE162.out) | exact HB.out))) : w.heap.size ≤ gb163)); have n4_ := jM ((by rw [hg]; exact (below_size (by repeat (first | (with_reducible first | exact HB.out | apply jA | apply jN | apply jD | refine jS ?_ GE162.out) | exact HB.out))) : w.heap.size ≤ gb163)); have n5_ := jM ((by rw [hg]; exact Nat.ne_of_lt (blk_lt (g := gb162) (o := .cells #[.slice A0_0 l0_0.length c0_0, .slice A0_1 l0_1.length c0_1, .slice A0_2 l0_2.length c0_2, .slice A0_3 l0_3.length c0_3, .int .i64 a0_4] 27 (0, 0)) (by (with_reducible repeat (first | refine jY ?_ _ | refine jZ ?_ | refine jX ?_ _)); exact BK162.out)) : gb162 ≠ gb163)); have n6_ := jM ((by rw [hg]; exact Nat.ne_of_gt (blk_lt (g := gb162) (o := .cells #[.slice A0_0 l0_0.length c0_0, .slice A0_1 l0_1.length c0_1, .slice A0_2 l0_2.length c0_2, .slice A0_3 l0_3.length c0_3, .int .i64 a0_4] 27 (0, 0)) (by (with_reducible repeat (first | refine jY ?_ _ | refine jZ ?_ | refine jX ?_ _)); exact BK162.out)) : gb163 ≠ gb162)); clear BK162; clear HB; have BK162 := n0_; have HB := n1_; have BK163 := n2_; have GW163 := n3_; have GE163 := n4_; have NB162_163 := n5_; have NB163_162 := n6_; clear n0_ n1_ n2_ n3_ n4_ n5_ n6_; clear hb hbox hg; have hnb28 := NB162_163.out; have hnc28 := NB163_162.out; have hcz29_0 : w27.cell? ⟨gb162, 0, none⟩ = some (.slice A0_0 l0_0.length c0_0) := (jC BK162.out 0).trans rfl; have hcz29_1 : w27.cell? ⟨gb162, 1, none⟩ = some (.slice A0_1 l0_1.length c0_1) := (jC BK162.out 1).trans rfl; have hcz29_2 : w27.cell? ⟨gb162, 2, none⟩ = some (.slice A0_2 l0_2.length c0_2) := (jC BK162.out 2).trans rfl; have hcz29_3 : w27.cell? ⟨gb162, 3, none⟩ = some (.slice A0_3 l0_3.length c0_3) := (jC BK162.out 3).trans rfl; have hcz29_4 : w27.cell? ⟨gb162, 4, none⟩ = some (.int .i64 a0_4) := (jC BK162.out 4).trans rfl; have hfz29_0 := jF BK162.out 0; have hfz29_1 := jF BK162.out 1; have hfz29_2 := jF BK162.out 2; have hfz29_3 := jF BK162.out 3; have hfz29_4 := jF BK162.out 4; have hcz30_0 : w27.cell? ⟨gb163, 0, none⟩ = some (.slice A1_0 l1_0.length c1_0) := (jC BK163.out 0).trans rfl; have hcz30_1 : w27.cell? ⟨gb163, 1, none⟩ = some (.slice A1_1 l1_1.length c1_1) := (jC BK163.out 1).trans rfl; have hfz30_0 := jF BK163.out 0; have hfz30_1 := jF BK163.out 1; have p164 : 0 ≤ (a2 : Int) := of_decide_eq_true (by first | (with_reducible assumption) | assumption); have q164 : a2 < (l1_1.length : Int) := of_decide_eq_true (by first | (with_reducible assumption) | assumption); obtain ⟨ad164, A164_0, c164_0, e164, hx164_0, hl164_0, hi164_0⟩ := at_L17 HR1_1.out a2 p164 q164; cases e164; replace hx164_0 := (HB.out.cell (jL w _ hx164_0)).trans hx164_0; have HR164_0 := jM hi164_0; have HC164_0 := jM hl164_0; clear hi164_0 hl164_0; replace p164 := eq_true p164; replace q164 := eq_true q164))
        go_ret
        exact ⟨by first | rfl | (simp [errW_none, errW_some] <;> rfl) | (simp [*, errW_none, errW_some] <;> rfl), by repeat (first | (with_reducible first | exact HB.out | apply jA | apply jN | apply jD | refine jS ?_ GE162.out | refine jS ?_ GE163.out) | exact HB.out)⟩
       ·rw [if_neg c25] at H
        have c25b0 : decide (((rd_L17 l1_1 a2).length : Int) ≤ (wrap64 ((l0_0.length : Int) + (wrap64 ((-1) - a3))))) = false := decide_eq_false c25
        clear c25
        obtain ⟨ji31, hji31⟩ : ∃ j_ : Int, (wrap64 ((l0_0.length : Int) + (wrap64 ((-1) - a3)))) = j_ := ⟨_, rfl⟩
        replace H : (if 0 ≤ (ji31) then (if (ji31) < ((rd_L17 l1_1 a2).length : Int) then (some (rd (rd_L17 l1_1 a2) (ji31))) else (none)) else (none)) = some r := by first | (rw [hji31] at H; exact H) | (simp only [hji31] at H ⊢; exact H)
        (try rw [hji31] at c17b0)
        (try rw [hji31] at c25b0)
        have hji31w : (IntKind.i64.wrap ((l0_0.length : Int) + (wrap64 ((-1) - a3)))) = ji31 := (i64_w _).trans hji31
        by_cases c32 : 0 ≤ (ji31)
        ·rw [if_pos c32] at H
         have c32b0 : decide (0 ≤ (ji31)) = true := decide_eq_true c32
         clear c32
         by_cases c33 : (ji31) < ((rd_L17 l1_1 a2).length : Int)
         ·rw [if_pos c33] at H
          have c33b0 : decide ((ji31) < ((rd_L17 l1_1 a2).length : Int)) = true := decide_eq_true c33
          clear c33
          obtain rfl := Option.some.inj H
          go_enter Tryd.func25, Tryd.ntmps25
          go_wp2_with (first | ((with_reducible refine gate_dst (N := 4) rfl ?_); (try (refine gate_guard (by rfl) ?_; dsimp only)); refine box_event ?hg (N := 4) ?hd (cs := #[.slice A0_0 l0_0.length c0_0, .slice A0_1 l0_1.length c0_1, .slice A0_2 l0_2.length c0_2, .slice A0_3 l0_3.length c0_3, .int .i64 a0_4]) (t := 27) ?hr ?_; (case hd => rfl); (case hg => rfl); (case hr => first | (go_simp; done) | (go_simp; rfl)); intro gb162 hg w34 hbox hb; have n0_ := jM (jT (by repeat (first | (with_reducible first | exact HB.out | apply jA | apply jN | apply jD) | exact HB.out)) hb); have n1_ := jM (hbox); have n2_ := jM ((by rw [hg]; exact (below_size (by repeat (first | (with_reducible first | exact HB.out | apply jA | apply jN | apply jD) | exact HB.out))) : w.heap.size ≤ gb162)); have n3_ := jM ((by rw [hg]; exact (below_size (by repeat (first | (with_reducible first | exact HB.out | apply jA | apply jN | apply jD) | exact HB.out))) : w.heap.size ≤ gb162)); clear HB; have HB := n0_; have BK162 := n1_; have GW162 := n2_; have GE162 := n3_; clear n0_ n1_ n2_ n3_; clear hb hbox hg) | ((with_reducible refine gate_dst (N := 5) rfl ?_); (try (refine gate_guard (by rfl) ?_; dsimp only)); refine box_event ?hg (N := 5) ?hd (cs := #[.slice A1_0 l1_0.length c1_0, .slice A1_1 l1_1.length c1_1]) (t := 49) ?hr ?_; (case hd => rfl); (case hg => rfl); (case hr => first | (go_simp; done) | (go_simp; rfl)); intro gb163 hg w35 hbox hb; have n0_ := jM (jW (g := gb162) (o := .cells #[.slice A0_0 l0_0.length c0_0, .slice A0_1 l0_1.length c0_1, .slice A0_2 l0_2.length c0_2, .slice A0_3 l0_3.length c0_3, .int .i64 a0_4] 27 (0, 0)) (by (with_reducible repeat (first | refine jY ?_ _ | refine jZ ?_ | refine jX ?_ _)); exact BK162.out) hb); have n1_ := jM (jT (by repeat (first | (with_reducible first | exact HB.out | apply jA | apply jN | apply jD | refine jS ?_ GE162.out) | exact HB.out)) hb); have n2_ := jM (hbox); have n3_ := jM ((by rw [hg]; exact (below_size (by repeat (first | (with_reducible first | exact HB.out | apply jA | apply jN | apply jD | refine jS ?_ GE162.out) | exact HB.out))) : w.heap.size ≤ gb163)); have n4_ := jM ((by rw [hg]; exact (below_size (by repeat (first | (with_reducible first | exact HB.out | apply jA | apply jN | apply jD | refine jS ?_ GE162.out) | exact HB.out))) : w.heap.size ≤ gb163)); have n5_ := jM ((by rw [hg]; exact Nat.ne_of_lt (blk_lt (g := gb162) (o := .cells #[.slice A0_0 l0_0.length c0_0, .slice A0_1 l0_1.length c0_1, .slice A0_2 l0_2.length c0_2, .slice A0_3 l0_3.length c0_3, .int .i64 a0_4] 27 (0, 0)) (by (with_reducible repeat (first | refine jY ?_ _ | refine jZ ?_ | refine jX ?_ _)); exact BK162.out)) : gb162 ≠ gb163)); have n6_ := jM ((by rw [hg]; exact Nat.ne_of_gt (blk_lt (g := gb162) (o := .cells #[.slice A0_0 l0_0.length c0_0, .slice A0_1 l0_1.length c0_1, .slice A0_2 l0_2.length c0_2, .slice A0_3 l0_3.length c0_3, .int .i64 a0_4] 27 (0, 0)) (by (with_reducible repeat (first | refine jY ?_ _ | refine jZ ?_ | refine jX ?_ _)); exact BK162.out)) : gb163 ≠ gb162)); clear BK162; clear HB; have BK162 := n0_; have HB := n1_; have BK163 := n2_; have GW163 := n3_; have GE163 := n4_; have NB162_163 := n5_; have NB163_162 := n6_; clear n0_ n1_ n2_ n3_ n4_ n5_ n6_; clear hb hbox hg; have hnb36 := NB162_163.out; have hnc36 := NB163_162.out; have hcz37_0 : w35.cell? ⟨gb162, 0, none⟩ = some (.slice A0_0 l0_0.length c0_0) := (jC BK162.out 0).trans rfl; have hcz37_1 : w35.cell? ⟨gb162, 1, none⟩ = some (.slice A0_1 l0_1.length c0_1) := (jC BK162.out 1).trans rfl; have hcz37_2 : w35.cell? ⟨gb162, 2, none⟩ = some (.slice A0_2 l0_2.length c0_2) := (jC BK162.out 2).trans rfl; have hcz37_3 : w35.cell? ⟨gb162, 3, none⟩ = some (.slice A0_3 l0_3.length c0_3) := (jC BK162.out 3).trans rfl; have hcz37_4 : w35.cell? ⟨gb162, 4, none⟩ = some (.int .i64 a0_4) := (jC BK162.out 4).trans rfl; have hfz37_0 := jF BK162.out 0; have hfz37_1 := jF BK162.out 1; have hfz37_2 := jF BK162.out 2; have hfz37_3 := jF BK162.out 3; have hfz37_4 := jF BK162.out 4; have hcz38_0 : w35.cell? ⟨gb163, 0, none⟩ = some (.slice A1_0 l1_0.length c1_0) := (jC BK163.out 0).trans rfl; have hcz38_1 : w35.cell? ⟨gb163, 1, none⟩ = some (.slice A1_1 l1_1.length c1_1) := (jC BK163.out 1).trans rfl; have hfz38_0 := jF BK163.out 0; have hfz38_1 := jF BK163.out 1; have p164 : 0 ≤ (a2 : Int) := of_decide_eq_true (by first | (with_reducible assumption) | assumption); have q164 : a2 < (l1_1.length : Int) := of_decide_eq_true (by first | (with_reducible assumption) | assumption); obtain ⟨ad164, A164_0, c164_0, e164, hx164_0, hl164_0, hi164_0⟩ := at_L17 HR1_1.out a2 p164 q164; cases e164; replace hx164_0 := (HB.out.cell (jL w _ hx164_0)).trans hx164_0; have HR164_0 := jM hi164_0; have HC164_0 := jM hl164_0; clear hi164_0 hl164_0; replace p164 := eq_true p164; replace q164 := eq_true q164; have p165 : 0 ≤ (a2 : Int) := of_decide_eq_true (by first | (with_reducible assumption) | assumption); have q165 : a2 < (l1_1.length : Int) := of_decide_eq_true (by first | (with_reducible assumption) | assumption); obtain ⟨ad165, A165_0, c165_0, e165, hx165_0, hl165_0, hi165_0⟩ := at_L17 HR1_1.out a2 p165 q165; obtain rfl : ad164 = ad165 := (by injection e165); replace hx165_0 := (HB.out.cell (jL w _ hx165_0)).trans hx165_0; have HR165_0 := jM hi165_0; have HC165_0 := jM hl165_0; clear hi165_0 hl165_0; replace p165 := eq_true p165; replace q165 := eq_true q165; have ea_ := Option.some.inj (hx164_0.symm.trans hx165_0); injection ea_ with ea_ en_ ec_; subst ea_; subst ec_; clear en_; have p166 : 0 ≤ ((ji31) : Int) := of_decide_eq_true (by first | (with_reducible assumption) | assumption); have q166 : (ji31) < ((rd_L17 l1_1 a2).length : Int) := of_decide_eq_true (by first | (with_reducible assumption) | assumption); obtain ⟨ad166, e166, hx166_0⟩ := Kd.at_int HR165_0.out (ji31) p166 q166; cases e166; replace hx166_0 := (HB.out.cell (jL w _ hx166_0)).trans hx166_0; replace p166 := eq_true p166; replace q166 := eq_true q166))
          go_ret
          exact ⟨by first | rfl | (simp [errW_none, errW_some] <;> rfl) | (simp only [← hji31]; first | rfl | (simp [errW_none, errW_some] <;> rfl)) | (simp [*, errW_none, errW_some] <;> rfl), by repeat (first | (with_reducible first | exact HB.out | apply jA | apply jN | apply jD | refine jS ?_ GE162.out | refine jS ?_ GE163.out) | exact HB.out)⟩
         ·rw [if_neg c33] at H
          exact absurd H (by simp)
        ·rw [if_neg c32] at H
         exact absurd H (by simp)
      ·rw [if_neg c24] at H
       exact absurd H (by simp)
     ·rw [if_neg c23] at H
      exact absurd H (by simp)
 ·rw [if_neg c5] at H
  have c5b0 : decide (a3 < 0) = false := decide_eq_false c5
  clear c5
  by_cases c39 : a3 ≥ (l0_0.length : Int)
  ·rw [if_pos c39] at H
   have c39b0 : decide ((l0_0.length : Int) ≤ a3) = true := decide_eq_true c39
   clear c39
   obtain rfl := Option.some.inj H
   go_enter Tryd.func25, Tryd.ntmps25
   go_wp2_with (first | ((with_reducible refine gate_dst (N := 4) rfl ?_); (try (refine gate_guard (by rfl) ?_; dsimp only)); refine box_event ?hg (N := 4) ?hd (cs := #[.slice A0_0 l0_0.length c0_0, .slice A0_1 l0_1.length c0_1, .slice A0_2 l0_2.length c0_2, .slice A0_3 l0_3.length c0_3, .int .i64 a0_4]) (t := 27) ?hr ?_; (case hd => rfl); (case hg => rfl); (case hr => first | (go_simp; done) | (go_simp; rfl)); intro gb162 hg w40 hbox hb; have n0_ := jM (jT (by repeat (first | (with_reducible first | exact HB.out | apply jA | apply jN | apply jD) | exact HB.out)) hb); have n1_ := jM (hbox); have n2_ := jM ((by rw [hg]; exact (below_size (by repeat (first | (with_reducible first | exact HB.out | apply jA | apply jN | apply jD) | exact HB.out))) : w.heap.size ≤ gb162)); have n3_ := jM ((by rw [hg]; exact (below_size (by repeat (first | (with_reducible first | exact HB.out | apply jA | apply jN | apply jD) | exact HB.out))) : w.heap.size ≤ gb162)); clear HB; have HB := n0_; have BK162 := n1_; have GW162 := n2_; have GE162 := n3_; clear n0_ n1_ n2_ n3_; clear hb hbox hg) | ((with_reducible refine gate_dst (N := 5) rfl ?_); (try (refine gate_guard (by rfl) ?_; dsimp only)); refine box_event ?hg (N := 5) ?hd (cs := #[.slice A1_0 l1_0.length c1_0, .slice A1_1 l1_1.length c1_1]) (t := 49) ?hr ?_; (case hd => rfl); (case hg => rfl); (case hr => first | (go_simp; done) | (go_simp; rfl)); intro gb163 hg w41 hbox hb; have n0_ := jM (jW (g := gb162) (o := .cells #[.slice A0_0 l0_0.length c0_0, .slice A0_1 l0_1.length c0_1, .slice A0_2 l0_2.length c0_2, .slice A0_3 l0_3.length c0_3, .int .i64 a0_4] 27 (0, 0)) (by (with_reducible repeat (first | refine jY ?_ _ | refine jZ ?_ | refine jX ?_ _)); exact BK162.out) hb); have n1_ := jM (jT (by repeat (first | (with_reducible first | exact HB.out | apply jA | apply jN | apply jD | refine jS ?_ GE162.out) | exact HB.out)) hb); have n2_ := jM (hbox); have n3_ := jM ((by rw [hg]; exact (below_size (by repeat (first | (with_reducible first | exact HB.out | apply jA | apply jN | apply jD | refine jS ?_ GE162.out) | exact HB.out))) : w.heap.size ≤ gb163)); have n4_ := jM ((by rw [hg]; exact (below_size (by repeat (first | (with_reducible first | exact HB.out | apply jA | apply jN | apply jD | refine jS ?_ GE162.out) | exact HB.out))) : w.heap.size ≤ gb163)); have n5_ := jM ((by rw [hg]; exact Nat.ne_of_lt (blk_lt (g := gb162) (o := .cells #[.slice A0_0 l0_0.length c0_0, .slice A0_1 l0_1.length c0_1, .slice A0_2 l0_2.length c0_2, .slice A0_3 l0_3.length c0_3, .int .i64 a0_4] 27 (0, 0)) (by (with_reducible repeat (first | refine jY ?_ _ | refine jZ ?_ | refine jX ?_ _)); exact BK162.out)) : gb162 ≠ gb163)); have n6_ := jM ((by rw [hg]; exact Nat.ne_of_gt (blk_lt (g := gb162) (o := .cells #[.slice A0_0 l0_0.length c0_0, .slice A0_1 l0_1.length c0_1, .slice A0_2 l0_2.length c0_2, .slice A0_3 l0_3.length c0_3, .int .i64 a0_4] 27 (0, 0)) (by (with_reducible repeat (first | refine jY ?_ _ | refine jZ ?_ | refine jX ?_ _)); exact BK162.out)) : gb163 ≠ gb162)); clear BK162; clear HB; have BK162 := n0_; have HB := n1_; have BK163 := n2_; have GW163 := n3_; have GE163 := n4_; have NB162_163 := n5_; have NB163_162 := n6_; clear n0_ n1_ n2_ n3_ n4_ n5_ n6_; clear hb hbox hg; have hnb42 := NB162_163.out; have hnc42 := NB163_162.out; have hcz43_0 : w41.cell? ⟨gb162, 0, none⟩ = some (.slice A0_0 l0_0.length c0_0) := (jC BK162.out 0).trans rfl; have hcz43_1 : w41.cell? ⟨gb162, 1, none⟩ = some (.slice A0_1 l0_1.length c0_1) := (jC BK162.out 1).trans rfl; have hcz43_2 : w41.cell? ⟨gb162, 2, none⟩ = some (.slice A0_2 l0_2.length c0_2) := (jC BK162.out 2).trans rfl; have hcz43_3 : w41.cell? ⟨gb162, 3, none⟩ = some (.slice A0_3 l0_3.length c0_3) := (jC BK162.out 3).trans rfl; have hcz43_4 : w41.cell? ⟨gb162, 4, none⟩ = some (.int .i64 a0_4) := (jC BK162.out 4).trans rfl; have hfz43_0 := jF BK162.out 0; have hfz43_1 := jF BK162.out 1; have hfz43_2 := jF BK162.out 2; have hfz43_3 := jF BK162.out 3; have hfz43_4 := jF BK162.out 4))
   go_ret
   exact ⟨by first | rfl | (simp [errW_none, errW_some] <;> rfl) | (simp [*, errW_none, errW_some] <;> rfl), by repeat (first | (with_reducible first | exact HB.out | apply jA | apply jN | apply jD | refine jS ?_ GE162.out | refine jS ?_ GE163.out) | exact HB.out)⟩
  ·rw [if_neg c39] at H
   have c39b0 : decide ((l0_0.length : Int) ≤ a3) = false := decide_eq_false c39
   clear c39
   by_cases c44 : a2 < 0
   ·rw [if_pos c44] at H
    have c44b0 : decide (a2 < 0) = true := decide_eq_true c44
    clear c44
    obtain rfl := Option.some.inj H
    go_enter Tryd.func25, Tryd.ntmps25
    go_wp2_with (first | ((with_reducible refine gate_dst (N := 4) rfl ?_); (try (refine gate_guard (by rfl) ?_; dsimp only)); refine box_event ?hg (N := 4) ?hd (cs := #[.slice A0_0 l0_0.length c0_0, .slice A0_1 l0_1.length c0_1, .slice A0_2 l0_2.length c0_2, .slice A0_3 l0_3.length c0_3, .int .i64 a0_4]) (t := 27) ?hr ?_; (case hd => rfl); (case hg => rfl); (case hr => first | (go_simp; done) | (go_simp; rfl)); intro gb162 hg w45 hbox hb; have n0_ := jM (jT (by repeat (first | (with_reducible first | exact HB.out | apply jA | apply jN | apply jD) | exact HB.out)) hb); have n1_ := jM (hbox); have n2_ := jM ((by rw [hg]; exact (below_size (by repeat (first | (with_reducible first | exact HB.out | apply jA | apply jN | apply jD) | exact HB.out))) : w.heap.size ≤ gb162)); have n3_ := jM ((by rw [hg]; exact (below_size (by repeat (first | (with_reducible first | exact HB.out | apply jA | apply jN | apply jD) | exact HB.out))) : w.heap.size ≤ gb162)); clear HB; have HB := n0_; have BK162 := n1_; have GW162 := n2_; have GE162 := n3_; clear n0_ n1_ n2_ n3_; clear hb hbox hg) | ((with_reducible refine gate_dst (N := 5) rfl ?_); (try (refine gate_guard (by rfl) ?_; dsimp only)); refine box_event ?hg (N := 5) ?hd (cs := #[.slice A1_0 l1_0.length c1_0, .slice A1_1 l1_1.length c1_1]) (t := 49) ?hr ?_; (case hd => rfl); (case hg => rfl); (case hr => first | (go_simp; done) | (go_simp; rfl)); intro gb163 hg w46 hbox hb; have n0_ := jM (jW (g := gb162) (o := .cells #[.slice A0_0 l0_0.length c0_0, .slice A0_1 l0_1.length c0_1, .slice A0_2 l0_2.length c0_2, .slice A0_3 l0_3.length c0_3, .int .i64 a0_4] 27 (0, 0)) (by (with_reducible repeat (first | refine jY ?_ _ | refine jZ ?_ | refine jX ?_ _)); exact BK162.out) hb); have n1_ := jM (jT (by repeat (first | (with_reducible first | exact HB.out | apply jA | apply jN | apply jD | refine jS ?_ GE162.out) | exact HB.out)) hb); have n2_ := jM (hbox); have n3_ := jM ((by rw [hg]; exact (below_size (by repeat (first | (with_reducible first | exact HB.out | apply jA | apply jN | apply jD | refine jS ?_ GE162.out) | exact HB.out))) : w.heap.size ≤ gb163)); have n4_ := jM ((by rw [hg]; exact (below_size (by repeat (first | (with_reducible first | exact HB.out | apply jA | apply jN | apply jD | refine jS ?_ GE162.out) | exact HB.out))) : w.heap.size ≤ gb163)); have n5_ := jM ((by rw [hg]; exact Nat.ne_of_lt (blk_lt (g := gb162) (o := .cells #[.slice A0_0 l0_0.length c0_0, .slice A0_1 l0_1.length c0_1, .slice A0_2 l0_2.length c0_2, .slice A0_3 l0_3.length c0_3, .int .i64 a0_4] 27 (0, 0)) (by (with_reducible repeat (first | refine jY ?_ _ | refine jZ ?_ | refine jX ?_ _)); exact BK162.out)) : gb162 ≠ gb163)); have n6_ := jM ((by rw [hg]; exact Nat.ne_of_gt (blk_lt (g := gb162) (o := .cells #[.slice A0_0 l0_0.length c0_0, .slice A0_1 l0_1.length c0_1, .slice A0_2 l0_2.length c0_2, .slice A0_3 l0_3.length c0_3, .int .i64 a0_4] 27 (0, 0)) (by (with_reducible repeat (first | refine jY ?_ _ | refine jZ ?_ | refine jX ?_ _)); exact BK162.out)) : gb163 ≠ gb162)); clear BK162; clear HB; have BK162 := n0_; have HB := n1_; have BK163 := n2_; have GW163 := n3_; have GE163 := n4_; have NB162_163 := n5_; have NB163_162 := n6_; clear n0_ n1_ n2_ n3_ n4_ n5_ n6_; clear hb hbox hg; have hnb47 := NB162_163.out; have hnc47 := NB163_162.out; have hcz48_0 : w46.cell? ⟨gb162, 0, none⟩ = some (.slice A0_0 l0_0.length c0_0) := (jC BK162.out 0).trans rfl; have hcz48_1 : w46.cell? ⟨gb162, 1, none⟩ = some (.slice A0_1 l0_1.length c0_1) := (jC BK162.out 1).trans rfl; have hcz48_2 : w46.cell? ⟨gb162, 2, none⟩ = some (.slice A0_2 l0_2.length c0_2) := (jC BK162.out 2).trans rfl; have hcz48_3 : w46.cell? ⟨gb162, 3, none⟩ = some (.slice A0_3 l0_3.length c0_3) := (jC BK162.out 3).trans rfl; have hcz48_4 : w46.cell? ⟨gb162, 4, none⟩ = some (.int .i64 a0_4) := (jC BK162.out 4).trans rfl; have hfz48_0 := jF BK162.out 0; have hfz48_1 := jF BK162.out 1; have hfz48_2 := jF BK162.out 2; have hfz48_3 := jF BK162.out 3; have hfz48_4 := jF BK162.out 4))
    go_ret
    exact ⟨by first | rfl | (simp [errW_none, errW_some] <;> rfl) | (simp [*, errW_none, errW_some] <;> rfl), by repeat (first | (with_reducible first | exact HB.out | apply jA | apply jN | apply jD | refine jS ?_ GE162.out | refine jS ?_ GE163.out) | exact HB.out)⟩
   ·rw [if_neg c44] at H
    have c44b0 : decide (a2 < 0) = false := decide_eq_false c44
    clear c44
    by_cases c49 : a2 ≥ (l1_1.length : Int)
    ·rw [if_pos c49] at H
     have c49b0 : decide ((l1_1.length : Int) ≤ a2) = true := decide_eq_true c49
     clear c49
     obtain rfl := Option.some.inj H
     go_enter Tryd.func25, Tryd.ntmps25
     go_wp2_with (first | ((with_reducible refine gate_dst (N := 4) rfl ?_); (try (refine gate_guard (by rfl) ?_; dsimp only)); refine box_event ?hg (N := 4) ?hd (cs := #[.slice A0_0 l0_0.length c0_0, .slice A0_1 l0_1.length c0_1, .slice A0_2 l0_2.length c0_2, .slice A0_3 l0_3.length c0_3, .int .i64 a0_4]) (t := 27) ?hr ?_; (case hd => rfl); (case hg => rfl); (case hr => first | (go_simp; done) | (go_simp; rfl)); intro gb162 hg w50 hbox hb; have n0_ := jM (jT (by repeat (first | (with_reducible first | exact HB.out | apply jA | apply jN | apply jD) | exact HB.out)) hb); have n1_ := jM (hbox); have n2_ := jM ((by rw [hg]; exact (below_size (by repeat (first | (with_reducible first | exact HB.out | apply jA | apply jN | apply jD) | exact HB.out))) : w.heap.size ≤ gb162)); have n3_ := jM ((by rw [hg]; exact (below_size (by repeat (first | (with_reducible first | exact HB.out | apply jA | apply jN | apply jD) | exact HB.out))) : w.heap.size ≤ gb162)); clear HB; have HB := n0_; have BK162 := n1_; have GW162 := n2_; have GE162 := n3_; clear n0_ n1_ n2_ n3_; clear hb hbox hg) | ((with_reducible refine gate_dst (N := 5) rfl ?_); (try (refine gate_guard (by rfl) ?_; dsimp only)); refine box_event ?hg (N := 5) ?hd (cs := #[.slice A1_0 l1_0.length c1_0, .slice A1_1 l1_1.length c1_1]) (t := 49) ?hr ?_; (case hd => rfl); (case hg => rfl); (case hr => first | (go_simp; done) | (go_simp; rfl)); intro gb163 hg w51 hbox hb; have n0_ := jM (jW (g := gb162) (o := .cells #[.slice A0_0 l0_0.length c0_0, .slice A0_1 l0_1.length c0_1, .slice A0_2 l0_2.length c0_2, .slice A0_3 l0_3.length c0_3, .int .i64 a0_4] 27 (0, 0)) (by (with_reducible repeat (first | refine jY ?_ _ | refine jZ ?_ | refine jX ?_ _)); exact BK162.out) hb); have n1_ := jM (jT (by repeat (first | (with_reducible first | exact HB.out | apply jA | apply jN | apply jD | refine jS ?_ GE162.out) | exact HB.out)) hb); have n2_ := jM (hbox); have n3_ := jM ((by rw [hg]; exact (below_size (by repeat (first | (with_reducible first | exact HB.out | apply jA | apply jN | apply jD | refine jS ?_ GE162.out) | exact HB.out))) : w.heap.size ≤ gb163)); have n4_ := jM ((by rw [hg]; exact (below_size (by repeat (first | (with_reducible first | exact HB.out | apply jA | apply jN | apply jD | refine jS ?_ GE162.out) | exact HB.out))) : w.heap.size ≤ gb163)); have n5_ := jM ((by rw [hg]; exact Nat.ne_of_lt (blk_lt (g := gb162) (o := .cells #[.slice A0_0 l0_0.length c0_0, .slice A0_1 l0_1.length c0_1, .slice A0_2 l0_2.length c0_2, .slice A0_3 l0_3.length c0_3, .int .i64 a0_4] 27 (0, 0)) (by (with_reducible repeat (first | refine jY ?_ _ | refine jZ ?_ | refine jX ?_ _)); exact BK162.out)) : gb162 ≠ gb163)); have n6_ := jM ((by rw [hg]; exact Nat.ne_of_gt (blk_lt (g := gb162) (o := .cells #[.slice A0_0 l0_0.length c0_0, .slice A0_1 l0_1.length c0_1, .slice A0_2 l0_2.length c0_2, .slice A0_3 l0_3.length c0_3, .int .i64 a0_4] 27 (0, 0)) (by (with_reducible repeat (first | refine jY ?_ _ | refine jZ ?_ | refine jX ?_ _)); exact BK162.out)) : gb163 ≠ gb162)); clear BK162; clear HB; have BK162 := n0_; have HB := n1_; have BK163 := n2_; have GW163 := n3_; have GE163 := n4_; have NB162_163 := n5_; have NB163_162 := n6_; clear n0_ n1_ n2_ n3_ n4_ n5_ n6_; clear hb hbox hg; have hnb52 := NB162_163.out; have hnc52 := NB163_162.out; have hcz53_0 : w51.cell? ⟨gb162, 0, none⟩ = some (.slice A0_0 l0_0.length c0_0) := (jC BK162.out 0).trans rfl; have hcz53_1 : w51.cell? ⟨gb162, 1, none⟩ = some (.slice A0_1 l0_1.length c0_1) := (jC BK162.out 1).trans rfl; have hcz53_2 : w51.cell? ⟨gb162, 2, none⟩ = some (.slice A0_2 l0_2.length c0_2) := (jC BK162.out 2).trans rfl; have hcz53_3 : w51.cell? ⟨gb162, 3, none⟩ = some (.slice A0_3 l0_3.length c0_3) := (jC BK162.out 3).trans rfl; have hcz53_4 : w51.cell? ⟨gb162, 4, none⟩ = some (.int .i64 a0_4) := (jC BK162.out 4).trans rfl; have hfz53_0 := jF BK162.out 0; have hfz53_1 := jF BK162.out 1; have hfz53_2 := jF BK162.out 2; have hfz53_3 := jF BK162.out 3; have hfz53_4 := jF BK162.out 4; have hcz54_0 : w51.cell? ⟨gb163, 0, none⟩ = some (.slice A1_0 l1_0.length c1_0) := (jC BK163.out 0).trans rfl; have hcz54_1 : w51.cell? ⟨gb163, 1, none⟩ = some (.slice A1_1 l1_1.length c1_1) := (jC BK163.out 1).trans rfl; have hfz54_0 := jF BK163.out 0; have hfz54_1 := jF BK163.out 1))
     go_ret
     exact ⟨by first | rfl | (simp [errW_none, errW_some] <;> rfl) | (simp [*, errW_none, errW_some] <;> rfl), by repeat (first | (with_reducible first | exact HB.out | apply jA | apply jN | apply jD | refine jS ?_ GE162.out | refine jS ?_ GE163.out) | exact HB.out)⟩
    ·rw [if_neg c49] at H
     have c49b0 : decide ((l1_1.length : Int) ≤ a2) = false := decide_eq_false c49
     clear c49
     by_cases c55 : 0 ≤ a2
     ·rw [if_pos c55] at H
      have c55b0 : decide (0 ≤ a2) = true := decide_eq_true c55
      clear c55
      by_cases c56 : a2 < (l1_1.length : Int)
      ·rw [if_pos c56] at H
       have c56b0 : decide (a2 < (l1_1.length : Int)) = true := decide_eq_true c56
       clear c56
       by_cases c57 : a3 ≥ ((rd_L17 l1_1 a2).length : Int)
       ·rw [if_pos c57] at H
        have c57b0 : decide (((rd_L17 l1_1 a2).length : Int) ≤ a3) = true := decide_eq_true c57
        clear c57
        obtain rfl := Option.some.inj H
        go_enter Tryd.func25, Tryd.ntmps25
        go_wp2_with (first | ((with_reducible refine gate_dst (N := 4) rfl ?_); (try (refine gate_guard (by rfl) ?_; dsimp only)); refine box_event ?hg (N := 4) ?hd (cs := #[.slice A0_0 l0_0.length c0_0, .slice A0_1 l0_1.length c0_1, .slice A0_2 l0_2.length c0_2, .slice A0_3 l0_3.length c0_3, .int .i64 a0_4]) (t := 27) ?hr ?_; (case hd => rfl); (case hg => rfl); (case hr => first | (go_simp; done) | (go_simp; rfl)); intro gb162 hg w58 hbox hb; have n0_ := jM (jT (by repeat (first | (with_reducible first | exact HB.out | apply jA | apply jN | apply jD) | exact HB.out)) hb); have n1_ := jM (hbox); have n2_ := jM ((by rw [hg]; exact (below_size (by repeat (first | (with_reducible first | exact HB.out | apply jA | apply jN | apply jD) | exact HB.out))) : w.heap.size ≤ gb162)); have n3_ := jM ((by rw [hg]; exact (below_size (by repeat (first | (with_reducible first | exact HB.out | apply jA | apply jN | apply jD) | exact HB.out))) : w.heap.size ≤ gb162)); clear HB; have HB := n0_; have BK162 := n1_; have GW162 := n2_; have GE162 := n3_; clear n0_ n1_ n2_ n3_; clear hb hbox hg) | ((with_reducible refine gate_dst (N := 5) rfl ?_); (try (refine gate_guard (by rfl) ?_; dsimp only)); refine box_event ?hg (N := 5) ?hd (cs := #[.slice A1_0 l1_0.length c1_0, .slice A1_1 l1_1.length c1_1]) (t := 49) ?hr ?_; (case hd => rfl); (case hg => rfl); (case hr => first | (go_simp; done) | (go_simp; rfl)); intro gb163 hg w59 hbox hb; have n0_ := jM (jW (g := gb162) (o := .cells #[.slice A0_0 l0_0.length c0_0, .slice A0_1 l0_1.length c0_1, .slice A0_2 l0_2.length c0_2, .slice A0_3 l0_3.length c0_3, .int .i64 a0_4] 27 (0, 0)) (by (with_reducible repeat (first | refine jY ?_ _ | refine jZ ?_ | refine jX ?_ _)); exact BK162.out) hb); have n1_ := jM (jT (by repeat (first | (with_reducible first | exact HB.out | apply jA | apply jN | apply jD | refine jS ?_ GE162.out) | exact HB.out)) hb); have n2_ := jM (hbox); have n3_ := jM ((by rw [hg]; exact (below_size (by repeat (first | (with_reducible first | exact HB.out | apply jA | apply jN | apply jD | refine jS ?_ GE162.out) | exact HB.out))) : w.heap.size ≤ gb163)); have n4_ := jM ((by rw [hg]; exact (below_size (by repeat (first | (with_reducible first | exact HB.out | apply jA | apply jN | apply jD | refine jS ?_ GE162.out) | exact HB.out))) : w.heap.size ≤ gb163)); have n5_ := jM ((by rw [hg]; exact Nat.ne_of_lt (blk_lt (g := gb162) (o := .cells #[.slice A0_0 l0_0.length c0_0, .slice A0_1 l0_1.length c0_1, .slice A0_2 l0_2.length c0_2, .slice A0_3 l0_3.length c0_3, .int .i64 a0_4] 27 (0, 0)) (by (with_reducible repeat (first | refine jY ?_ _ | refine jZ ?_ | refine jX ?_ _)); exact BK162.out)) : gb162 ≠ gb163)); have n6_ := jM ((by rw [hg]; exact Nat.ne_of_gt (blk_lt (g := gb162) (o := .cells #[.slice A0_0 l0_0.length c0_0, .slice A0_1 l0_1.length c0_1, .slice A0_2 l0_2.length c0_2, .slice A0_3 l0_3.length c0_3, .int .i64 a0_4] 27 (0, 0)) (by (with_reducible repeat (first | refine jY ?_ _ | refine jZ ?_ | refine jX ?_ _)); exact BK162.out)) : gb163 ≠ gb162)); clear BK162; clear HB; have BK162 := n0_; have HB := n1_; have BK163 := n2_; have GW163 := n3_; have GE163 := n4_; have NB162_163 := n5_; have NB163_162 := n6_; clear n0_ n1_ n2_ n3_ n4_ n5_ n6_; clear hb hbox hg; have hnb60 := NB162_163.out; have hnc60 := NB163_162.out; have hcz61_0 : w59.cell? ⟨gb162, 0, none⟩ = some (.slice A0_0 l0_0.length c0_0) := (jC BK162.out 0).trans rfl; have hcz61_1 : w59.cell? ⟨gb162, 1, none⟩ = some (.slice A0_1 l0_1.length c0_1) := (jC BK162.out 1).trans rfl; have hcz61_2 : w59.cell? ⟨gb162, 2, none⟩ = some (.slice A0_2 l0_2.length c0_2) := (jC BK162.out 2).trans rfl; have hcz61_3 : w59.cell? ⟨gb162, 3, none⟩ = some (.slice A0_3 l0_3.length c0_3) := (jC BK162.out 3).trans rfl; have hcz61_4 : w59.cell? ⟨gb162, 4, none⟩ = some (.int .i64 a0_4) := (jC BK162.out 4).trans rfl; have hfz61_0 := jF BK162.out 0; have hfz61_1 := jF BK162.out 1; have hfz61_2 := jF BK162.out 2; have hfz61_3 := jF BK162.out 3; have hfz61_4 := jF BK162.out 4; have hcz62_0 : w59.cell? ⟨gb163, 0, none⟩ = some (.slice A1_0 l1_0.length c1_0) := (jC BK163.out 0).trans rfl; have hcz62_1 : w59.cell? ⟨gb163, 1, none⟩ = some (.slice A1_1 l1_1.length c1_1) := (jC BK163.out 1).trans rfl; have hfz62_0 := jF BK163.out 0; have hfz62_1 := jF BK163.out 1; have p167 : 0 ≤ (a2 : Int) := of_decide_eq_true (by first | (with_reducible assumption) | assumption); have q167 : a2 < (l1_1.length : Int) := of_decide_eq_true (by first | (with_reducible assumption) | assumption); obtain ⟨ad167, A167_0, c167_0, e167, hx167_0, hl167_0, hi167_0⟩ := at_L17 HR1_1.out a2 p167 q167; cases e167; replace hx167_0 := (HB.out.cell (jL w _ hx167_0)).trans hx167_0; have HR167_0 := jM hi167_0; have HC167_0 := jM hl167_0; clear hi167_0 hl167_0; replace p167 := eq_true p167; replace q167 := eq_true q167))
        go_ret
        exact ⟨by first | rfl | (simp [errW_none, errW_some] <;> rfl) | (simp [*, errW_none, errW_some] <;> rfl), by repeat (first | (with_reducible first | exact HB.out | apply jA | apply jN | apply jD | refine jS ?_ GE162.out | refine jS ?_ GE163.out) | exact HB.out)⟩
       ·rw [if_neg c57] at H
        have c57b0 : decide (((rd_L17 l1_1 a2).length : Int) ≤ a3) = false := decide_eq_false c57
        clear c57
        by_cases c63 : 0 ≤ a3
        ·rw [if_pos c63] at H
         have c63b0 : decide (0 ≤ a3) = true := decide_eq_true c63
         clear c63
         by_cases c64 : a3 < ((rd_L17 l1_1 a2).length : Int)
         ·rw [if_pos c64] at H
          have c64b0 : decide (a3 < ((rd_L17 l1_1 a2).length : Int)) = true := decide_eq_true c64
          clear c64
          obtain rfl := Option.some.inj H
          go_enter Tryd.func25, Tryd.ntmps25
          go_wp2_with (first | ((with_reducible refine gate_dst (N := 4) rfl ?_); (try (refine gate_guard (by rfl) ?_; dsimp only)); refine box_event ?hg (N := 4) ?hd (cs := #[.slice A0_0 l0_0.length c0_0, .slice A0_1 l0_1.length c0_1, .slice A0_2 l0_2.length c0_2, .slice A0_3 l0_3.length c0_3, .int .i64 a0_4]) (t := 27) ?hr ?_; (case hd => rfl); (case hg => rfl); (case hr => first | (go_simp; done) | (go_simp; rfl)); intro gb162 hg w65 hbox hb; have n0_ := jM (jT (by repeat (first | (with_reducible first | exact HB.out | apply jA | apply jN | apply jD) | exact HB.out)) hb); have n1_ := jM (hbox); have n2_ := jM ((by rw [hg]; exact (below_size (by repeat (first | (with_reducible first | exact HB.out | apply jA | apply jN | apply jD) | exact HB.out))) : w.heap.size ≤ gb162)); have n3_ := jM ((by rw [hg]; exact (below_size (by repeat (first | (with_reducible first | exact HB.out | apply jA | apply jN | apply jD) | exact HB.out))) : w.heap.size ≤ gb162)); clear HB; have HB := n0_; have BK162 := n1_; have GW162 := n2_; have GE162 := n3_; clear n0_ n1_ n2_ n3_; clear hb hbox hg) | ((with_reducible refine gate_dst (N := 5) rfl ?_); (try (refine gate_guard (by rfl) ?_; dsimp only)); refine box_event ?hg (N := 5) ?hd (cs := #[.slice A1_0 l1_0.length c1_0, .slice A1_1 l1_1.length c1_1]) (t := 49) ?hr ?_; (case hd => rfl); (case hg => rfl); (case hr => first | (go_simp; done) | (go_simp; rfl)); intro gb163 hg w66 hbox hb; have n0_ := jM (jW (g := gb162) (o := .cells #[.slice A0_0 l0_0.length c0_0, .slice A0_1 l0_1.length c0_1, .slice A0_2 l0_2.length c0_2, .slice A0_3 l0_3.length c0_3, .int .i64 a0_4] 27 (0, 0)) (by (with_reducible repeat (first | refine jY ?_ _ | refine jZ ?_ | refine jX ?_ _)); exact BK162.out) hb); have n1_ := jM (jT (by repeat (first | (with_reducible first | exact HB.out | apply jA | apply jN | apply jD | refine jS ?_ GE162.out) | exact HB.out)) hb); have n2_ := jM (hbox); have n3_ := jM ((by rw [hg]; exact (below_size (by repeat (first | (with_reducible first | exact HB.out | apply jA | apply jN | apply jD | refine jS ?_ GE162.out) | exact HB.out))) : w.heap.size ≤ gb163)); have n4_ := jM ((by rw [hg]; exact (below_size (by repeat (first | (with_reducible first | exact HB.out | apply jA | apply jN | apply jD | refine jS ?_ GE162.out) | exact HB.out))) : w.heap.size ≤ gb163)); have n5_ := jM ((by rw [hg]; exact Nat.ne_of_lt (blk_lt (g := gb162) (o := .cells #[.slice A0_0 l0_0.length c0_0, .slice A0_1 l0_1.length c0_1, .slice A0_2 l0_2.length c0_2, .slice A0_3 l0_3.length c0_3, .int .i64 a0_4] 27 (0, 0)) (by (with_reducible repeat (first | refine jY ?_ _ | refine jZ ?_ | refine jX ?_ _)); exact BK162.out)) : gb162 ≠ gb163)); have n6_ := jM ((by rw [hg]; exact Nat.ne_of_gt (blk_lt (g := gb162) (o := .cells #[.slice A0_0 l0_0.length c0_0, .slice A0_1 l0_1.length c0_1, .slice A0_2 l0_2.length c0_2, .slice A0_3 l0_3.length c0_3, .int .i64 a0_4] 27 (0, 0)) (by (with_reducible repeat (first | refine jY ?_ _ | refine jZ ?_ | refine jX ?_ _)); exact BK162.out)) : gb163 ≠ gb162)); clear BK162; clear HB; have BK162 := n0_; have HB := n1_; have BK163 := n2_; have GW163 := n3_; have GE163 := n4_; have NB162_163 := n5_; have NB163_162 := n6_; clear n0_ n1_ n2_ n3_ n4_ n5_ n6_; clear hb hbox hg; have hnb67 := NB162_163.out; have hnc67 := NB163_162.out; have hcz68_0 : w66.cell? ⟨gb162, 0, none⟩ = some (.slice A0_0 l0_0.length c0_0) := (jC BK162.out 0).trans rfl; have hcz68_1 : w66.cell? ⟨gb162, 1, none⟩ = some (.slice A0_1 l0_1.length c0_1) := (jC BK162.out 1).trans rfl; have hcz68_2 : w66.cell? ⟨gb162, 2, none⟩ = some (.slice A0_2 l0_2.length c0_2) := (jC BK162.out 2).trans rfl; have hcz68_3 : w66.cell? ⟨gb162, 3, none⟩ = some (.slice A0_3 l0_3.length c0_3) := (jC BK162.out 3).trans rfl; have hcz68_4 : w66.cell? ⟨gb162, 4, none⟩ = some (.int .i64 a0_4) := (jC BK162.out 4).trans rfl; have hfz68_0 := jF BK162.out 0; have hfz68_1 := jF BK162.out 1; have hfz68_2 := jF BK162.out 2; have hfz68_3 := jF BK162.out 3; have hfz68_4 := jF BK162.out 4; have hcz69_0 : w66.cell? ⟨gb163, 0, none⟩ = some (.slice A1_0 l1_0.length c1_0) := (jC BK163.out 0).trans rfl; have hcz69_1 : w66.cell? ⟨gb163, 1, none⟩ = some (.slice A1_1 l1_1.length c1_1) := (jC BK163.out 1).trans rfl; have hfz69_0 := jF BK163.out 0; have hfz69_1 := jF BK163.out 1; have p167 : 0 ≤ (a2 : Int) := of_decide_eq_true (by first | (with_reducible assumption) | assumption); have q167 : a2 < (l1_1.length : Int) := of_decide_eq_true (by first | (with_reducible assumption) | assumption); obtain ⟨ad167, A167_0, c167_0, e167, hx167_0, hl167_0, hi167_0⟩ := at_L17 HR1_1.out a2 p167 q167; cases e167; replace hx167_0 := (HB.out.cell (jL w _ hx167_0)).trans hx167_0; have HR167_0 := jM hi167_0; have HC167_0 := jM hl167_0; clear hi167_0 hl167_0; replace p167 := eq_true p167; replace q167 := eq_true q167; have p168 : 0 ≤ (a2 : Int) := of_decide_eq_true (by first | (with_reducible assumption) | assumption); have q168 : a2 < (l1_1.length : Int) := of_decide_eq_true (by first | (with_reducible assumption) | assumption); obtain ⟨ad168, A168_0, c168_0, e168, hx168_0, hl168_0, hi168_0⟩ := at_L17 HR1_1.out a2 p168 q168; obtain rfl : ad167 = ad168 := (by injection e168); replace hx168_0 := (HB.out.cell (jL w _ hx168_0)).trans hx168_0; have HR168_0 := jM hi168_0; have HC168_0 := jM hl168_0; clear hi168_0 hl168_0; replace p168 := eq_true p168; replace q168 := eq_true q168; have ea_ := Option.some.inj (hx167_0.symm.trans hx168_0); injection ea_ with ea_ en_ ec_; subst ea_; subst ec_; clear en_; have p169 : 0 ≤ (a3 : Int) := of_decide_eq_true (by first | (with_reducible assumption) | assumption); have q169 : a3 < ((rd_L17 l1_1 a2).length : Int) := of_decide_eq_true (by first | (with_reducible assumption) | assumption); obtain ⟨ad169, e169, hx169_0⟩ := Kd.at_int HR168_0.out a3 p169 q169; cases e169; replace hx169_0 := (HB.out.cell (jL w _ hx169_0)).trans hx169_0; replace p169 := eq_true p169; replace q169 := eq_true q169))
          go_ret
          exact ⟨by first | rfl | (simp [errW_none, errW_some] <;> rfl) | (simp [*, errW_none, errW_some] <;> rfl), by repeat (first | (with_reducible first | exact HB.out | apply jA | apply jN | apply jD | refine jS ?_ GE162.out | refine jS ?_ GE163.out) | exact HB.out)⟩
         ·rw [if_neg c64] at H
          exact absurd H (by simp)
        ·rw [if_neg c63] at H
         exact absurd H (by simp)
      ·rw [if_neg c56] at H
       exact absurd H (by simp)
     ·rw [if_neg c55] at H
      exact absurd H (by simp)

/-! ### sl14_works: function 12 -/
def sl14_works.f  : Option (Bool) := (some (([(⟨(⟨#[97]⟩ : ByteArray), (⟨#[]⟩ : ByteArray), false, 0⟩ : S82)] : List (S82)) : List (S82))).bind fun y170 => ((some (([(⟨#[83]⟩ : ByteArray)] : List ByteArray) : List ByteArray)).bind fun y173 => ((some (([(⟨(⟨#[112]⟩ : ByteArray), 0, (([0] : List Int)), 0⟩ : S64)] : List (S64)) : List (S64))).bind fun y179 => ((states_Build.f y170 ([] : List (S101)) y173 y179 0).bind fun bt183 => ((states_Close.f y170 ([] : List (S101)) y173 y179 0 (([(⟨(-1), 0⟩ : S37)] : List (S37)))).bind fun t194 => ((states_Step.f y170 ([] : List (S101)) y173 y179 0 t194 0).bind fun t197 => ((states_Behind.f y170 ([] : List (S101)) y173 y179 0 0 0).bind fun bt200 => (if bt183.2.2 = 0 then (if (bt183.1.length : Int) = 3 then (if (t194.length : Int) = 2 then (if (t197.length : Int) = 1 then (if 0 < (t197.length : Int) then (if (((rd_T37 t197 0).f0) == 0 && (((rd_T37 t197 0).f1) == 1)) = true then (if bt200.2 = true then (if bt200.1 = 0 then ((states_Go.f y170 ([] : List (S101)) y173 y179 0 bt183.1 bt183.2.1 0 0).bind fun t203 => (if t203 = 1 then ((states_Go.f y170 ([] : List (S101)) y173 y179 0 bt183.1 bt183.2.1 0 (-1)).bind fun t204 => (if t204 = 2 then ((states_Go.f y170 ([] : List (S101)) y173 y179 0 bt183.1 bt183.2.1 1 0).bind fun t205 => (some (t205 == (-1)))) else (some false))) else (some false))) else (some false)) else (some false)) else (some false)) else (none)) else (some false)) else (some false)) else (some false)) else (some false))))))))
section
open St
/-! ### told by what can be reckoned -/
def risenC (l : List Itm) : List Itm := riseR l l.length []
theorem risen_c (l : List Itm) : risen l = risenC l := (risen_one (riseR_all l)).symm
def SgC (g : Gr) (c : List Itm) (s : Int) : List Itm := risenC (stepL g (risenC (closedL g c)) s)
theorem Sg_c (g : Gr) : Sg g = SgC g := by
 funext c s
 unfold Sg SgC
 rw [risen_c, risen_c]
theorem built_c (T S : Nat) (g : Gr) : builtL T S g = buildL (SgC g) (symsL T S) 2000 2003 0 [[(-1, 0)]] [] := by
 unfold builtL
 rw [Sg_c]

def e0 : List S82 := [(⟨(⟨#[97]⟩ : ByteArray), (⟨#[]⟩ : ByteArray), false, 0⟩ : S82)]
def e2 : List ByteArray := [(⟨#[83]⟩ : ByteArray)]
def e3 : List S64 := [(⟨(⟨#[112]⟩ : ByteArray), 0, (([0] : List Int)), 0⟩ : S64)]
theorem e_valid : validB e0 [] e2 e3 0 = true := by kernel_rfl
theorem e_okP : e3.all okP = true := by kernel_rfl
theorem e_build : states_Build.f e0 [] e2 e3 0 = some ([[⟨-1, 0⟩], [⟨0, 1⟩], [⟨-1, 1⟩]], [[1, 2], [-1, -1], [-1, -1]], 0) := by
 unfold states_Build.f
 rw [if_pos e_valid, if_pos e_okP, built_c]
 kernel_rfl
theorem e_close : states_Close.f e0 [] e2 e3 0 [⟨-1, 0⟩] = some [⟨-1, 0⟩, ⟨0, 0⟩] := by
 unfold states_Close.f inst_Valid.f states_closed.f
 rw [e_valid, Option.bind_some, if_pos rfl, if_pos ⟨rfl, e_okP, Nat.le_of_ble_eq_true rfl, rfl⟩, risen_c]
 kernel_rfl
theorem e_step : states_Step.f e0 [] e2 e3 0 [⟨-1, 0⟩, ⟨0, 0⟩] 0 = some [⟨0, 1⟩] := by
 unfold states_Step.f inst_Valid.f states_closed.f
 rw [e_valid, Option.bind_some, if_pos rfl, if_pos ⟨rfl, e_okP, Nat.le_of_ble_eq_true rfl, rfl⟩, risen_c, Option.bind_some]
 unfold states_step.f
 rw [e_valid, if_pos ⟨rfl, Nat.le_of_ble_eq_true rfl⟩, risen_c]
 kernel_rfl
theorem C_one {α : Type} {d : Kd α} {W : World} {g t : Nat} {x : α} {c : List Value} (hb : W.heap[g]? = some (.cells c.toArray t (0, 0))) (hK : d.K W x c) : d.C W (some ⟨g, 0, none⟩) 1 [x] := by
 refine ⟨rfl, by decide, fun _ => ⟨⟨g, 0, none⟩, rfl, fun i p hi => ?_⟩⟩
 have h0 : i = 0 := by
  cases i with
  | zero => rfl
  | succ i => simp at hi
 subst h0
 have hp : x = p := by simpa using hi
 subst hp
 refine ⟨c, d.K_len hK, hK, fun j u hu => ?_⟩
 have e : (⟨g, 0, none⟩ : Addr).add (0 * d.sz + j) = ⟨g, j, none⟩ := by
  rw [Nat.zero_mul, Nat.zero_add]
  unfold Addr.add
  simp
  exact fun h => h.symm
 rw [e, jC hb j]
 simpa using hu
/-- The example's grammar in memory. -/
structure Ge (n : Nat) (W : World) : Prop where
 c0 : W.heap[n]? = some (.cells #[.string ⟨#[97]⟩, .string ⟨#[]⟩, .bool false, .int .i64 0] 82 (0, 0))
 c1 : W.heap[n + 1]? = some (.cells #[.string ⟨#[83]⟩] 9 (0, 0))
 c2 : W.heap[n + 1 + 1]? = some (.cells #[.int .i64 0] 29 (0, 0))
 c3 : W.heap[n + 1 + 1 + 1]? = some (.cells #[.string ⟨#[112]⟩, .int .i64 0, .slice (some ⟨n + 1 + 1, 0, none⟩) 1 1, .int .i64 0] 64 (0, 0))
 c4 : W.heap[n + 1 + 1 + 1 + 1]? = some (.cells #[.slice (some ⟨n, 0, none⟩) 1 1, .slice none 0 0, .slice (some ⟨n + 1, 0, none⟩) 1 1, .slice (some ⟨n + 1 + 1 + 1, 0, none⟩) 1 1, .int .i64 0] 27 (0, 0))
abbrev aE (n : Nat) : Value := .agg #[.slice (some ⟨n, 0, none⟩) 1 1, .slice none 0 0, .slice (some ⟨n + 1, 0, none⟩) 1 1, .slice (some ⟨n + 1 + 1 + 1, 0, none⟩) 1 1, .int .i64 0]
theorem Ge.below {n : Nat} {W W1 : World} (h : Ge n W) (hb : Below W.heap.size W W1) : Ge n W1 :=
 ⟨jW h.c0 hb, jW h.c1 hb, jW h.c2 hb, jW h.c3 hb, jW h.c4 hb⟩
theorem Ge.r0 {n : Nat} {W : World} (h : Ge n W) : Kd.C k82 W (some ⟨n, 0, none⟩) e0.length e0 := C_one (c := [.string ⟨#[97]⟩, .string ⟨#[]⟩, .bool false, .int .i64 0]) h.c0 (k82_mk W _)
theorem Ge.r1 {n : Nat} {W : World} (h : Ge n W) : Kd.C Kd.string W (some ⟨n + 1, 0, none⟩) e2.length e2 := C_one (c := [.string ⟨#[83]⟩]) h.c1 rfl
theorem Ge.r3 {n : Nat} {W : World} (h : Ge n W) : Kd.C k64 W (some ⟨n + 1 + 1 + 1, 0, none⟩) e3.length e3 :=
 C_one (c := [.string ⟨#[112]⟩, .int .i64 0, .slice (some ⟨n + 1 + 1, 0, none⟩) 1 1, .int .i64 0]) h.c3 (k64_mk W (⟨⟨#[112]⟩, 0, [0], 0⟩ : S64) (by decide) (C_one (c := [.int .i64 0]) h.c2 rfl))
theorem Ge.start (w : World) : Ge w.heap.size (((((w.alloc (Obj.cells #[.string ⟨#[97]⟩, .string ⟨#[]⟩, .bool false, .int .i64 0] 82)).alloc (Obj.cells #[.string ⟨#[83]⟩] 9)).alloc (Obj.cells #[.int .i64 0] 29)).alloc (Obj.cells #[.string ⟨#[112]⟩, .int .i64 0, .slice (some ⟨w.heap.size + 1 + 1, 0, none⟩) 1 1, .int .i64 0] 64)).alloc (Obj.cells #[.slice (some ⟨w.heap.size, 0, none⟩) 1 1, .slice none 0 0, .slice (some ⟨w.heap.size + 1, 0, none⟩) 1 1, .slice (some ⟨w.heap.size + 1 + 1 + 1, 0, none⟩) 1 1, .int .i64 0] 27)) := by
 have new : ∀ (W : World) (o : Obj) (n : Nat) (r : Option Obj), W.heap.size = n → (W.alloc o).heap[W.heap.size]? = r → (W.alloc o).heap[n]? = r := fun W o n r e h => e ▸ h
 refine ⟨?_, ?_, ?_, ?_, ?_⟩
 ·exact jX (jX (jX (jX (blk_new w _) _) _) _) _
 ·exact jX (jX (jX (new _ _ _ _ (by simp) (blk_new _ _)) _) _) _
 ·exact jX (jX (new _ _ _ _ (by simp) (blk_new _ _)) _) _
 ·exact jX (new _ _ _ _ (by simp) (blk_new _ _)) _
 ·exact new _ _ _ _ (by simp) (blk_new _ _)
def kE : List (List S37) := [[⟨-1, 0⟩], [⟨0, 1⟩], [⟨-1, 1⟩]]
def nE : List (List Int) := [[1, 2], [-1, -1], [-1, -1]]
theorem build_e {n : Nat} {W : World} (h : Ge n W) (hG : GTab W) : Calls Tryd.prog 23 #[aE n] W fun e w' => ∃ A c A' c', e = .returned (.tuple #[.agg #[.slice A 3 c, .slice A' 3 c'], .int .i64 0]) ∧ (3 ≤ c ∧ Kd.C (Kd.slice 37 k37) w' A 3 kE) ∧ (3 ≤ c' ∧ Kd.C (Kd.slice 3 (Kd.int .i64)) w' A' 3 nE) ∧ Below W.heap.size W w' := by
 refine (states_Build.calls _ 1 e0 none 0 [] _ 1 e2 _ 1 e3 0 _ _ _ W hG h.r0 (Nat.le_refl _) (Kd.C_nil _ _) (Nat.le_refl _) h.r1 (Nat.le_refl _) h.r3 (Nat.le_refl _) e_build).mono ?_
 rintro e w' ⟨v0, v1, rfl, h0, h1, hb⟩
 obtain ⟨A, c, rfl, l0, r0⟩ := Kd.S_reads h0
 obtain ⟨A', c', rfl, l1, r1⟩ := Kd.S_reads h1
 exact ⟨A, c, A', c', rfl, ⟨l0, r0⟩, ⟨l1, r1⟩, hb⟩
theorem close_e {n : Nat} {W : World} (h : Ge n W) {A : Option Addr} {c : Nat} (hr : Kd.C k37 W A 1 [⟨-1, 0⟩]) (hc : 1 ≤ c) : Calls Tryd.prog 18 #[aE n, .slice A 1 c] W fun e w' => ∃ A' c', e = .returned (.slice A' 2 c') ∧ (2 ≤ c' ∧ Kd.C k37 w' A' 2 [⟨-1, 0⟩, ⟨0, 0⟩]) ∧ Below W.heap.size W w' := by
 refine (states_Close.calls _ 1 e0 none 0 [] _ 1 e2 _ 1 e3 0 A c [⟨-1, 0⟩] _ W h.r0 (Nat.le_refl _) (Kd.C_nil _ _) (Nat.le_refl _) h.r1 (Nat.le_refl _) h.r3 (Nat.le_refl _) hr hc e_close).mono ?_
 rintro e w' ⟨v0, rfl, h0, hb⟩
 obtain ⟨A', c', rfl, l0, r0⟩ := Kd.R_reads h0
 exact ⟨A', c', rfl, ⟨l0, r0⟩, hb⟩
theorem step_e {n : Nat} {W : World} (h : Ge n W) {A : Option Addr} {c : Nat} (hr : Kd.C k37 W A 2 [⟨-1, 0⟩, ⟨0, 0⟩]) (hc : 2 ≤ c) : Calls Tryd.prog 20 #[aE n, .slice A 2 c, .int .i64 0] W fun e w' => ∃ A' c', e = .returned (.slice A' 1 c') ∧ (1 ≤ c' ∧ Kd.C k37 w' A' 1 [⟨0, 1⟩]) ∧ Below W.heap.size W w' := by
 refine (states_Step.calls _ 1 e0 none 0 [] _ 1 e2 _ 1 e3 0 A c [⟨-1, 0⟩, ⟨0, 0⟩] 0 _ W h.r0 (Nat.le_refl _) (Kd.C_nil _ _) (Nat.le_refl _) h.r1 (Nat.le_refl _) h.r3 (Nat.le_refl _) hr hc e_step).mono ?_
 rintro e w' ⟨v0, rfl, h0, hb⟩
 obtain ⟨A', c', rfl, l0, r0⟩ := Kd.R_reads h0
 exact ⟨A', c', rfl, ⟨l0, r0⟩, hb⟩
theorem behind_e {n : Nat} {W : World} (h : Ge n W) : Calls Tryd.prog 15 #[aE n, .agg #[.int .i64 0, .int .i64 0]] W fun e w' => e = .returned (.tuple #[.int .i64 0, .bool true]) ∧ Below W.heap.size W w' :=
 states_Behind.calls _ 1 e0 none 0 [] _ 1 e2 _ 1 e3 0 0 0 0 true W h.r0 (Nat.le_refl _) (Kd.C_nil _ _) (Nat.le_refl _) h.r1 (Nat.le_refl _) h.r3 (Nat.le_refl _) (by kernel_rfl)
theorem go_e {n : Nat} {W : World} (h : Ge n W) {A A' : Option Addr} {c c' : Nat} (h0 : 3 ≤ c ∧ Kd.C (Kd.slice 37 k37) W A 3 kE) (h1 : 3 ≤ c' ∧ Kd.C (Kd.slice 3 (Kd.int .i64)) W A' 3 nE) (a s q : Int) (hq : states_Go.f e0 [] e2 e3 0 kE nE a s = some q) : Calls Tryd.prog 25 #[aE n, .agg #[.slice A 3 c, .slice A' 3 c'], .int .i64 a, .int .i64 s] W fun e w' => e = .returned (.int .i64 q) ∧ Below W.heap.size W w' :=
 states_Go.calls _ 1 e0 none 0 [] _ 1 e2 _ 1 e3 0 A c kE A' c' nE a s q W h.r0 (Nat.le_refl _) (Kd.C_nil _ _) (Nat.le_refl _) h.r1 (Nat.le_refl _) h.r3 (Nat.le_refl _) h0.2 h0.1 h1.2 h1.1 hq

set_option maxHeartbeats 8000000 in
set_option maxRecDepth 100000 in
theorem works_walk (w : World) (hG : GTab w) : Calls Tryd.prog 12 #[] w fun e w' => e = .returned (.bool true) ∧ Below w.heap.size w w' := by
 have hu82 := Tryd.underlying82
 have hu64 := Tryd.underlying64
 have hu27 := Tryd.underlying27
 have hu49 := Tryd.underlying49
 have hu37 := Tryd.underlying37
 have HG := jM hG
 clear hG
 go_enter Tryd.func12, Tryd.ntmps12
 go_upto_region 2 with fail
 have GE1 := jM (Ge.start w)
 have HB1 := jM (jA (jA (jA (jA (jA (Below.refl w.heap.size w) (Obj.cells #[.string ⟨#[97]⟩, .string ⟨#[]⟩, .bool false, .int .i64 0] 82)) (Obj.cells #[.string ⟨#[83]⟩] 9)) (Obj.cells #[.int .i64 0] 29)) (Obj.cells #[.string ⟨#[112]⟩, .int .i64 0, .slice (some ⟨w.heap.size + 1 + 1, 0, none⟩) 1 1, .int .i64 0] 64)) (Obj.cells #[.slice (some ⟨w.heap.size, 0, none⟩) 1 1, .slice none 0 0, .slice (some ⟨w.heap.size + 1, 0, none⟩) 1 1, .slice (some ⟨w.heap.size + 1 + 1 + 1, 0, none⟩) 1 1, .int .i64 0] 27))
 generalize ((((w.alloc (Obj.cells #[.string ⟨#[97]⟩, .string ⟨#[]⟩, .bool false, .int .i64 0] 82)).alloc (Obj.cells #[.string ⟨#[83]⟩] 9)).alloc (Obj.cells #[.int .i64 0] 29)).alloc (Obj.cells #[.string ⟨#[112]⟩, .int .i64 0, .slice (some ⟨w.heap.size + 1 + 1, 0, none⟩) 1 1, .int .i64 0] 64)).alloc (Obj.cells #[.slice (some ⟨w.heap.size, 0, none⟩) 1 1, .slice none 0 0, .slice (some ⟨w.heap.size + 1, 0, none⟩) 1 1, .slice (some ⟨w.heap.size + 1 + 1 + 1, 0, none⟩) 1 1, .int .i64 0] 27) = W1 at *
 obtain ⟨n, hn⟩ : ∃ n, n = w.heap.size := ⟨_, rfl⟩
 obtain ⟨y0, y1, y2, y3, y4⟩ := five5 GE1.out.c4
 go_upto_region 3 with (go_at_call 23; (with_reducible refine (build_e GE1.out (GTab.below HG.out HB1.out)).mono ?_); rintro e w2 ⟨A, c, A', c', rfl, hk, hn2, hb⟩; have HB2 := jM (jT HB1.out hb); have GE2 := jM (Ge.below GE1.out hb); have HK2 := jM hk; have HN2 := jM hn2; clear hk hn2 hb)
 clear y0 y1 y2 y3 y4
 obtain ⟨g2, hg2⟩ : ∃ g, g = w2.heap.size := ⟨_, rfl⟩
 have BA := jM (hg2 ▸ blk_new w2 (Obj.cells #[.slice A 3 c, .slice A' 3 c'] 49))
 have HA := jA (Below.refl w2.heap.size w2) (Obj.cells #[.slice A 3 c, .slice A' 3 c'] 49)
 have HB3 := jM (jT HB2.out HA)
 have GE3 := jM (Ge.below GE2.out HA)
 have HK3 := jM (And.intro HK2.out.1 (jB HK2.out.2 HA))
 have HN3 := jM (And.intro HN2.out.1 (jB HN2.out.2 HA))
 clear HA HB2 GE2 HK2 HN2 HB1 GE1
 rw [← hg2]
 clear hg2
 generalize w2.alloc (Obj.cells #[.slice A 3 c, .slice A' 3 c'] 49) = w3 at *
 obtain ⟨y0, y1, y2, y3, y4⟩ := five5 GE3.out.c4
 have HA := jA (Below.refl w3.heap.size w3) (Obj.cells #[.int .i64 (-1), .int .i64 0] 37)
 have HCL := jM (close_e (Ge.below GE3.out HA) (C_one (x := (⟨-1, 0⟩ : S37)) (c := [.int .i64 (-1), .int .i64 0]) (blk_new w3 (Obj.cells #[.int .i64 (-1), .int .i64 0] 37)) (k37_mk _ _)) (Nat.le_refl 1))
 have HA3 := jM HA
 clear HA
 go_upto_region 4 with (go_at_call 18; (with_reducible refine HCL.out.mono ?_); rintro e w4 ⟨A4, c4, rfl, h4, hb0⟩; have hb := jT HA3.out hb0; have HB4 := jM (jT HB3.out hb); have GE4 := jM (Ge.below GE3.out hb); have BA4 := jM (jW BA.out hb); have HK4 := jM (And.intro HK3.out.1 (jB HK3.out.2 hb)); have HN4 := jM (And.intro HN3.out.1 (jB HN3.out.2 hb)); have HC4 := jM h4; clear h4 hb hb0)
 clear y0 y1 y2 y3 y4 HCL HA3 HB3 GE3 BA HK3 HN3
 obtain ⟨y0, y1, y2, y3, y4⟩ := five5 GE4.out.c4
 go_upto_region 5 with (go_at_call 20; (with_reducible refine (step_e GE4.out HC4.out.2 HC4.out.1).mono ?_); rintro e w5 ⟨A5, c5, rfl, h5, hb⟩; have HB5 := jM (jT HB4.out hb); have GE5 := jM (Ge.below GE4.out hb); have BA5 := jM (jW BA4.out hb); have HK5 := jM (And.intro HK4.out.1 (jB HK4.out.2 hb)); have HN5 := jM (And.intro HN4.out.1 (jB HN4.out.2 hb)); have HC5 := jM h5; clear h5 hb)
 clear y0 y1 y2 y3 y4 HB4 GE4 BA4 HK4 HN4
 obtain ⟨y0, y1, y2, y3, y4⟩ := five5 GE5.out.c4
 go_upto_region 6 with (go_at_call 15; (with_reducible refine (behind_e GE5.out).mono ?_); rintro e w6 ⟨rfl, hb⟩; have HB6 := jM (jT HB5.out hb); have GE6 := jM (Ge.below GE5.out hb); have BA6 := jM (jW BA5.out hb); have HK6 := jM (And.intro HK5.out.1 (jB HK5.out.2 hb)); have HN6 := jM (And.intro HN5.out.1 (jB HN5.out.2 hb)); have HC6 := jM (jB HC5.out.2 hb); clear hb)
 clear y0 y1 y2 y3 y4 HB5 GE5 BA5 HK5 HN5
 obtain ⟨ad, rfl, x0, x1⟩ := at_T37 HC6.out 0 (by omega) (by omega)
 obtain ⟨y0, y1, y2, y3, y4⟩ := five5 GE6.out.c4
 have z0 := jC BA6.out 0
 have z1 := jC BA6.out 1
 simp only [List.getElem?_toArray, List.getElem?_cons_zero, List.getElem?_cons_succ] at z0 z1
 have x0' : w6.cell? ad = some (.int .i64 0) := by
  have e : ad.add ((0 : Int).toNat * 2) = ad := add_none ad
  rw [e] at x0; exact x0
 have x1' : w6.cell? ⟨ad.block, ad.off + 1, none⟩ = some (.int .i64 1) := by
  have e : ad.add ((0 : Int).toNat * 2) = ad := add_none ad
  rw [e] at x1; exact x1
 clear x0 x1
 go_wp2_with (first
  | (go_at_call 25; (with_reducible refine (go_e GE6.out HK6.out HN6.out 0 0 1 (by kernel_rfl)).mono ?_); rintro e w7 ⟨rfl, hb⟩; have HB7 := jM (jT HB6.out hb); have GE7 := jM (Ge.below GE6.out hb); have BA7 := jM (jW BA6.out hb); have HK7 := jM (And.intro HK6.out.1 (jB HK6.out.2 hb)); have HN7 := jM (And.intro HN6.out.1 (jB HN6.out.2 hb)); clear hb; obtain ⟨p0, p1, p2, p3, p4⟩ := five5 GE7.out.c4; have q0 := jC BA7.out 0; have q1 := jC BA7.out 1; simp only [List.getElem?_toArray, List.getElem?_cons_zero, List.getElem?_cons_succ] at q0 q1)
  | (go_at_call 25; (with_reducible refine (go_e GE7.out HK7.out HN7.out 0 (-1) 2 (by kernel_rfl)).mono ?_); rintro e w8 ⟨rfl, hb⟩; have HB8 := jM (jT HB7.out hb); have GE8 := jM (Ge.below GE7.out hb); have BA8 := jM (jW BA7.out hb); have HK8 := jM (And.intro HK7.out.1 (jB HK7.out.2 hb)); have HN8 := jM (And.intro HN7.out.1 (jB HN7.out.2 hb)); clear hb; obtain ⟨r0, r1, r2, r3, r4⟩ := five5 GE8.out.c4; have t0 := jC BA8.out 0; have t1 := jC BA8.out 1; simp only [List.getElem?_toArray, List.getElem?_cons_zero, List.getElem?_cons_succ] at t0 t1)
  | (go_at_call 25; (with_reducible refine (go_e GE8.out HK8.out HN8.out 1 0 (-1) (by kernel_rfl)).mono ?_); rintro e w9 ⟨rfl, hb⟩; have HB9 := jM (jT HB8.out hb); clear hb))
 go_ret
 exact ⟨rfl, HB9.out⟩
end
theorem sl14_works.calls (r : Bool) (w : World) (hG : GTab w) (hT : r = true) (h : sl14_works.f = some r) :
  Calls Tryd.prog 12 #[] w fun e w' => e = .returned (.bool r) ∧ Below w.heap.size w w' := by
 subst hT
 exact works_walk w hG
end Go.Proofs.YtclollnicbcooaaDoor.P
end

section
namespace Go.Proofs.YtclollnicbcooaaDoor.P
open Go.RowKit Go.Proofs.YtclollnicbcooaaDoorW.PrintWords Go.Proofs.YtclollnicbcooaaDoorW.PrintLast Go.Proofs.YtclollnicbcooaaDoorW.PrintMore
attribute [local go_sem] max2_int min2_int max_two min_two max_three min_three max_four min_four

/-! ### sl13_Few: function 13 -/
mutual
def sl13_Few.l0 : Nat → Int → List (S82) → List (S101) → List ByteArray → List (S64) → Int → Option (Bool)
 | 0, _, _, _, _, _, _ => none
 | k + 1, x3, xA, xB, xC, xD, xE => if x3 < (xD.length : Int) then (sl13_Few.j1 k x3 (decide (x3 < 15)) xA xB xC xD xE) else (sl13_Few.j1 k x3 false xA xB xC xD xE)
def sl13_Few.j1 : Nat → Int → Bool → List (S82) → List (S101) → List ByteArray → List (S64) → Int → Option (Bool)
 | 0, _, _, _, _, _, _, _ => none
 | k + 1, x3, x12, xA, xB, xC, xD, xE => if x12 = true then (if 0 ≤ x3 then (if x3 < (xD.length : Int) then (if (((rd_T64 xD x3).f2).length : Int) > 12 then (some false) else (sl13_Few.l0 k (wrap64 (x3 + 1)) xA xB xC xD xE)) else (none)) else (none)) else (if (xA.length : Int) ≤ 10 then (if (xC.length : Int) ≤ 8 then (if (xD.length : Int) ≤ 14 then (some (decide ((xB.length : Int) ≤ 30))) else (some false)) else (some false)) else (some false))
end
def sl13_Few.f (k : Nat) (l0_0 : List (S82)) (l0_1 : List (S101)) (l0_2 : List ByteArray) (l0_3 : List (S64)) (a0_4 : Int) : Option (Bool) := sl13_Few.l0 k 0 l0_0 l0_1 l0_2 l0_3 a0_4
theorem sl13_Few.mono_l : ∀ k, (∀ y0 y1 y2 y3 y4 y5, LeO (sl13_Few.l0 k y0 y1 y2 y3 y4 y5) (sl13_Few.l0 (k + 1) y0 y1 y2 y3 y4 y5)) ∧ (∀ y0 y1 y2 y3 y4 y5 y6, LeO (sl13_Few.j1 k y0 y1 y2 y3 y4 y5 y6) (sl13_Few.j1 (k + 1) y0 y1 y2 y3 y4 y5 y6))
 | 0 => ⟨fun _ _ _ _ _ _ r h => by simp [sl13_Few.l0] at h, fun _ _ _ _ _ _ _ r h => by simp [sl13_Few.j1] at h⟩
 | k + 1 => by
  obtain ⟨ih0, ih1⟩ := sl13_Few.mono_l k
  refine ⟨?_, ?_⟩
  ·intro y0 y1 y2 y3 y4 y5
   unfold sl13_Few.l0
   repeat' first
   | (with_reducible exact ih0 _ _ _ _ _ _)
   | (with_reducible exact ih1 _ _ _ _ _ _ _)
   | (with_reducible exact LeO.refl _)
   | (with_reducible exact LeO.none _)
   | (with_reducible refine LeO.ite ?_ ?_)
   | (with_reducible refine LeO.bind ?_ (fun _ => ?_))
   | exact ih0 _ _ _ _ _ _
   | exact ih1 _ _ _ _ _ _ _
   | exact LeO.none _
   | refine LeO.ite ?_ ?_
   | refine LeO.bind ?_ (fun _ => ?_)
  ·intro y0 y1 y2 y3 y4 y5 y6
   unfold sl13_Few.j1
   repeat' first
   | (with_reducible exact ih0 _ _ _ _ _ _)
   | (with_reducible exact ih1 _ _ _ _ _ _ _)
   | (with_reducible exact LeO.refl _)
   | (with_reducible exact LeO.none _)
   | (with_reducible refine LeO.ite ?_ ?_)
   | (with_reducible refine LeO.bind ?_ (fun _ => ?_))
   | exact ih0 _ _ _ _ _ _
   | exact ih1 _ _ _ _ _ _ _
   | exact LeO.none _
   | refine LeO.ite ?_ ?_
   | refine LeO.bind ?_ (fun _ => ?_)
theorem sl13_Few.mono : ∀ a0 a1 a2 a3 a4 k, LeO (sl13_Few.f k a0 a1 a2 a3 a4) (sl13_Few.f (k + 1) a0 a1 a2 a3 a4) := by
 intro a0 a1 a2 a3 a4 k
 obtain ⟨ih0, ih1⟩ := sl13_Few.mono_l k
 unfold sl13_Few.f
 repeat' first
   | (with_reducible exact ih0 _ _ _ _ _ _)
   | (with_reducible exact ih1 _ _ _ _ _ _ _)
   | (with_reducible exact LeO.refl _)
   | (with_reducible exact LeO.none _)
   | (with_reducible refine LeO.ite ?_ ?_)
   | (with_reducible refine LeO.bind ?_ (fun _ => ?_))
   | exact ih0 _ _ _ _ _ _
   | exact ih1 _ _ _ _ _ _ _
   | exact LeO.none _
   | refine LeO.ite ?_ ?_
   | refine LeO.bind ?_ (fun _ => ?_)
set_option maxHeartbeats 8000000 in
set_option maxRecDepth 100000 in
theorem sl13_Few.calls (k : Nat) (A0_0 : Option Addr) (c0_0 : Nat) (l0_0 : List (S82)) (A0_1 : Option Addr) (c0_1 : Nat) (l0_1 : List (S101)) (A0_2 : Option Addr) (c0_2 : Nat) (l0_2 : List ByteArray) (A0_3 : Option Addr) (c0_3 : Nat) (l0_3 : List (S64)) (a0_4 : Int) (r : Bool) (w : World) (hr0_0 : Kd.C k82 w A0_0 l0_0.length l0_0) (hc0_0 : l0_0.length ≤ c0_0) (hr0_1 : Kd.C k101 w A0_1 l0_1.length l0_1) (hc0_1 : l0_1.length ≤ c0_1) (hr0_2 : Kd.C Kd.string w A0_2 l0_2.length l0_2) (hc0_2 : l0_2.length ≤ c0_2) (hr0_3 : Kd.C k64 w A0_3 l0_3.length l0_3) (hc0_3 : l0_3.length ≤ c0_3) (h : sl13_Few.f k l0_0 l0_1 l0_2 l0_3 a0_4 = some r) :
  Calls Tryd.prog 13 #[.agg #[.slice A0_0 l0_0.length c0_0, .slice A0_1 l0_1.length c0_1, .slice A0_2 l0_2.length c0_2, .slice A0_3 l0_3.length c0_3, .int .i64 a0_4]] w fun e w' => e = .returned (.bool r) ∧ Below w.heap.size w w' := by
 have hu27 := Tryd.underlying27
 have HR0_0 := jM hr0_0
 have HC0_0 := jM hc0_0
 clear hr0_0 hc0_0
 have HR0_1 := jM hr0_1
 have HC0_1 := jM hc0_1
 clear hr0_1 hc0_1
 have HR0_2 := jM hr0_2
 have HC0_2 := jM hc0_2
 clear hr0_2 hc0_2
 have HR0_3 := jM hr0_3
 have HC0_3 := jM hc0_3
 clear hr0_3 hc0_3
 have HB := jM (Below.refl w.heap.size w)
 have H : (sl13_Few.l0 k 0 l0_0 l0_1 l0_2 l0_3 a0_4) = some r := h
 clear h
 have H' := jM H
 clear H
 go_enter Tryd.func13, Tryd.ntmps13
 go_wp2_with (first | ((with_reducible refine gate_dst (N := 1) rfl ?_); (try (refine gate_guard (by rfl) ?_; dsimp only)); refine box_event ?hg (N := 1) ?hd (cs := #[.slice A0_0 l0_0.length c0_0, .slice A0_1 l0_1.length c0_1, .slice A0_2 l0_2.length c0_2, .slice A0_3 l0_3.length c0_3, .int .i64 a0_4]) (t := 27) ?hr ?_; (case hd => rfl); (case hg => rfl); (case hr => first | (go_simp; done) | (go_simp; rfl)); intro gb206 hg w2 hbox hb; have n0_ := jM (jT (by repeat (first | (with_reducible first | exact HB.out | apply jA | apply jN | apply jD) | exact HB.out)) hb); have n1_ := jM (hbox); have n2_ := jM ((by rw [hg]; exact (below_size (by repeat (first | (with_reducible first | exact HB.out | apply jA | apply jN | apply jD) | exact HB.out))) : w.heap.size ≤ gb206)); have n3_ := jM ((by rw [hg]; exact (below_size (by repeat (first | (with_reducible first | exact HB.out | apply jA | apply jN | apply jD) | exact HB.out))) : w.heap.size ≤ gb206)); clear HB; have HB := n0_; have BK206 := n1_; have GW206 := n2_; have GE206 := n3_; clear n0_ n1_ n2_ n3_; clear hb hbox hg))
 go_loopg [3] k (fun kq v3 w' => ∃ (x3_1 : Int), v3 = .int .i64 x3_1 ∧ Aside0 (sl13_Few.l0 kq x3_1 l0_0 l0_1 l0_2 l0_3 a0_4 = some r) ∧ Aside0 (kq ≤ k) ∧ Aside0 (w'.heap[gb206]? = some (.cells #[(.slice A0_0 l0_0.length c0_0), (.slice A0_1 l0_1.length c0_1), (.slice A0_2 l0_2.length c0_2), (.slice A0_3 l0_3.length c0_3), .int .i64 a0_4] 27 (0, 0))) ∧ Aside0 (Below w.heap.size w w'))
 case atStart => exact ⟨(0), (by first | rfl | (simp; done) | (simp [*]; done)), H', ⟨Nat.le_refl _⟩, ⟨by (with_reducible repeat (first | refine jY ?_ _ | refine jZ ?_ | refine jX ?_ _)); exact BK206.out⟩, ⟨by repeat (first | (with_reducible first | exact HB.out | apply jA | apply jN | apply jD | refine jS ?_ GE206.out) | exact HB.out)⟩⟩
 case round =>
  clear H'
  try clear c1
  try clear p2
  obtain ⟨x3_1, rfl, HA, HK1, BK206, HB⟩ := hrel
  cases gk with
  | zero => exact absurd HA.out (by simp [sl13_Few.l0])
  | succ k1 =>
   have H := HA.out
   clear HA
   simp only [sl13_Few.l0] at H
   have HC3 := jM H
   clear H
   go_upto_region 2 with (fail)
   go_cut [12] (fun v12 wc => ∃ (kq : Nat) (x12_2 : Bool), v12 = .bool x12_2 ∧ Aside0 (sl13_Few.j1 kq x3_1 x12_2 l0_0 l0_1 l0_2 l0_3 a0_4 = some r) ∧ Aside0 (kq ≤ k1) ∧ Aside0 (wc.heap[gb206]? = some (.cells #[(.slice A0_0 l0_0.length c0_0), (.slice A0_1 l0_1.length c0_1), (.slice A0_2 l0_2.length c0_2), (.slice A0_3 l0_3.length c0_3), .int .i64 a0_4] 27 (0, 0))) ∧ Aside0 (Below w.heap.size w wc))
   case first =>
    have H := HC3.out
    clear HC3
    by_cases c4 : x3_1 < (l0_3.length : Int)
    ·rw [if_pos c4] at H
     have c4b0 : decide (x3_1 < (l0_3.length : Int)) = true := decide_eq_true c4
     clear c4
     (first | rw [c4b0] | (simp only [i64_w, i32_w]; rw [c4b0]) | skip)
     have H' := jM H
     clear H
     have hcz5_0 : wr.cell? ⟨gb206, 0, none⟩ = some (.slice A0_0 l0_0.length c0_0) := (jC BK206.out 0).trans rfl
     have hcz5_1 : wr.cell? ⟨gb206, 1, none⟩ = some (.slice A0_1 l0_1.length c0_1) := (jC BK206.out 1).trans rfl
     have hcz5_2 : wr.cell? ⟨gb206, 2, none⟩ = some (.slice A0_2 l0_2.length c0_2) := (jC BK206.out 2).trans rfl
     have hcz5_3 : wr.cell? ⟨gb206, 3, none⟩ = some (.slice A0_3 l0_3.length c0_3) := (jC BK206.out 3).trans rfl
     have hcz5_4 : wr.cell? ⟨gb206, 4, none⟩ = some (.int .i64 a0_4) := (jC BK206.out 4).trans rfl
     have hfz5_0 := jF BK206.out 0
     have hfz5_1 := jF BK206.out 1
     have hfz5_2 := jF BK206.out 2
     have hfz5_3 := jF BK206.out 3
     have hfz5_4 := jF BK206.out 4
     go_wp2
     go_meet
     case rel => exact ⟨_, (decide (x3_1 < 15)), (by first | rfl | (simp; done) | (simp [*]; done)), H', ⟨by have := HK1.out; first | omega | exact Nat.le_refl _⟩, ⟨by (with_reducible repeat (first | refine jY ?_ _ | refine jZ ?_ | refine jX ?_ _)); exact BK206.out⟩, ⟨by repeat (first | (with_reducible first | exact HB.out | apply jA | apply jN | apply jD | refine jS ?_ GE206.out) | exact HB.out)⟩⟩
    ·rw [if_neg c4] at H
     have c4b0 : decide (x3_1 < (l0_3.length : Int)) = false := decide_eq_false c4
     clear c4
     (first | rw [c4b0] | (simp only [i64_w, i32_w]; rw [c4b0]) | skip)
     have H' := jM H
     clear H
     have hcz6_0 : wr.cell? ⟨gb206, 0, none⟩ = some (.slice A0_0 l0_0.length c0_0) := (jC BK206.out 0).trans rfl
     have hcz6_1 : wr.cell? ⟨gb206, 1, none⟩ = some (.slice A0_1 l0_1.length c0_1) := (jC BK206.out 1).trans rfl
     have hcz6_2 : wr.cell? ⟨gb206, 2, none⟩ = some (.slice A0_2 l0_2.length c0_2) := (jC BK206.out 2).trans rfl
     have hcz6_3 : wr.cell? ⟨gb206, 3, none⟩ = some (.slice A0_3 l0_3.length c0_3) := (jC BK206.out 3).trans rfl
     have hcz6_4 : wr.cell? ⟨gb206, 4, none⟩ = some (.int .i64 a0_4) := (jC BK206.out 4).trans rfl
     have hfz6_0 := jF BK206.out 0
     have hfz6_1 := jF BK206.out 1
     have hfz6_2 := jF BK206.out 2
     have hfz6_3 := jF BK206.out 3
     have hfz6_4 := jF BK206.out 4
     go_wp2
     go_meet
     case rel => exact ⟨_, (false), (by first | rfl | (simp; done) | (simp [*]; done)), H', ⟨by have := HK1.out; first | omega | exact Nat.le_refl _⟩, ⟨by (with_reducible repeat (first | refine jY ?_ _ | refine jZ ?_ | refine jX ?_ _)); exact BK206.out⟩, ⟨by repeat (first | (with_reducible first | exact HB.out | apply jA | apply jN | apply jD | refine jS ?_ GE206.out) | exact HB.out)⟩⟩
   case rest =>
    clear HC3
    try clear c1
    try clear p2
    try clear c4
    try clear c4b0
    try clear hcz5_0
    try clear hcz5_1
    try clear hcz5_2
    try clear hcz5_3
    try clear hcz5_4
    try clear hcz6_0
    try clear hcz6_1
    try clear hcz6_2
    try clear hcz6_3
    try clear hcz6_4
    try clear hfz5_0
    try clear hfz5_1
    try clear hfz5_2
    try clear hfz5_3
    try clear hfz5_4
    try clear hfz6_0
    try clear hfz6_1
    try clear hfz6_2
    try clear hfz6_3
    try clear hfz6_4
    try clear p2
    obtain ⟨kq, x12_2, rfl, HA, HJ2, BK206, HB⟩ := hcut
    cases kq with
    | zero => exact absurd HA.out (by simp [sl13_Few.j1])
    | succ kj2 =>
     have H := HA.out
     clear HA
     simp only [sl13_Few.j1] at H
     by_cases c7 : x12_2 = true
     ·subst c7
      have H1 : (if 0 ≤ x3_1 then (if x3_1 < (l0_3.length : Int) then (if (((rd_T64 l0_3 x3_1).f2).length : Int) > 12 then (some false) else (sl13_Few.l0 kj2 (wrap64 (x3_1 + 1)) l0_0 l0_1 l0_2 l0_3 a0_4)) else (none)) else (none)) = some r := by rw [if_pos rfl] at H; exact H
      clear H
      have H := H1
      clear H1
      by_cases c8 : 0 ≤ x3_1
      ·rw [if_pos c8] at H
       have c8b0 : decide (0 ≤ x3_1) = true := decide_eq_true c8
       clear c8
       by_cases c9 : x3_1 < (l0_3.length : Int)
       ·rw [if_pos c9] at H
        have c9b0 : decide (x3_1 < (l0_3.length : Int)) = true := decide_eq_true c9
        clear c9
        by_cases c10 : (((rd_T64 l0_3 x3_1).f2).length : Int) > 12
        ·rw [if_pos c10] at H
         have c10b0 : decide (12 < (((rd_T64 l0_3 x3_1).f2).length : Int)) = true := decide_eq_true c10
         have c10b1 : decide (12 < ((rd_T64 l0_3 x3_1).f2).length) = true := decide_eq_true (by omega)
         clear c10
         obtain rfl := Option.some.inj H
         have hcz11_0 : wc.cell? ⟨gb206, 0, none⟩ = some (.slice A0_0 l0_0.length c0_0) := (jC BK206.out 0).trans rfl
         have hcz11_1 : wc.cell? ⟨gb206, 1, none⟩ = some (.slice A0_1 l0_1.length c0_1) := (jC BK206.out 1).trans rfl
         have hcz11_2 : wc.cell? ⟨gb206, 2, none⟩ = some (.slice A0_2 l0_2.length c0_2) := (jC BK206.out 2).trans rfl
         have hcz11_3 : wc.cell? ⟨gb206, 3, none⟩ = some (.slice A0_3 l0_3.length c0_3) := (jC BK206.out 3).trans rfl
         have hcz11_4 : wc.cell? ⟨gb206, 4, none⟩ = some (.int .i64 a0_4) := (jC BK206.out 4).trans rfl
         have hfz11_0 := jF BK206.out 0
         have hfz11_1 := jF BK206.out 1
         have hfz11_2 := jF BK206.out 2
         have hfz11_3 := jF BK206.out 3
         have hfz11_4 := jF BK206.out 4
         have p207 : 0 ≤ (x3_1 : Int) := of_decide_eq_true (by first | (with_reducible assumption) | assumption)
         have q207 : x3_1 < (l0_3.length : Int) := of_decide_eq_true (by first | (with_reducible assumption) | assumption)
         obtain ⟨ad207, A207_2, c207_2, e207, hx207_0, hx207_1, hx207_2, hx207_3, hl207_2, hi207_2⟩ := at_T64 HR0_3.out x3_1 p207 q207
         cases e207
         replace hx207_0 := (HB.out.cell (jL w _ hx207_0)).trans hx207_0
         replace hx207_1 := (HB.out.cell (jL w _ hx207_1)).trans hx207_1
         replace hx207_2 := (HB.out.cell (jL w _ hx207_2)).trans hx207_2
         replace hx207_3 := (HB.out.cell (jL w _ hx207_3)).trans hx207_3
         have HR207_2 := jM hi207_2
         have HC207_2 := jM hl207_2
         clear hi207_2 hl207_2
         replace p207 := eq_true p207
         replace q207 := eq_true q207
         go_wp2
         go_ret
         exact ⟨by first | rfl | (simp [errW_none, errW_some] <;> rfl) | (simp [*, errW_none, errW_some] <;> rfl), by repeat (first | (with_reducible first | exact HB.out | apply jA | apply jN | apply jD | refine jS ?_ GE206.out) | exact HB.out)⟩
        ·rw [if_neg c10] at H
         have c10b0 : decide (12 < (((rd_T64 l0_3 x3_1).f2).length : Int)) = false := decide_eq_false c10
         have c10b1 : decide (12 < ((rd_T64 l0_3 x3_1).f2).length) = false := decide_eq_false (by omega)
         clear c10
         have H' := jM H
         clear H
         have hcz12_0 : wc.cell? ⟨gb206, 0, none⟩ = some (.slice A0_0 l0_0.length c0_0) := (jC BK206.out 0).trans rfl
         have hcz12_1 : wc.cell? ⟨gb206, 1, none⟩ = some (.slice A0_1 l0_1.length c0_1) := (jC BK206.out 1).trans rfl
         have hcz12_2 : wc.cell? ⟨gb206, 2, none⟩ = some (.slice A0_2 l0_2.length c0_2) := (jC BK206.out 2).trans rfl
         have hcz12_3 : wc.cell? ⟨gb206, 3, none⟩ = some (.slice A0_3 l0_3.length c0_3) := (jC BK206.out 3).trans rfl
         have hcz12_4 : wc.cell? ⟨gb206, 4, none⟩ = some (.int .i64 a0_4) := (jC BK206.out 4).trans rfl
         have hfz12_0 := jF BK206.out 0
         have hfz12_1 := jF BK206.out 1
         have hfz12_2 := jF BK206.out 2
         have hfz12_3 := jF BK206.out 3
         have hfz12_4 := jF BK206.out 4
         have p207 : 0 ≤ (x3_1 : Int) := of_decide_eq_true (by first | (with_reducible assumption) | assumption)
         have q207 : x3_1 < (l0_3.length : Int) := of_decide_eq_true (by first | (with_reducible assumption) | assumption)
         obtain ⟨ad207, A207_2, c207_2, e207, hx207_0, hx207_1, hx207_2, hx207_3, hl207_2, hi207_2⟩ := at_T64 HR0_3.out x3_1 p207 q207
         cases e207
         replace hx207_0 := (HB.out.cell (jL w _ hx207_0)).trans hx207_0
         replace hx207_1 := (HB.out.cell (jL w _ hx207_1)).trans hx207_1
         replace hx207_2 := (HB.out.cell (jL w _ hx207_2)).trans hx207_2
         replace hx207_3 := (HB.out.cell (jL w _ hx207_3)).trans hx207_3
         have HR207_2 := jM hi207_2
         have HC207_2 := jM hl207_2
         clear hi207_2 hl207_2
         replace p207 := eq_true p207
         replace q207 := eq_true q207
         go_wp2
         go_roundg kj2
         case measure => have := HK1.out; have := HJ2.out; omega
         case rel => exact ⟨(wrap64 (x3_1 + 1)), (by first | rfl | (simp; done) | (simp [*]; done)), H', ⟨by have := HK1.out; have := HJ2.out; omega⟩, ⟨by (with_reducible repeat (first | refine jY ?_ _ | refine jZ ?_ | refine jX ?_ _)); exact BK206.out⟩, ⟨by repeat (first | (with_reducible first | exact HB.out | apply jA | apply jN | apply jD | refine jS ?_ GE206.out) | exact HB.out)⟩⟩
       ·rw [if_neg c9] at H
        exact absurd H (by simp)
      ·rw [if_neg c8] at H
       exact absurd H (by simp)
     ·replace c7 := Bool.eq_false_iff.mpr c7
      subst c7
      have H1 : (if (l0_0.length : Int) ≤ 10 then (if (l0_2.length : Int) ≤ 8 then (if (l0_3.length : Int) ≤ 14 then (some (decide ((l0_1.length : Int) ≤ 30))) else (some false)) else (some false)) else (some false)) = some r := by rw [if_neg (show ¬ (false = true) by decide)] at H; exact H
      clear H
      have H := H1
      clear H1
      by_cases c13 : (l0_0.length : Int) ≤ 10
      ·rw [if_pos c13] at H
       have c13b0 : decide ((l0_0.length : Int) ≤ 10) = true := decide_eq_true c13
       have c13b1 : decide (l0_0.length ≤ 10) = true := decide_eq_true (by omega)
       clear c13
       by_cases c14 : (l0_2.length : Int) ≤ 8
       ·rw [if_pos c14] at H
        have c14b0 : decide ((l0_2.length : Int) ≤ 8) = true := decide_eq_true c14
        have c14b1 : decide (l0_2.length ≤ 8) = true := decide_eq_true (by omega)
        clear c14
        by_cases c15 : (l0_3.length : Int) ≤ 14
        ·rw [if_pos c15] at H
         have c15b0 : decide ((l0_3.length : Int) ≤ 14) = true := decide_eq_true c15
         have c15b1 : decide (l0_3.length ≤ 14) = true := decide_eq_true (by omega)
         clear c15
         obtain rfl := Option.some.inj H
         have hcz16_0 : wc.cell? ⟨gb206, 0, none⟩ = some (.slice A0_0 l0_0.length c0_0) := (jC BK206.out 0).trans rfl
         have hcz16_1 : wc.cell? ⟨gb206, 1, none⟩ = some (.slice A0_1 l0_1.length c0_1) := (jC BK206.out 1).trans rfl
         have hcz16_2 : wc.cell? ⟨gb206, 2, none⟩ = some (.slice A0_2 l0_2.length c0_2) := (jC BK206.out 2).trans rfl
         have hcz16_3 : wc.cell? ⟨gb206, 3, none⟩ = some (.slice A0_3 l0_3.length c0_3) := (jC BK206.out 3).trans rfl
         have hcz16_4 : wc.cell? ⟨gb206, 4, none⟩ = some (.int .i64 a0_4) := (jC BK206.out 4).trans rfl
         have hfz16_0 := jF BK206.out 0
         have hfz16_1 := jF BK206.out 1
         have hfz16_2 := jF BK206.out 2
         have hfz16_3 := jF BK206.out 3
         have hfz16_4 := jF BK206.out 4
         go_wp2
         go_ret
         exact ⟨by first | rfl | (simp [errW_none, errW_some] <;> rfl) | (simp [*, errW_none, errW_some] <;> rfl), by repeat (first | (with_reducible first | exact HB.out | apply jA | apply jN | apply jD | refine jS ?_ GE206.out) | exact HB.out)⟩
        ·rw [if_neg c15] at H
         have c15b0 : decide ((l0_3.length : Int) ≤ 14) = false := decide_eq_false c15
         have c15b1 : decide (l0_3.length ≤ 14) = false := decide_eq_false (by omega)
         clear c15
         obtain rfl := Option.some.inj H
         have hcz17_0 : wc.cell? ⟨gb206, 0, none⟩ = some (.slice A0_0 l0_0.length c0_0) := (jC BK206.out 0).trans rfl
         have hcz17_1 : wc.cell? ⟨gb206, 1, none⟩ = some (.slice A0_1 l0_1.length c0_1) := (jC BK206.out 1).trans rfl
         have hcz17_2 : wc.cell? ⟨gb206, 2, none⟩ = some (.slice A0_2 l0_2.length c0_2) := (jC BK206.out 2).trans rfl
         have hcz17_3 : wc.cell? ⟨gb206, 3, none⟩ = some (.slice A0_3 l0_3.length c0_3) := (jC BK206.out 3).trans rfl
         have hcz17_4 : wc.cell? ⟨gb206, 4, none⟩ = some (.int .i64 a0_4) := (jC BK206.out 4).trans rfl
         have hfz17_0 := jF BK206.out 0
         have hfz17_1 := jF BK206.out 1
         have hfz17_2 := jF BK206.out 2
         have hfz17_3 := jF BK206.out 3
         have hfz17_4 := jF BK206.out 4
         go_wp2
         go_ret
         exact ⟨by first | rfl | (simp [errW_none, errW_some] <;> rfl) | (simp [*, errW_none, errW_some] <;> rfl), by repeat (first | (with_reducible first | exact HB.out | apply jA | apply jN | apply jD | refine jS ?_ GE206.out) | exact HB.out)⟩
       ·rw [if_neg c14] at H
        have c14b0 : decide ((l0_2.length : Int) ≤ 8) = false := decide_eq_false c14
        have c14b1 : decide (l0_2.length ≤ 8) = false := decide_eq_false (by omega)
        clear c14
        obtain rfl := Option.some.inj H
        have hcz18_0 : wc.cell? ⟨gb206, 0, none⟩ = some (.slice A0_0 l0_0.length c0_0) := (jC BK206.out 0).trans rfl
        have hcz18_1 : wc.cell? ⟨gb206, 1, none⟩ = some (.slice A0_1 l0_1.length c0_1) := (jC BK206.out 1).trans rfl
        have hcz18_2 : wc.cell? ⟨gb206, 2, none⟩ = some (.slice A0_2 l0_2.length c0_2) := (jC BK206.out 2).trans rfl
        have hcz18_3 : wc.cell? ⟨gb206, 3, none⟩ = some (.slice A0_3 l0_3.length c0_3) := (jC BK206.out 3).trans rfl
        have hcz18_4 : wc.cell? ⟨gb206, 4, none⟩ = some (.int .i64 a0_4) := (jC BK206.out 4).trans rfl
        have hfz18_0 := jF BK206.out 0
        have hfz18_1 := jF BK206.out 1
        have hfz18_2 := jF BK206.out 2
        have hfz18_3 := jF BK206.out 3
        have hfz18_4 := jF BK206.out 4
        go_wp2
        go_ret
        exact ⟨by first | rfl | (simp [errW_none, errW_some] <;> rfl) | (simp [*, errW_none, errW_some] <;> rfl), by repeat (first | (with_reducible first | exact HB.out | apply jA | apply jN | apply jD | refine jS ?_ GE206.out) | exact HB.out)⟩
      ·rw [if_neg c13] at H
       have c13b0 : decide ((l0_0.length : Int) ≤ 10) = false := decide_eq_false c13
       have c13b1 : decide (l0_0.length ≤ 10) = false := decide_eq_false (by omega)
       clear c13
       obtain rfl := Option.some.inj H
       have hcz19_0 : wc.cell? ⟨gb206, 0, none⟩ = some (.slice A0_0 l0_0.length c0_0) := (jC BK206.out 0).trans rfl
       have hcz19_1 : wc.cell? ⟨gb206, 1, none⟩ = some (.slice A0_1 l0_1.length c0_1) := (jC BK206.out 1).trans rfl
       have hcz19_2 : wc.cell? ⟨gb206, 2, none⟩ = some (.slice A0_2 l0_2.length c0_2) := (jC BK206.out 2).trans rfl
       have hcz19_3 : wc.cell? ⟨gb206, 3, none⟩ = some (.slice A0_3 l0_3.length c0_3) := (jC BK206.out 3).trans rfl
       have hcz19_4 : wc.cell? ⟨gb206, 4, none⟩ = some (.int .i64 a0_4) := (jC BK206.out 4).trans rfl
       have hfz19_0 := jF BK206.out 0
       have hfz19_1 := jF BK206.out 1
       have hfz19_2 := jF BK206.out 2
       have hfz19_3 := jF BK206.out 3
       have hfz19_4 := jF BK206.out 4
       go_wp2
       go_ret
       exact ⟨by first | rfl | (simp [errW_none, errW_some] <;> rfl) | (simp [*, errW_none, errW_some] <;> rfl), by repeat (first | (with_reducible first | exact HB.out | apply jA | apply jN | apply jD | refine jS ?_ GE206.out) | exact HB.out)⟩

end Go.Proofs.YtclollnicbcooaaDoor.P
end

section
namespace Go.Proofs.YtclollnicbcooaaDoor.P
open Go.RowKit Go.Proofs.YtclollnicbcooaaDoorW.PrintWords Go.Proofs.YtclollnicbcooaaDoorW.PrintLast Go.Proofs.YtclollnicbcooaaDoorW.PrintMore
attribute [local go_sem] max2_int min2_int max_two min_two max_three min_three max_four min_four

/-! ### sl14_Little: function 22 -/
mutual
def sl14_Little.l0 : Nat → Bool → Int → List (S82) → List (S101) → List ByteArray → List (S64) → Int → Option (Bool)
 | 0, _, _, _, _, _, _, _ => none
 | k + 1, x3, x4, xA, xB, xC, xD, xE => if x4 < (xD.length : Int) then (sl14_Little.j1 k x3 x4 (decide (x4 < 15)) xA xB xC xD xE) else (sl14_Little.j1 k x3 x4 false xA xB xC xD xE)
def sl14_Little.j1 : Nat → Bool → Int → Bool → List (S82) → List (S101) → List ByteArray → List (S64) → Int → Option (Bool)
 | 0, _, _, _, _, _, _, _, _ => none
 | k + 1, x3, x4, x15, xA, xB, xC, xD, xE => if x15 = true then (if 0 ≤ x4 then (if x4 < (xD.length : Int) then (if (((rd_T64 xD x4).f2).length : Int) > 5 then (some false) else (sl14_Little.l0 k x3 (wrap64 (x4 + 1)) xA xB xC xD xE)) else (none)) else (none)) else (if x3 = true then (some (decide ((xD.length : Int) ≤ 10))) else (some false))
end
def sl14_Little.f (k : Nat) (l0_0 : List (S82)) (l0_1 : List (S101)) (l0_2 : List ByteArray) (l0_3 : List (S64)) (a0_4 : Int) : Option (Bool) := (sl13_Few.f k l0_0 l0_1 l0_2 l0_3 a0_4).bind fun t318 => (sl14_Little.l0 k t318 0 l0_0 l0_1 l0_2 l0_3 a0_4)
set_option maxHeartbeats 8000000 in
set_option maxRecDepth 100000 in
theorem sl14_Little.calls (k : Nat) (A0_0 : Option Addr) (c0_0 : Nat) (l0_0 : List (S82)) (A0_1 : Option Addr) (c0_1 : Nat) (l0_1 : List (S101)) (A0_2 : Option Addr) (c0_2 : Nat) (l0_2 : List ByteArray) (A0_3 : Option Addr) (c0_3 : Nat) (l0_3 : List (S64)) (a0_4 : Int) (r : Bool) (w : World) (hr0_0 : Kd.C k82 w A0_0 l0_0.length l0_0) (hc0_0 : l0_0.length ≤ c0_0) (hr0_1 : Kd.C k101 w A0_1 l0_1.length l0_1) (hc0_1 : l0_1.length ≤ c0_1) (hr0_2 : Kd.C Kd.string w A0_2 l0_2.length l0_2) (hc0_2 : l0_2.length ≤ c0_2) (hr0_3 : Kd.C k64 w A0_3 l0_3.length l0_3) (hc0_3 : l0_3.length ≤ c0_3) (h : sl14_Little.f k l0_0 l0_1 l0_2 l0_3 a0_4 = some r) :
  Calls Tryd.prog 22 #[.agg #[.slice A0_0 l0_0.length c0_0, .slice A0_1 l0_1.length c0_1, .slice A0_2 l0_2.length c0_2, .slice A0_3 l0_3.length c0_3, .int .i64 a0_4]] w fun e w' => e = .returned (.bool r) ∧ Below w.heap.size w w' := by
 have hu27 := Tryd.underlying27
 have HR0_0 := jM hr0_0
 have HC0_0 := jM hc0_0
 clear hr0_0 hc0_0
 have HR0_1 := jM hr0_1
 have HC0_1 := jM hc0_1
 clear hr0_1 hc0_1
 have HR0_2 := jM hr0_2
 have HC0_2 := jM hc0_2
 clear hr0_2 hc0_2
 have HR0_3 := jM hr0_3
 have HC0_3 := jM hc0_3
 clear hr0_3 hc0_3
 have HB := jM (Below.refl w.heap.size w)
 have H : ((sl13_Few.f k l0_0 l0_1 l0_2 l0_3 a0_4).bind fun t318 => (sl14_Little.l0 k t318 0 l0_0 l0_1 l0_2 l0_3 a0_4)) = some r := h
 clear h
 replace H := Option.bind_eq_some_iff.mp H
 obtain ⟨t318, A20, H⟩ := H
 replace H : (sl14_Little.l0 k t318 0 l0_0 l0_1 l0_2 l0_3 a0_4) = some r := H
 have A2 := jM A20
 clear A20
 have H' := jM H
 clear H
 go_enter Tryd.func22, Tryd.ntmps22
 go_wp2_with (first | ((with_reducible refine gate_dst (N := 1) rfl ?_); (try (refine gate_guard (by rfl) ?_; dsimp only)); refine box_event ?hg (N := 1) ?hd (cs := #[.slice A0_0 l0_0.length c0_0, .slice A0_1 l0_1.length c0_1, .slice A0_2 l0_2.length c0_2, .slice A0_3 l0_3.length c0_3, .int .i64 a0_4]) (t := 27) ?hr ?_; (case hd => rfl); (case hg => rfl); (case hr => first | (go_simp; done) | (go_simp; rfl)); intro gb317 hg w3 hbox hb; have n0_ := jM (jT (by repeat (first | (with_reducible first | exact HB.out | apply jA | apply jN | apply jD) | exact HB.out)) hb); have n1_ := jM (hbox); have n2_ := jM ((by rw [hg]; exact (below_size (by repeat (first | (with_reducible first | exact HB.out | apply jA | apply jN | apply jD) | exact HB.out))) : w.heap.size ≤ gb317)); have n3_ := jM ((by rw [hg]; exact (below_size (by repeat (first | (with_reducible first | exact HB.out | apply jA | apply jN | apply jD) | exact HB.out))) : w.heap.size ≤ gb317)); clear HB; have HB := n0_; have BK317 := n1_; have GW317 := n2_; have GE317 := n3_; clear n0_ n1_ n2_ n3_; clear hb hbox hg; have hcz4_0 : w3.cell? ⟨gb317, 0, none⟩ = some (.slice A0_0 l0_0.length c0_0) := (jC BK317.out 0).trans rfl; have hcz4_1 : w3.cell? ⟨gb317, 1, none⟩ = some (.slice A0_1 l0_1.length c0_1) := (jC BK317.out 1).trans rfl; have hcz4_2 : w3.cell? ⟨gb317, 2, none⟩ = some (.slice A0_2 l0_2.length c0_2) := (jC BK317.out 2).trans rfl; have hcz4_3 : w3.cell? ⟨gb317, 3, none⟩ = some (.slice A0_3 l0_3.length c0_3) := (jC BK317.out 3).trans rfl; have hcz4_4 : w3.cell? ⟨gb317, 4, none⟩ = some (.int .i64 a0_4) := (jC BK317.out 4).trans rfl; have hfz4_0 := jF BK317.out 0; have hfz4_1 := jF BK317.out 1; have hfz4_2 := jF BK317.out 2; have hfz4_3 := jF BK317.out 3; have hfz4_4 := jF BK317.out 4) | ((with_reducible refine gate_callee (f := 13) rfl ?_); refine goesL_ (some 6) rfl rfl Tryd.func13 (by kernel_rfl) rfl #[.agg #[.slice A0_0 l0_0.length c0_0, .slice A0_1 l0_1.length c0_1, .slice A0_2 l0_2.length c0_2, .slice A0_3 l0_3.length c0_3, .int .i64 a0_4]] rfl (by (try simp only [List.map_toArray, List.map_cons, List.map_nil]); first | done | rfl | (simp only [List.length_drop, List.length_take]; rfl)) ?_; (with_reducible refine (sl13_Few.calls k _ _ l0_0 _ _ l0_1 _ _ l0_2 _ _ l0_3 a0_4 t318 _ ?side1 ?side2 ?side3 ?side4 ?side5 ?side6 ?side7 ?side8 A2.out).mono ?_); (case side1 => repeat (first | exact (jB HR0_0.out HB.out) | (with_reducible refine Kd.C_alloc ?_ _) | (with_reducible refine Kd.C_drewN ?_ _) | (with_reducible refine Kd.C_drew ?_))); (case side2 => exact HC0_0.out); (case side3 => repeat (first | exact (jB HR0_1.out HB.out) | (with_reducible refine Kd.C_alloc ?_ _) | (with_reducible refine Kd.C_drewN ?_ _) | (with_reducible refine Kd.C_drew ?_))); (case side4 => exact HC0_1.out); (case side5 => repeat (first | exact (jB HR0_2.out HB.out) | (with_reducible refine Kd.C_alloc ?_ _) | (with_reducible refine Kd.C_drewN ?_ _) | (with_reducible refine Kd.C_drew ?_))); (case side6 => exact HC0_2.out); (case side7 => repeat (first | exact (jB HR0_3.out HB.out) | (with_reducible refine Kd.C_alloc ?_ _) | (with_reducible refine Kd.C_drewN ?_ _) | (with_reducible refine Kd.C_drew ?_))); (case side8 => exact HC0_3.out); rintro e w5 ⟨rfl, hb⟩; refine ⟨_, rfl, ?_⟩; have n0_ := jM (jW (g := gb317) (o := .cells #[.slice A0_0 l0_0.length c0_0, .slice A0_1 l0_1.length c0_1, .slice A0_2 l0_2.length c0_2, .slice A0_3 l0_3.length c0_3, .int .i64 a0_4] 27 (0, 0)) (by (with_reducible repeat (first | refine jY ?_ _ | refine jZ ?_ | refine jX ?_ _)); exact BK317.out) hb); have n1_ := jM (jT (by repeat (first | (with_reducible first | exact HB.out | apply jA | apply jN | apply jD | refine jS ?_ GE317.out) | exact HB.out)) hb); clear BK317; clear HB; have BK317 := n0_; have HB := n1_; clear n0_ n1_; (try clear hb); (try clear hb2); (try clear hk); (try clear hi)))
 go_loopg [4] k (fun kq v4 w' => ∃ (x4_1 : Int), v4 = .int .i64 x4_1 ∧ Aside0 (sl14_Little.l0 kq t318 x4_1 l0_0 l0_1 l0_2 l0_3 a0_4 = some r) ∧ Aside0 (kq ≤ k) ∧ Aside0 (w'.heap[gb317]? = some (.cells #[(.slice A0_0 l0_0.length c0_0), (.slice A0_1 l0_1.length c0_1), (.slice A0_2 l0_2.length c0_2), (.slice A0_3 l0_3.length c0_3), .int .i64 a0_4] 27 (0, 0))) ∧ Aside0 (Below w.heap.size w w'))
 case atStart => exact ⟨(0), (by first | rfl | (simp; done) | (simp [*]; done)), H', ⟨Nat.le_refl _⟩, ⟨by (with_reducible repeat (first | refine jY ?_ _ | refine jZ ?_ | refine jX ?_ _)); exact BK317.out⟩, ⟨by repeat (first | (with_reducible first | exact HB.out | apply jA | apply jN | apply jD | refine jS ?_ GE317.out) | exact HB.out)⟩⟩
 case round =>
  clear H'
  try clear c1
  try clear c2
  try clear p2
  try clear hcz4_0
  try clear hcz4_1
  try clear hcz4_2
  try clear hcz4_3
  try clear hcz4_4
  try clear hfz4_0
  try clear hfz4_1
  try clear hfz4_2
  try clear hfz4_3
  try clear hfz4_4
  obtain ⟨x4_1, rfl, HA, HK1, BK317, HB⟩ := hrel
  cases gk with
  | zero => exact absurd HA.out (by simp [sl14_Little.l0])
  | succ k1 =>
   have H := HA.out
   clear HA
   simp only [sl14_Little.l0] at H
   have HC6 := jM H
   clear H
   go_upto_region 3 with (fail)
   go_cut [15] (fun v15 wc => ∃ (kq : Nat) (x15_5 : Bool), v15 = .bool x15_5 ∧ Aside0 (sl14_Little.j1 kq t318 x4_1 x15_5 l0_0 l0_1 l0_2 l0_3 a0_4 = some r) ∧ Aside0 (kq ≤ k1) ∧ Aside0 (wc.heap[gb317]? = some (.cells #[(.slice A0_0 l0_0.length c0_0), (.slice A0_1 l0_1.length c0_1), (.slice A0_2 l0_2.length c0_2), (.slice A0_3 l0_3.length c0_3), .int .i64 a0_4] 27 (0, 0))) ∧ Aside0 (Below w.heap.size w wc))
   case first =>
    have H := HC6.out
    clear HC6
    by_cases c7 : x4_1 < (l0_3.length : Int)
    ·rw [if_pos c7] at H
     have c7b0 : decide (x4_1 < (l0_3.length : Int)) = true := decide_eq_true c7
     clear c7
     (first | rw [c7b0] | (simp only [i64_w, i32_w]; rw [c7b0]) | skip)
     have H' := jM H
     clear H
     have hcz8_0 : wr.cell? ⟨gb317, 0, none⟩ = some (.slice A0_0 l0_0.length c0_0) := (jC BK317.out 0).trans rfl
     have hcz8_1 : wr.cell? ⟨gb317, 1, none⟩ = some (.slice A0_1 l0_1.length c0_1) := (jC BK317.out 1).trans rfl
     have hcz8_2 : wr.cell? ⟨gb317, 2, none⟩ = some (.slice A0_2 l0_2.length c0_2) := (jC BK317.out 2).trans rfl
     have hcz8_3 : wr.cell? ⟨gb317, 3, none⟩ = some (.slice A0_3 l0_3.length c0_3) := (jC BK317.out 3).trans rfl
     have hcz8_4 : wr.cell? ⟨gb317, 4, none⟩ = some (.int .i64 a0_4) := (jC BK317.out 4).trans rfl
     have hfz8_0 := jF BK317.out 0
     have hfz8_1 := jF BK317.out 1
     have hfz8_2 := jF BK317.out 2
     have hfz8_3 := jF BK317.out 3
     have hfz8_4 := jF BK317.out 4
     go_wp2
     go_meet
     case rel => exact ⟨_, (decide (x4_1 < 15)), (by first | rfl | (simp; done) | (simp [*]; done)), H', ⟨by have := HK1.out; first | omega | exact Nat.le_refl _⟩, ⟨by (with_reducible repeat (first | refine jY ?_ _ | refine jZ ?_ | refine jX ?_ _)); exact BK317.out⟩, ⟨by repeat (first | (with_reducible first | exact HB.out | apply jA | apply jN | apply jD | refine jS ?_ GE317.out) | exact HB.out)⟩⟩
    ·rw [if_neg c7] at H
     have c7b0 : decide (x4_1 < (l0_3.length : Int)) = false := decide_eq_false c7
     clear c7
     (first | rw [c7b0] | (simp only [i64_w, i32_w]; rw [c7b0]) | skip)
     have H' := jM H
     clear H
     have hcz9_0 : wr.cell? ⟨gb317, 0, none⟩ = some (.slice A0_0 l0_0.length c0_0) := (jC BK317.out 0).trans rfl
     have hcz9_1 : wr.cell? ⟨gb317, 1, none⟩ = some (.slice A0_1 l0_1.length c0_1) := (jC BK317.out 1).trans rfl
     have hcz9_2 : wr.cell? ⟨gb317, 2, none⟩ = some (.slice A0_2 l0_2.length c0_2) := (jC BK317.out 2).trans rfl
     have hcz9_3 : wr.cell? ⟨gb317, 3, none⟩ = some (.slice A0_3 l0_3.length c0_3) := (jC BK317.out 3).trans rfl
     have hcz9_4 : wr.cell? ⟨gb317, 4, none⟩ = some (.int .i64 a0_4) := (jC BK317.out 4).trans rfl
     have hfz9_0 := jF BK317.out 0
     have hfz9_1 := jF BK317.out 1
     have hfz9_2 := jF BK317.out 2
     have hfz9_3 := jF BK317.out 3
     have hfz9_4 := jF BK317.out 4
     go_wp2
     go_meet
     case rel => exact ⟨_, (false), (by first | rfl | (simp; done) | (simp [*]; done)), H', ⟨by have := HK1.out; first | omega | exact Nat.le_refl _⟩, ⟨by (with_reducible repeat (first | refine jY ?_ _ | refine jZ ?_ | refine jX ?_ _)); exact BK317.out⟩, ⟨by repeat (first | (with_reducible first | exact HB.out | apply jA | apply jN | apply jD | refine jS ?_ GE317.out) | exact HB.out)⟩⟩
   case rest =>
    clear HC6
    try clear c1
    try clear c2
    try clear p2
    try clear c7
    try clear c7b0
    try clear hcz4_0
    try clear hcz4_1
    try clear hcz4_2
    try clear hcz4_3
    try clear hcz4_4
    try clear hcz8_0
    try clear hcz8_1
    try clear hcz8_2
    try clear hcz8_3
    try clear hcz8_4
    try clear hcz9_0
    try clear hcz9_1
    try clear hcz9_2
    try clear hcz9_3
    try clear hcz9_4
    try clear hfz4_0
    try clear hfz4_1
    try clear hfz4_2
    try clear hfz4_3
    try clear hfz4_4
    try clear hfz8_0
    try clear hfz8_1
    try clear hfz8_2
    try clear hfz8_3
    try clear hfz8_4
    try clear hfz9_0
    try clear hfz9_1
    try clear hfz9_2
    try clear hfz9_3
    try clear hfz9_4
    try clear p2
    obtain ⟨kq, x15_5, rfl, HA, HJ5, BK317, HB⟩ := hcut
    cases kq with
    | zero => exact absurd HA.out (by simp [sl14_Little.j1])
    | succ kj5 =>
     have H := HA.out
     clear HA
     simp only [sl14_Little.j1] at H
     by_cases c10 : x15_5 = true
     ·subst c10
      have H1 : (if 0 ≤ x4_1 then (if x4_1 < (l0_3.length : Int) then (if (((rd_T64 l0_3 x4_1).f2).length : Int) > 5 then (some false) else (sl14_Little.l0 kj5 t318 (wrap64 (x4_1 + 1)) l0_0 l0_1 l0_2 l0_3 a0_4)) else (none)) else (none)) = some r := by rw [if_pos rfl] at H; exact H
      clear H
      have H := H1
      clear H1
      by_cases c11 : 0 ≤ x4_1
      ·rw [if_pos c11] at H
       have c11b0 : decide (0 ≤ x4_1) = true := decide_eq_true c11
       clear c11
       by_cases c12 : x4_1 < (l0_3.length : Int)
       ·rw [if_pos c12] at H
        have c12b0 : decide (x4_1 < (l0_3.length : Int)) = true := decide_eq_true c12
        clear c12
        by_cases c13 : (((rd_T64 l0_3 x4_1).f2).length : Int) > 5
        ·rw [if_pos c13] at H
         have c13b0 : decide (5 < (((rd_T64 l0_3 x4_1).f2).length : Int)) = true := decide_eq_true c13
         have c13b1 : decide (5 < ((rd_T64 l0_3 x4_1).f2).length) = true := decide_eq_true (by omega)
         clear c13
         obtain rfl := Option.some.inj H
         have hcz14_0 : wc.cell? ⟨gb317, 0, none⟩ = some (.slice A0_0 l0_0.length c0_0) := (jC BK317.out 0).trans rfl
         have hcz14_1 : wc.cell? ⟨gb317, 1, none⟩ = some (.slice A0_1 l0_1.length c0_1) := (jC BK317.out 1).trans rfl
         have hcz14_2 : wc.cell? ⟨gb317, 2, none⟩ = some (.slice A0_2 l0_2.length c0_2) := (jC BK317.out 2).trans rfl
         have hcz14_3 : wc.cell? ⟨gb317, 3, none⟩ = some (.slice A0_3 l0_3.length c0_3) := (jC BK317.out 3).trans rfl
         have hcz14_4 : wc.cell? ⟨gb317, 4, none⟩ = some (.int .i64 a0_4) := (jC BK317.out 4).trans rfl
         have hfz14_0 := jF BK317.out 0
         have hfz14_1 := jF BK317.out 1
         have hfz14_2 := jF BK317.out 2
         have hfz14_3 := jF BK317.out 3
         have hfz14_4 := jF BK317.out 4
         have p319 : 0 ≤ (x4_1 : Int) := of_decide_eq_true (by first | (with_reducible assumption) | assumption)
         have q319 : x4_1 < (l0_3.length : Int) := of_decide_eq_true (by first | (with_reducible assumption) | assumption)
         obtain ⟨ad319, A319_2, c319_2, e319, hx319_0, hx319_1, hx319_2, hx319_3, hl319_2, hi319_2⟩ := at_T64 HR0_3.out x4_1 p319 q319
         cases e319
         replace hx319_0 := (HB.out.cell (jL w _ hx319_0)).trans hx319_0
         replace hx319_1 := (HB.out.cell (jL w _ hx319_1)).trans hx319_1
         replace hx319_2 := (HB.out.cell (jL w _ hx319_2)).trans hx319_2
         replace hx319_3 := (HB.out.cell (jL w _ hx319_3)).trans hx319_3
         have HR319_2 := jM hi319_2
         have HC319_2 := jM hl319_2
         clear hi319_2 hl319_2
         replace p319 := eq_true p319
         replace q319 := eq_true q319
         go_wp2
         go_ret
         exact ⟨by first | rfl | (simp [errW_none, errW_some] <;> rfl) | (simp [*, errW_none, errW_some] <;> rfl), by repeat (first | (with_reducible first | exact HB.out | apply jA | apply jN | apply jD | refine jS ?_ GE317.out) | exact HB.out)⟩
        ·rw [if_neg c13] at H
         have c13b0 : decide (5 < (((rd_T64 l0_3 x4_1).f2).length : Int)) = false := decide_eq_false c13
         have c13b1 : decide (5 < ((rd_T64 l0_3 x4_1).f2).length) = false := decide_eq_false (by omega)
         clear c13
         have H' := jM H
         clear H
         have hcz15_0 : wc.cell? ⟨gb317, 0, none⟩ = some (.slice A0_0 l0_0.length c0_0) := (jC BK317.out 0).trans rfl
         have hcz15_1 : wc.cell? ⟨gb317, 1, none⟩ = some (.slice A0_1 l0_1.length c0_1) := (jC BK317.out 1).trans rfl
         have hcz15_2 : wc.cell? ⟨gb317, 2, none⟩ = some (.slice A0_2 l0_2.length c0_2) := (jC BK317.out 2).trans rfl
         have hcz15_3 : wc.cell? ⟨gb317, 3, none⟩ = some (.slice A0_3 l0_3.length c0_3) := (jC BK317.out 3).trans rfl
         have hcz15_4 : wc.cell? ⟨gb317, 4, none⟩ = some (.int .i64 a0_4) := (jC BK317.out 4).trans rfl
         have hfz15_0 := jF BK317.out 0
         have hfz15_1 := jF BK317.out 1
         have hfz15_2 := jF BK317.out 2
         have hfz15_3 := jF BK317.out 3
         have hfz15_4 := jF BK317.out 4
         have p319 : 0 ≤ (x4_1 : Int) := of_decide_eq_true (by first | (with_reducible assumption) | assumption)
         have q319 : x4_1 < (l0_3.length : Int) := of_decide_eq_true (by first | (with_reducible assumption) | assumption)
         obtain ⟨ad319, A319_2, c319_2, e319, hx319_0, hx319_1, hx319_2, hx319_3, hl319_2, hi319_2⟩ := at_T64 HR0_3.out x4_1 p319 q319
         cases e319
         replace hx319_0 := (HB.out.cell (jL w _ hx319_0)).trans hx319_0
         replace hx319_1 := (HB.out.cell (jL w _ hx319_1)).trans hx319_1
         replace hx319_2 := (HB.out.cell (jL w _ hx319_2)).trans hx319_2
         replace hx319_3 := (HB.out.cell (jL w _ hx319_3)).trans hx319_3
         have HR319_2 := jM hi319_2
         have HC319_2 := jM hl319_2
         clear hi319_2 hl319_2
         replace p319 := eq_true p319
         replace q319 := eq_true q319
         go_wp2
         go_roundg kj5
         case measure => have := HK1.out; have := HJ5.out; omega
         case rel => exact ⟨(wrap64 (x4_1 + 1)), (by first | rfl | (simp; done) | (simp [*]; done)), H', ⟨by have := HK1.out; have := HJ5.out; omega⟩, ⟨by (with_reducible repeat (first | refine jY ?_ _ | refine jZ ?_ | refine jX ?_ _)); exact BK317.out⟩, ⟨by repeat (first | (with_reducible first | exact HB.out | apply jA | apply jN | apply jD | refine jS ?_ GE317.out) | exact HB.out)⟩⟩
       ·rw [if_neg c12] at H
        exact absurd H (by simp)
      ·rw [if_neg c11] at H
       exact absurd H (by simp)
     ·replace c10 := Bool.eq_false_iff.mpr c10
      subst c10
      have H1 : (if t318 = true then (some (decide ((l0_3.length : Int) ≤ 10))) else (some false)) = some r := by rw [if_neg (show ¬ (false = true) by decide)] at H; exact H
      clear H
      have H := H1
      clear H1
      by_cases c16 : t318 = true
      ·subst c16
       have H1 : (some (decide ((l0_3.length : Int) ≤ 10))) = some r := by rw [if_pos rfl] at H; exact H
       clear H
       have H := H1
       clear H1
       obtain rfl := Option.some.inj H
       have hcz17_0 : wc.cell? ⟨gb317, 0, none⟩ = some (.slice A0_0 l0_0.length c0_0) := (jC BK317.out 0).trans rfl
       have hcz17_1 : wc.cell? ⟨gb317, 1, none⟩ = some (.slice A0_1 l0_1.length c0_1) := (jC BK317.out 1).trans rfl
       have hcz17_2 : wc.cell? ⟨gb317, 2, none⟩ = some (.slice A0_2 l0_2.length c0_2) := (jC BK317.out 2).trans rfl
       have hcz17_3 : wc.cell? ⟨gb317, 3, none⟩ = some (.slice A0_3 l0_3.length c0_3) := (jC BK317.out 3).trans rfl
       have hcz17_4 : wc.cell? ⟨gb317, 4, none⟩ = some (.int .i64 a0_4) := (jC BK317.out 4).trans rfl
       have hfz17_0 := jF BK317.out 0
       have hfz17_1 := jF BK317.out 1
       have hfz17_2 := jF BK317.out 2
       have hfz17_3 := jF BK317.out 3
       have hfz17_4 := jF BK317.out 4
       go_wp2
       go_ret
       exact ⟨by first | rfl | (simp [errW_none, errW_some] <;> rfl) | (simp [*, errW_none, errW_some] <;> rfl), by repeat (first | (with_reducible first | exact HB.out | apply jA | apply jN | apply jD | refine jS ?_ GE317.out) | exact HB.out)⟩
      ·replace c16 := Bool.eq_false_iff.mpr c16
       subst c16
       have H1 : (some false) = some r := by rw [if_neg (show ¬ (false = true) by decide)] at H; exact H
       clear H
       have H := H1
       clear H1
       obtain rfl := Option.some.inj H
       go_wp2
       go_ret
       exact ⟨by first | rfl | (simp [errW_none, errW_some] <;> rfl) | (simp [*, errW_none, errW_some] <;> rfl), by repeat (first | (with_reducible first | exact HB.out | apply jA | apply jN | apply jD | refine jS ?_ GE317.out) | exact HB.out)⟩

end Go.Proofs.YtclollnicbcooaaDoor.P
end
