/- Texts of this claim put together: Clo, Px4, Ld, Lk1, Lk2, Px1, Px5, Nit, Num, Bup, Bui. -/
import Derived.Test.YtclollnicbcooaaDoorEc1
import Derived.Test.YtclollnicbcooaaDoorEc0
import Derived.Deep.RegionLaw
import Derived.Lib.SmallJoins
import Derived.Lib.AppendIntMem
section
set_option linter.unusedVariables false
set_option linter.unusedSimpArgs false
namespace Go.Proofs.YtclollnicbcooaaDoor.P
open Go.RowKit Go.Lib Go.Sort Go.Proofs.YtclollnicbcooaaDoorW.PrintWords Go.Proofs.YtclollnicbcooaaDoorW.PrintLast Go.Proofs.YtclollnicbcooaaDoorW.PrintMore St Base
attribute [local go_sem] Oper.semAt_some

set_option maxHeartbeats 16000000 in
set_option maxRecDepth 100000 in
theorem closed_in (A0 : Option Addr) (c0 : Nat) (l0 : List S82) (A1 : Option Addr) (c1 : Nat) (l1 : List S101) (A2 : Option Addr) (c2 : Nat) (l2 : List ByteArray) (A3 : Option Addr) (c3 : Nat) (l3 : List S64) (st : Int) (A : Option Addr) (c : Nat) (l : List S37) (w : World)
  (hr0 : Kd.C k82 w A0 l0.length l0) (hc0 : l0.length ≤ c0) (hr1 : Kd.C k101 w A1 l1.length l1) (hc1 : l1.length ≤ c1) (hr2 : Kd.C Kd.string w A2 l2.length l2) (hc2 : l2.length ≤ c2) (hr3 : Kd.C k64 w A3 l3.length l3) (hc3 : l3.length ≤ c3) (hr : Kd.C k37 w A l.length l) (hc : l.length ≤ c)
  (hF : Fits l2 l3 st) (hsy : ∀ p ∈ l3, ∀ s ∈ p.f2, -9223372036854775808 ≤ s) (hl : l.length ≤ 1000000) (hrng : ∀ x ∈ l, rngI (toI x)) :
  CallsIn Fence.wide 4 Tryd.prog 38 #[.agg #[.slice A0 l0.length c0, .slice A1 l1.length c1, .slice A2 l2.length c2, .slice A3 l3.length c3, .int .i64 st], .slice A l.length c] w fun e w' => ∃ v, e = .returned v ∧ Kd.R k37 37 w' w.heap.size (fun _ => True) v ((risen (closedL (gr st l3) (l.map toI))).map ofI) ∧ RowKit.Below w.heap.size w w' := by
 have HR0 := Aside0.mk hr0
 have HR1 := Aside0.mk hr1
 have HR2 := Aside0.mk hr2
 have HR3 := Aside0.mk hr3
 have HC0 := Aside0.mk hc0
 have HC1 := Aside0.mk hc1
 have HC2 := Aside0.mk hc2
 have HC3 := Aside0.mk hc3
 have HF := Aside0.mk hF
 have HL := Aside0.mk hl
 have HSY := Aside0.mk hsy
 have hfew : (gr st l3).ps.length ≤ 120 := by rw [gr_len]; exact hF.few
 have HFEW := Aside0.mk hfew
 clear hr0 hr1 hr2 hr3 hc0 hc1 hc2 hc3 hfew hsy
 have hu27 := Tryd.underlying27
 have hu28 := Tryd.underlying28
 have hu37 := Tryd.underlying37
 have hmm := @run_makeMap Tryd.prog
 have hstart := Fx.start hF (l.map toI) (by rw [List.length_map]; exact hl) (fun x hx => by
  obtain ⟨y, hy, rfl⟩ := List.mem_map.1 hx
  exact hrng y hy)
 have hmst := Lm.start (G := #[.slice A0 l0.length c0, .slice A1 l1.length c1, .slice A2 l2.length c2, .slice A3 l3.length c3, .int .i64 st]) hr hc
 have hN0' : fuel (l.map toI) ≤ 1189003 := by unfold fuel; rw [List.length_map]; omega
 generalize hN0 : fuel (l.map toI) = N0 at *
 generalize hres : closedL (gr st l3) (l.map toI) = res at *
 obtain ⟨Q0, hQ0⟩ : ∃ Q0, Q0 = 1000000 + 120 * N0 := ⟨_, rfl⟩
 have hQ0' : Q0 ≤ 144000000 := by omega
 rw [← hQ0] at hstart
 have HX := Aside0.mk hstart
 have HM := Aside0.mk hmst
 have HB := Aside0.mk (show N0 ≤ 1189003 ∧ Q0 ≤ 144000000 from ⟨hN0', hQ0'⟩)
 clear hstart hmst hN0 hN0' hQ0 hQ0' hres hF hl hrng hr hc
 refine callsIn_of_wp_marks Tryd.func38 rfl trivial ?_ rfl
 simp only [Tryd.ntmps38, List.size_toArray, List.length_cons, List.length_nil, Nat.reduceAdd, Nat.reduceSub, Array.replicate_succ, Array.replicate_zero, List.push_toArray, List.append_toArray, List.nil_append, List.cons_append]
 refine wpIn_wide.2 ?_
 go_wp2
 refine wp_loop_num (fun n a W => ∃ (u6 : Value) (out q : List Itm) (Aq : Option Addr) (cq : Nat) (ds : List Deferred) (hi : Nat) (u7 u8 u9 u10 u12 u13 u14 u15 u16 u17 u18 u19 u20 u21 u22 u23 u24 u25 u26 u27 u28 u29 u30 u31 u32 u33 u34 u35 u36 u37 u38 u39 u40 u41 u42 u43 u44 u45 u46 u47 u48 u49 u50 u51 u52 u53 u54 u55 u56 : Value), a = { tmps := #[.agg #[.slice A0 l0.length c0, .slice A1 l1.length c1, .slice A2 l2.length c2, .slice A3 l3.length c3, .int .i64 st], .slice A l.length c, .pointer (some ⟨w.heap.size, 0, none⟩), .pointer (some ⟨w.heap.size + 1, 0, none⟩), .slice none 0 0, .map (some (w.heap.size + 1 + 1)), u6, u7, u8, u9, u10, .map (some (w.heap.size + 1 + 1)), u12, u13, u14, u15, u16, u17, u18, u19, u20, u21, u22, u23, u24, u25, u26, u27, u28, u29, u30, u31, u32, u33, u34, u35, u36, u37, u38, u39, u40, u41, u42, u43, u44, u45, u46, u47, u48, u49, u50, u51, u52, u53, u54, u55, u56, undef, undef], defers := ds } ∧ Aside0 (Fx (gr st l3) res N0 Q0 n out q) ∧ Aside0 (Lm w #[.slice A0 l0.length c0, .slice A1 l1.length c1, .slice A2 l2.length c2, .slice A3 l3.length c3, .int .i64 st] hi out out q u6 Aq cq ds W)) N0 ⟨.slice none 0 0, [], l.map toI, A, c, [], w.heap.size + 3, undef, undef, undef, undef, undef, undef, undef, undef, undef, undef, undef, undef, undef, undef, undef, undef, undef, undef, undef, undef, undef, undef, undef, undef, undef, undef, undef, undef, undef, undef, undef, undef, undef, undef, undef, undef, undef, undef, undef, undef, undef, undef, undef, undef, undef, undef, undef, undef, undef, by rfl, HX, HM⟩ ?_
 clear HX HM
 rintro n a W ⟨u6, out, q, Aq, cq, ds, hi, u7, u8, u9, u10, u12, u13, u14, u15, u16, u17, u18, u19, u20, u21, u22, u23, u24, u25, u26, u27, u28, u29, u30, u31, u32, u33, u34, u35, u36, u37, u38, u39, u40, u41, u42, u43, u44, u45, u46, u47, u48, u49, u50, u51, u52, u53, u54, u55, u56, rfl, HX, HI⟩
 have z1 := blk_cell HI.out.bl 0
 simp only [List.getElem?_toArray, List.getElem?_cons_zero] at z1
 obtain ⟨k, rfl⟩ : ∃ k, n = k + 1 := by
  cases n with
  | zero => exact absurd HX.out.run (by rw [clQ]; simp)
  | succ k => exact ⟨k, rfl⟩
 cases q with
 | nil =>
  have hro : out = res := by
   have h := HX.out.run
   rw [clQ] at h
   exact Option.some.inj h
  have hlen : (out.map ofI).length < 4611686018427387904 := by
   rw [List.length_map]
   have := HX.out.small; have := HB.out.1; omega
  have HRS := Aside0.mk (show risenS (out.map ofI) = (risen res).map ofI by unfold risenS; rw [map_toI_ofI, hro])
  clear hro
  simp only [List.length_nil] at z1
  go_wp2_with (go_at_call 68; refine (rising_calls u6 _ (w.heap.size + 3) _ W HI.out.ho hlen).mono ?_; rintro e w6 ⟨v6, rfl, hR, hg, hat⟩)
  have hB6 := below_grown HI.out.hb hg (fun k hk => by have := Kd.R_base HI.out.ho k hk; omega)
  have hM6 : Marks (w.heap.size + 3) hi ds w6 := Marks.keep (fun D h1 h2 h3 => (hg.block D (Nat.lt_of_lt_of_le h2 HI.out.hil) (fun e => by
   obtain ⟨cells, hcc⟩ := Kd.R_typed HI.out.ho D e.symm
   rw [h3] at hcc; cases hcc)).trans h3) ds HI.out.mks
  exact leaves_marks (v := v6) (fun W => by exact results_tmp (t := 4) rfl _ _ _) (by omega) ds w6 hM6 (Kd.R_lower (Kd.R_mono (HRS.out ▸ hR) (fun _ _ => trivial)) (by omega)) hB6
 | cons x q =>
  have hqq := HI.out.hq
  have hxr : rngI x := HX.out.rng x (List.mem_cons_self ..)
  obtain ⟨ad, rfl, hx0, hx1⟩ := at_T37 hqq 0 (by omega) (by simp only [List.length_cons]; omega)
  have hrd : rd_T37 ((x :: q).map ofI) 0 = ofI x := rfl
  rw [hrd] at hx0 hx1
  have hx0' : W.cell? ad = some (.int .i64 x.1) := by
   have e : ad.add ((0 : Int).toNat * 2) = ad := add_none ad
   rw [e] at hx0; exact hx0
  have hx1' : W.cell? ⟨ad.block, ad.off + 1, none⟩ = some (.int .i64 x.2) := by
   have e : ad.add ((0 : Int).toNat * 2) = ad := add_none ad
   rw [e] at hx1; exact hx1
  clear hx0 hx1 hrd hqq
  obtain ⟨i37, hi37, hsz37⟩ := Option.map_eq_some_iff.1 info37
  have hsl := cut_from (P := Tryd.prog) 28 37 .i64 Tryd.underlying28 hi37 2 (congrArg (fun z => z.2.1) hsz37) (some ad) (q.length + 1) cq 1 (by omega) (by omega)
  rw [show (1 : Int).toNat = 1 from rfl, Nat.add_sub_cancel] at hsl
  have f1 := blk_frozen HI.out.bl 0
  simp only [List.length_cons] at z1
  clear hi37 hsz37
  have HIb := Aside0.mk (Lm.pop (Lm.below HI.out (below_alloc (RowKit.Below.refl _ W) (Obj.cells #[.int .i64 x.1, .int .i64 x.2] 37))))
  have BXb := Aside0.mk (blk_new W (Obj.cells #[.int .i64 x.1, .int .i64 x.2] 37))
  generalize hT : (if cq = 1 then some ad else (some ad).map (·.add (1 * 2))) = T at *
  have hxo : some W.heap.size ≠ u6.ownBlock := fun e => by
   obtain ⟨cells, hcc⟩ := Kd.R_typed HI.out.ho _ e.symm
   exact absurd (blk_lt hcc) (Nat.lt_irrefl _)
  have hhi : hi ≤ W.heap.size ∧ w.heap.size + 3 ≤ W.heap.size := ⟨HI.out.hil, Nat.le_trans HI.out.hi3 HI.out.hil⟩
  have HH := Aside0.mk hhi
  have HXO := Aside0.mk hxo
  clear hhi hxo hT
  go_upto_region 5 with fail
  have HI1 := Aside0.mk (Lm.below HI.out (below_alloc (RowKit.Below.refl _ W) (Obj.cells #[.int .i64 x.1, .int .i64 x.2] 37)))
  clear HI z1 f1 hx0' hx1'
  generalize W.alloc (Obj.cells #[.int .i64 x.1, .int .i64 x.2] 37) = W1 at *
  generalize W.heap.size = xb at *
  have z1 := blk_cell HI1.out.bl 0
  simp only [List.getElem?_toArray, List.getElem?_cons_zero, List.length_cons] at z1
  have f1 := blk_frozen HI1.out.bl 0
  go_upto_region 6 with fail
  have BX2 := Aside0.mk (blk_far BXb.out (show xb ≠ (⟨w.heap.size + 1, 0, none⟩ : Addr).block by have := HH.out.2; show xb ≠ w.heap.size + 1; omega) (.slice T q.length (cq - 1)))
  clear BXb HI1 z1 f1 hsl
  generalize W1.setCell ⟨w.heap.size + 1, 0, none⟩ (.slice T q.length (cq - 1)) = W2 at *
  have x0 : W2.cell? ⟨xb, 0, none⟩ = some (.int .i64 x.1) := blk_cell BX2.out 0
  have x1 : W2.cell? ⟨xb, 1, none⟩ = some (.int .i64 x.2) := blk_cell BX2.out 1
  by_cases hseen : x ∈ out
  ·have hlk := seen_has HIb.out.mp hseen hxr
   unfold keyV at hlk
   have HX2 := Aside0.mk (Fx.skip HX.out (.inl hseen))
   clear hseen
   go_wp2
   exact ⟨k, Nat.lt_succ_self k, u6, out, q, T, cq - 1, ds, hi, _, _, _, _, _, _, _, _, _, _, _, _, _, _, _, _, _, _, _, _, _, _, _, _, _, _, _, _, _, _, _, _, _, _, _, _, _, _, _, _, _, _, _, _, _, _, _, _, _, rfl, HX2, HIb⟩
  ·have hlk := seen_not HIb.out.mp hseen hxr
   unfold keyV at hlk
   obtain ⟨z0, z1, z2, z3, z4⟩ := five5 HIb.out.bg
   have his := is_is (l0 := l0) (l1 := l1) HF.out x.1 x.2
   have HSEEN := Aside0.mk hseen
   have HXR := Aside0.mk hxr
   have cb (W' : World) (hb : RowKit.Below W2.heap.size W2 W') : RowKit.Below w.heap.size w W' := below_step HIb.out.hb hb
   clear hseen hxr
   cases hI : isI (gr st l3) (x.1, x.2) with
   | false =>
    rw [hI] at his
    have HX2 := Aside0.mk (Fx.skip HX.out (.inr hI))
    clear hI
    go_wp2_with (go_at_call 65; refine (states_is.calls _ _ l0 _ _ l1 _ _ l2 _ _ l3 st x.1 x.2 false _ (Kd.C_below HR0.out HIb.out.hb) HC0.out (Kd.C_below HR1.out HIb.out.hb) HC1.out (Kd.C_below HR2.out HIb.out.hb) HC2.out (Kd.C_below HR3.out HIb.out.hb) HC3.out his).mono ?_; rintro e w5 ⟨rfl, hb⟩; have HI5 := Aside0.mk (Lm.below HIb.out hb); clear hb)
    exact ⟨k, Nat.lt_succ_self k, u6, out, q, T, cq - 1, ds, hi, _, _, _, _, _, _, _, _, _, _, _, _, _, _, _, _, _, _, _, _, _, _, _, _, _, _, _, _, _, _, _, _, _, _, _, _, _, _, _, _, _, _, _, _, _, _, _, _, _, rfl, HX2, HI5⟩
   | true =>
    rw [hI] at his
    have HIT := Aside0.mk hI
    clear hI
    go_upto_region 7 with (go_at_call 65; refine (states_is.calls _ _ l0 _ _ l1 _ _ l2 _ _ l3 st x.1 x.2 true _ (Kd.C_below HR0.out HIb.out.hb) HC0.out (Kd.C_below HR1.out HIb.out.hb) HC1.out (Kd.C_below HR2.out HIb.out.hb) HC2.out (Kd.C_below HR3.out HIb.out.hb) HC3.out his).mono ?_; rintro e w5 ⟨rfl, hb⟩; have HI5 := Aside0.mk (Lm.below HIb.out hb); have BX5 := Aside0.mk (blk_below BX2.out hb); clear hb)
    clear z0 z1 z2 z3 z4 x0 x1 HIb BX2 hlk cb his
    have x0 : w5.cell? ⟨xb, 0, none⟩ = some (.int .i64 x.1) := blk_cell BX5.out 0
    have x1 : w5.cell? ⟨xb, 1, none⟩ = some (.int .i64 x.2) := blk_cell BX5.out 1
    obtain ⟨hmu, hmp⟩ := seen_put HI5.out.mp HSEEN.out HXR.out
    have HI6 := Aside0.mk (Lm.put HI5.out hmp)
    have BX6 := Aside0.mk (((Mp.put_heap w5 (w.heap.size + 1 + 1) (keyV x) (.bool true)).2 xb (by have := HH.out.2; omega)).trans BX5.out)
    unfold keyV at hmu HI6 BX6
    clear hmp
    go_upto_region 8 with fail
    clear hmu x0 x1 HI5 BX5
    generalize Mp.put w5 (w.heap.size + 1 + 1) (.agg #[.int .i64 x.1, .int .i64 x.2]) (.bool true) = W6 at *
    have x0 : W6.cell? ⟨xb, 0, none⟩ = some (.int .i64 x.1) := blk_cell BX6.out 0
    have x1 : W6.cell? ⟨xb, 1, none⟩ = some (.int .i64 x.2) := blk_cell BX6.out 1
    have HLEN := Aside0.mk (show (out.map ofI).length ≤ 1189003 by rw [List.length_map]; have := HX.out.small; have := HB.out.1; omega)
    have HXN := Aside0.mk (Fx.on HFEW.out HX.out HSEEN.out HIT.out)
    go_upto_region 9 with (first | ((with_reducible refine gate_builtin (b := .append) (xs := #[.tmp 31, .tmp 33]) rfl ?_); at_builtin; refine Kd.R_append k37 (w0 := W6) (w.heap.size + 3) rfl (.tmp 31) (.tmp 33) 28 37 (.agg #[(.int .i64 0), (.int .i64 0)]) 16 rfl Tryd.underlying28 info37 rfl (by decide) (by omega) u6 _ (⟨x.1, x.2⟩ : S37) [.int .i64 x.1, .int .i64 x.2] (fun k => w.heap.size + 3 ≤ k) (fun _ => False) rfl rfl ?aP (fun _ hk => hk.elim) ?aF HI6.out.ho (RowKit.Below.refl _ _) (Nat.le_trans HI6.out.hi3 HI6.out.hil) ?aL ?_; (case aP => exact k37_mkM _ _ _ (⟨x.1, x.2⟩ : S37)); (case aF => exact (fun k hk => Nat.le_trans (Nat.le_trans HI6.out.hi3 HI6.out.hil) hk)); (case aL => have := HLEN.out; omega); intro v7 w7 ho hb hg hat; have HI7 := Aside0.mk (Lm.app (x := x) HI6.out ho hg hat); have BX7 := Aside0.mk ((hg.block xb (blk_lt BX6.out) HXO.out).trans BX6.out); clear ho hb hg hat))
    clear x0 x1 HI6 BX6 HXO HLEN
    have x0 : w7.cell? ⟨xb, 0, none⟩ = some (.int .i64 x.1) := blk_cell BX7.out 0
    have x1 : w7.cell? ⟨xb, 1, none⟩ = some (.int .i64 x.2) := blk_cell BX7.out 1
    obtain ⟨z0, z1, z2, z3, z4⟩ := five5 HI7.out.bg
    have hbeh := behind_is (l0 := l0) (l1 := l1) HF.out x.1 x.2
    cases hb : behindL (gr st l3) (x.1, x.2) with
    | none =>
     rw [hb] at hbeh
     simp only at hbeh
     have hnx : q ++ nexts (gr st l3) x = q := by rw [nexts_none _ x (fun s hs => by rw [show x = (x.1, x.2) from rfl, hb] at hs; cases hs), List.append_nil]
     have HX8 := Aside0.mk (hnx ▸ HXN.out)
     clear hb hnx HXN
     go_wp2_with (go_at_call 35; refine (states_behind.calls _ _ l0 _ _ l1 _ _ l2 _ _ l3 st x.1 x.2 0 false _ (Kd.C_below HR0.out HI7.out.hb) HC0.out (Kd.C_below HR1.out HI7.out.hb) HC1.out (Kd.C_below HR2.out HI7.out.hb) HC2.out (Kd.C_below HR3.out HI7.out.hb) HC3.out hbeh).mono ?_; rintro e w8 ⟨rfl, hb⟩; have HI8 := Aside0.mk (Lm.below HI7.out hb); clear hb)
     exact ⟨k, Nat.lt_succ_self k, v7, out ++ [x], q, T, cq - 1, ds, hi, _, _, _, _, _, _, _, _, _, _, _, _, _, _, _, _, _, _, _, _, _, _, _, _, _, _, _, _, _, _, _, _, _, _, _, _, _, _, _, _, _, _, _, _, _, _, _, _, _, rfl, HX8, HI8⟩
    | some t =>
     rw [hb] at hbeh
     simp only at hbeh
     have hrg := behind_rng HF.out HSY.out hb
     by_cases hts : t < 0
     ·have hnx : nexts (gr st l3) x = ofSort (gr st l3) (-1 - t) l3.length := by rw [nexts_ofSort _ x t hb hts, gr_len]
      have HXN2 := Aside0.mk (hnx ▸ HXN.out)
      have hltb : decide (t < 0) = true := decide_eq_true hts
      have hw1 : IntKind.i64.wrap ((-1) - t) = -1 - t := IntWalk.i64_in _ (by omega)
      clear hb hnx HXN hrg
      go_upto_region 11 with (go_at_call 35; refine (states_behind.calls _ _ l0 _ _ l1 _ _ l2 _ _ l3 st x.1 x.2 t true _ (Kd.C_below HR0.out HI7.out.hb) HC0.out (Kd.C_below HR1.out HI7.out.hb) HC1.out (Kd.C_below HR2.out HI7.out.hb) HC2.out (Kd.C_below HR3.out HI7.out.hb) HC3.out hbeh).mono ?_; rintro e w8 ⟨rfl, hb⟩; have HI8 := Aside0.mk (Lm.below HI7.out hb); clear hb)
      clear x0 x1 z0 z1 z2 z3 z4 hbeh HI7 BX7
      have hcl := clone_calls T (cq - 1) (q.map ofI) w8 (by rw [List.length_map]; exact HI8.out.hq) (by rw [List.length_map]; have := HXN2.out.qlen; have := HB.out.2; rw [List.length_append] at *; omega)
      rw [List.length_map] at hcl
      have z1 := blk_cell HI8.out.bl 0
      simp only [List.getElem?_toArray, List.getElem?_cons_zero] at z1
      have f1 := blk_frozen HI8.out.bl 0
      go_upto_region 12 with (go_at_call 66; refine hcl.mono ?_; rintro e w9 ⟨v9, rfl, hR, hb⟩; have HB9 := Aside0.mk hb; obtain ⟨A9, c9, e9⟩ := Kd.R_slice hR; rw [List.length_map] at e9; subst e9; have HR9 := Aside0.mk hR; clear hR; have f1 := blk_frozen (blk_below HI8.out.bl hb) 0; have z9 : w9.cell? ⟨w.heap.size + 1, 0, none⟩ = some (.slice T q.length (cq - 1)) := blk_cell (blk_below HI8.out.bl hb) 0; clear hb)
      clear z1 f1 z9 hcl
      have hsz8 : w.heap.size + 3 ≤ w8.heap.size := Nat.le_trans HI8.out.hi3 HI8.out.hil
      have hrd := Kd.R_reads' HR9.out
      have HI9 := Aside0.mk (Lm.turn (Lm.below HI8.out HB9.out) (q' := q) (T := A9) (c' := c9) hrd.2.1 (by have h := hrd.2.2; rw [List.length_map] at h; exact h) (fun hq ad' e' => by
       have hb1 : (Value.slice A9 q.length c9).ownBlock = some ad'.block := by rw [e']; rfl
       have h1 := Kd.R_base HR9.out _ hb1
       refine ⟨Kd.R_lt HR9.out _ hb1, .inr (by omega), fun e'' => ?_⟩
       have h2 := Kd.R_lt HI8.out.ho _ e''.symm
       omega))
      have HO9 := Aside0.mk (Kd.R_far HR9.out (p := ⟨w.heap.size + 1, 0, none⟩) (fun k hk => by show k ≠ w.heap.size + 1; omega) (.slice A9 q.length c9))
      have HS9 := Aside0.mk (show w8.heap.size ≤ (w9.setCell ⟨w.heap.size + 1, 0, none⟩ (.slice A9 q.length c9)).heap.size by rw [World.size_setCell]; exact HB9.out.size)
      have HV7 := Aside0.mk (Kd.R_lt HI8.out.ho)
      have HI8s := Aside0.mk (And.intro HI8.out.hil hsz8)
      clear hrd hsz8 HR9 HB9 HI8
      generalize w9.setCell ⟨w.heap.size + 1, 0, none⟩ (.slice A9 q.length c9) = W9 at *
      generalize w8.heap.size = Bc at *
      obtain ⟨z0, z1, z2, z3, z4⟩ := five5 HI9.out.bg
      go_wp2_with (go_at_call 67; refine (begins_calls #[] rfl _ _ _ _ _ _ _ _ _ _ _ _ _ _ _).mono ?_; rintro e w10 ⟨rfl, rfl⟩)
      clear z0 z1 z2 z3 z4 f1
      have hsz0 : ((W9.alloc (Obj.cells #[.slice A0 l0.length c0, .slice A1 l1.length c1, .slice A2 l2.length c2, .slice A3 l3.length c3, .int .i64 st] 27)).alloc (Obj.cells #[.int .i64 (-1 - t)] 3)).heap.size = W9.heap.size + 2 := by simp
      have bN : Boxed ((W9.alloc (Obj.cells #[.slice A0 l0.length c0, .slice A1 l1.length c1, .slice A2 l2.length c2, .slice A3 l3.length c3, .int .i64 st] 27)).alloc (Obj.cells #[.int .i64 (-1 - t)] 3)) (W9.heap.size + 1) 3 (.int .i64 (-1 - t)) := by
       have h := Boxed.new (W9.alloc (Obj.cells #[.slice A0 l0.length c0, .slice A1 l1.length c1, .slice A2 l2.length c2, .slice A3 l3.length c3, .int .i64 st] 27)) 3 (.int .i64 (-1 - t))
       rw [World.size_alloc] at h
       exact h
      have hlt7 : ∀ k, v7.ownBlock = some k → k < W9.heap.size + 1 := fun k hk => by have := HV7.out k hk; have := HS9.out; omega
      have hhas : Has w #[.slice A0 l0.length c0, .slice A1 l1.length c1, .slice A2 l2.length c2, .slice A3 l3.length c3, .int .i64 st] hi (out ++ [x]) (out ++ [x]) q v7 ds Bc W9.heap.size [] ((W9.alloc (Obj.cells #[.slice A0 l0.length c0, .slice A1 l1.length c1, .slice A2 l2.length c2, .slice A3 l3.length c3, .int .i64 st] 27)).alloc (Obj.cells #[.int .i64 (-1 - t)] 3)) := by
       refine ⟨⟨A9, c9, ?_, ?_, ?_⟩, blk_alloc (blk_new W9 _) _, fun e => Nat.lt_irrefl _ (hlt7 _ e.symm), HV7.out, HI8s.out.1, HS9.out, Nat.le_of_eq hsz0.symm⟩
       ·rw [List.append_nil]
        exact Lm.below HI9.out (below_alloc (below_alloc (RowKit.Below.refl _ W9) _) _)
       ·rw [List.append_nil]
        exact own_of_R2 (Kd.R_alloc (Kd.R_alloc HO9.out _) _)
       ·rw [List.append_nil]
        exact fun e => by have := Kd.R_lt HO9.out _ e; omega
      refine (wpIn_wide (n := 4)).1 ?_
      obtain ⟨j37, hj37, hz0, hz1, hz2⟩ := info_parts info37
      refine range_box (F := Fence.wide) (n := 4) rfl (by omega) (gf := 85) (lb := #[.pointer (some ⟨W9.heap.size, 0, none⟩), .pointer (some ⟨W9.heap.size + 1, 0, none⟩)]) rfl trivial (enters_of Tryd.func85 (by kernel_rfl) rfl)
       (b := W9.heap.size + 1) (t := 3) (by rw [hsz0]; omega) (begins1 3 (by omega) A0 c0 l0.length A1 c1 l1.length A2 c2 l2.length A3 c3 l3 st W9.heap.size (W9.heap.size + 1) (-1 - t) HF.out.few _ bN) (fun _ => rfl)
       (Has w #[.slice A0 l0.length c0, .slice A1 l1.length c1, .slice A2 l2.length c2, .slice A3 l3.length c3, .int .i64 st] hi (out ++ [x]) (out ++ [x]) q v7 ds Bc W9.heap.size) (has_bears (Nat.le_of_eq hsz0.symm)) (fun s W h => ?gg)
       hhas (fun y g => { tmps := #[.agg #[.slice A0 l0.length c0, .slice A1 l1.length c1, .slice A2 l2.length c2, .slice A3 l3.length c3, .int .i64 st], .slice A l.length c, .pointer (some ⟨w.heap.size, 0, none⟩), .pointer (some ⟨w.heap.size + 1, 0, none⟩), .slice none 0 0, .map (some (w.heap.size + 1 + 1)), v7, .pointer (some ⟨xb, 0, none⟩), .int .i64 t, .bool true, .pointer (some ⟨g, 0, none⟩), .map (some (w.heap.size + 1 + 1)), .slice (some ad) (q.length + 1) cq, .int .i64 ((q.length : Int) + 1), .bool true, .slice (some ad) (q.length + 1) cq, .pointer (some ad), .agg #[.int .i64 x.1, .int .i64 x.2], .slice (some ad) (q.length + 1) cq, .slice T q.length (cq - 1), .map (some (w.heap.size + 1 + 1)), .agg #[.int .i64 x.1, .int .i64 x.2], .bool false, .bool false, .agg #[.slice A0 l0.length c0, .slice A1 l1.length c1, .slice A2 l2.length c2, .slice A3 l3.length c3, .int .i64 st], .agg #[.int .i64 x.1, .int .i64 x.2], .bool true, .bool false, .bool false, .map (some (w.heap.size + 1 + 1)), .agg #[.int .i64 x.1, .int .i64 x.2], u6, .agg #[.int .i64 x.1, .int .i64 x.2], .slice (some ⟨W6.heap.size, 0, none⟩) 1 1, v7, .tuple #[.int .i64 t, .bool true], .agg #[.slice A0 l0.length c0, .slice A1 l1.length c1, .slice A2 l2.length c2, .slice A3 l3.length c3, .int .i64 st], .agg #[.int .i64 x.1, .int .i64 x.2], .tuple #[.int .i64 t, .bool true], .int .i64 t, .bool true, .bool true, .bool true, .int .i64 t, .bool true, .bool true, .slice T q.length (cq - 1), .slice A9 q.length c9, .agg #[.slice A0 l0.length c0, .slice A1 l1.length c1, .slice A2 l2.length c2, .slice A3 l3.length c3, .int .i64 st], .int .i64 t, .int .i64 (-1 - t), .func (.func 85) #[] #[.pointer (some ⟨W9.heap.size, 0, none⟩), .pointer (some ⟨W9.heap.size + 1, 0, none⟩)], .agg #[.int .i64 y.1, .int .i64 y.2], u53, u54, u55, u56, undef, undef], defers := [] }) (fun y => .cells #[.int .i64 y.1, .int .i64 y.2] 37) (fun _ => rfl) ?assign ?body ?done
      case gg =>
       obtain ⟨A', c', hL, -, -⟩ := h.ex
       exact ⟨h.bx, Kd.C_below HR3.out hL.hb⟩
      case assign =>
       intro l y W K hK
       simp only [encY]
       gi_wp2
       exact hK
      case body =>
       rintro l pre y W g ⟨⟨A', c', hL, hO, hx⟩, hbx, hs, hcc, hhi, hgb, hlt⟩ hgw hgy hlen hbo
       have hqpe : ∃ qp, qp = q ++ pre := ⟨_, rfl⟩
       obtain ⟨qp, hqp⟩ := hqpe
       rw [← hqp] at hL hO hx
       have HQP := Aside0.mk hqp
       have zL := blk_cell hL.bl 0
       simp only [List.getElem?_toArray, List.getElem?_cons_zero] at zL
       have fL := blk_frozen hL.bl 0
       have y0 : W.cell? ⟨g, 0, none⟩ = some (.int .i64 y.1) := blk_cell hgy 0
       have y1 : W.cell? ⟨g, 1, none⟩ = some (.int .i64 y.2) := blk_cell hgy 1
       have hmax : qp.length ≤ 144000000 := by
        have := HXN2.out.qlen; have := HB.out.2
        rw [hqp, List.length_append]; rw [List.length_append] at *; omega
       clear hqp
       gi_wp2_with (gi_at_builtin; refine wpListIn_append_own _ rfl _ _ 28 rfl Bc 37 j37 (.agg #[(.int .i64 0), (.int .i64 0)]) 2 16 Tryd.underlying28 hj37 hz0 hz1 hz2 rfl (by decide) _ _ _ rfl (hO.alloc _) ⟨W.heap.size, 0, none⟩ 1 1 [.int .i64 y.1, .int .i64 y.2] rfl rfl (cell_two_new _ _ _ _) (by simp [Value.oneCell']) (by unfold maxLen; omega) (by omega) (by rw [World.size_alloc]; omega) ?_; intro v' w1 hown' hgrow _; obtain ⟨g', cap', rfl⟩ := ownsRow_succ hown'; obtain ⟨hA1, hA2, hA3, hA4⟩ := Has.app HQP.out hL hO hbx hs hcc hhi hgb hlt hbo y hown' hgrow; have HA1 := Aside0.mk hA1; have HA2 := Aside0.mk hA2; have HA3 := Aside0.mk hA3; have hc1 := hA4.cell; have hf1 := hA4.frozen; clear hA1 hA2 hA3)
       exact ⟨HA2.out _, HA3.out, HA1.out⟩
      case done =>
       rintro D W hD ⟨⟨A', c', hL, hO, hx⟩, hbx, hs, hcc, hhi, hgb, hlt⟩ hK
       rw [hsz0] at hD
       have h1 := HI8s.out; have h2 := HS9.out
       exact ⟨k, Nat.lt_succ_self k, v7, out ++ [x], _, A', c', _, D + 1, _, _, _, _, _, _, _, _, _, _, _, _, _, _, _, _, _, _, _, _, _, _, _, _, _, _, _, _, _, _, _, _, _, _, _, _, _, _, _, _, _, _, _, _, _, _, _, _, _, rfl, HXN2, ⟨⟨hL.hb, hL.bg, hL.bl, hL.qc, hL.hq, hL.mp, hL.ho, hL.ne, hL.mks.cons (by omega) (by omega) hK, blk_lt hK, by omega⟩⟩⟩
     ·have hnx : q ++ nexts (gr st l3) x = q := by rw [nexts_none _ x (fun s hs => by rw [show x = (x.1, x.2) from rfl, hb] at hs; cases hs; exact hts), List.append_nil]
      have HX8 := Aside0.mk (hnx ▸ HXN.out)
      have hltb : decide (t < 0) = false := decide_eq_false hts
      clear hb hnx HXN
      go_wp2_with (go_at_call 35; refine (states_behind.calls _ _ l0 _ _ l1 _ _ l2 _ _ l3 st x.1 x.2 t true _ (Kd.C_below HR0.out HI7.out.hb) HC0.out (Kd.C_below HR1.out HI7.out.hb) HC1.out (Kd.C_below HR2.out HI7.out.hb) HC2.out (Kd.C_below HR3.out HI7.out.hb) HC3.out hbeh).mono ?_; rintro e w8 ⟨rfl, hb⟩; have HI8 := Aside0.mk (Lm.below HI7.out hb); clear hb)
      exact ⟨k, Nat.lt_succ_self k, v7, out ++ [x], q, T, cq - 1, ds, hi, _, _, _, _, _, _, _, _, _, _, _, _, _, _, _, _, _, _, _, _, _, _, _, _, _, _, _, _, _, _, _, _, _, _, _, _, _, _, _, _, _, _, _, _, _, _, _, _, _, rfl, HX8, HI8⟩

/-- What states.closed answers: for items that may be. -/
def okI (x : S37) : Bool := decide ((-9223372036854775808 ≤ x.f0 ∧ x.f0 ≤ 9223372036854775807) ∧ (-9223372036854775808 ≤ x.f1 ∧ x.f1 ≤ 9223372036854775807))
def okP (p : S64) : Bool := p.f2.all fun s => decide (-9223372036854775808 ≤ s)
def states_closed.f (l0 : List S82) (l1 : List S101) (l2 : List ByteArray) (l3 : List S64) (st : Int) (l : List S37) : Option (List S37) :=
 if validB l0 l1 l2 l3 st = true ∧ l3.all okP = true ∧ l.length ≤ 1000000 ∧ l.all okI = true then some ((risen (closedL (gr st l3) (l.map toI))).map ofI) else none
theorem states_closed.calls (A0 : Option Addr) (c0 : Nat) (l0 : List S82) (A1 : Option Addr) (c1 : Nat) (l1 : List S101) (A2 : Option Addr) (c2 : Nat) (l2 : List ByteArray) (A3 : Option Addr) (c3 : Nat) (l3 : List S64) (st : Int) (A : Option Addr) (c : Nat) (l : List S37) (r : List S37) (w : World)
  (hr0 : Kd.C k82 w A0 l0.length l0) (hc0 : l0.length ≤ c0) (hr1 : Kd.C k101 w A1 l1.length l1) (hc1 : l1.length ≤ c1) (hr2 : Kd.C Kd.string w A2 l2.length l2) (hc2 : l2.length ≤ c2) (hr3 : Kd.C k64 w A3 l3.length l3) (hc3 : l3.length ≤ c3) (hr : Kd.C k37 w A l.length l) (hc : l.length ≤ c)
  (h : states_closed.f l0 l1 l2 l3 st l = some r) :
  Calls Tryd.prog 38 #[.agg #[.slice A0 l0.length c0, .slice A1 l1.length c1, .slice A2 l2.length c2, .slice A3 l3.length c3, .int .i64 st], .slice A l.length c] w fun e w' => ∃ v0_ : Value, e = .returned (v0_) ∧ Kd.R k37 37 w' w.heap.size (fun _ => True) v0_ r ∧ Below w.heap.size w w' := by
 unfold states_closed.f at h
 split at h
 ·rename_i hv
  obtain ⟨hv, h3, hl, ho⟩ := hv
  obtain rfl := Option.some.inj h
  refine callsIn_wide.1 (closed_in A0 c0 l0 A1 c1 l1 A2 c2 l2 A3 c3 l3 st A c l w hr0 hc0 hr1 hc1 hr2 hc2 hr3 hc3 hr hc (fits_of hv) (fun p hp s hs => ?_) hl (fun x hx => ?_))
  ·have h1 := List.all_eq_true.1 h3 p hp
   unfold okP at h1
   exact of_decide_eq_true (List.all_eq_true.1 h1 s hs)
  ·have h1 := List.all_eq_true.1 ho x hx
   unfold okI at h1
   have h2 := of_decide_eq_true h1
   exact h2
 ·cases h

end Go.Proofs.YtclollnicbcooaaDoor.P
end

section
namespace Go.Proofs.YtclollnicbcooaaDoor.P
open Go.RowKit Go.Proofs.YtclollnicbcooaaDoorW.PrintWords Go.Proofs.YtclollnicbcooaaDoorW.PrintLast Go.Proofs.YtclollnicbcooaaDoorW.PrintMore
attribute [local go_sem] max2_int min2_int max_two min_two max_three min_three max_four min_four   -- for this text's walks alone
set_option linter.unusedVariables false
set_option linter.unusedSimpArgs false

/-! ### cmp_Or_int: function 93 -/
def cmp_Or_int.l0 : Nat → Int → List Int → Int → Int → Option (Int)
 | 0, _, _, _, _ => none
 | k + 1, x3, x6, x7, x8 => if x8 < x7 then (if 0 ≤ x8 then (if x8 < (x6.length : Int) then (if (rd x6 x8) = x3 then (cmp_Or_int.l0 k x3 x6 x7 (wrap64 (x8 + 1))) else (some (rd x6 x8))) else (none)) else (none)) else (some x3)
def cmp_Or_int.f (k : Nat) (l0 : List Int) : Option (Int) := cmp_Or_int.l0 k 0 l0 (l0.length : Int) 0
/-! ### cmp_isNaN_int: function 109 -/
def cmp_isNaN_int.f (a0 : Int) : Option (Bool) := some (a0 != a0)
/-! ### cmp_Compare_int: function 94 -/
def cmp_Compare_int.f (a0 : Int) (a1 : Int) : Option (Int) := (cmp_isNaN_int.f a0).bind fun t126 => ((cmp_isNaN_int.f a1).bind fun t127 => (if t126 = true then (if t127 = true then (some 0) else (some (-1))) else (if t127 = true then (some 1) else (if a0 < a1 then (some (-1)) else (if a0 > a1 then (some 1) else (some 0))))))
/-! ### states_Close: function 18 -/
def states_Close.f (l0_0 : List (S82)) (l0_1 : List (S101)) (l0_2 : List ByteArray) (l0_3 : List (S64)) (a0_4 : Int) (l1 : List (S37)) : Option ((List (S37))) := (inst_Valid.f l0_0 l0_1 l0_2 l0_3 a0_4).bind fun t143 => (if t143 = true then ((states_closed.f l0_0 l0_1 l0_2 l0_3 a0_4 l1).bind fun t144 => (some t144)) else (some ([] : List (S37))))
set_option maxHeartbeats 8000000 in
set_option maxRecDepth 100000 in
theorem states_Close.calls (A0_0 : Option Addr) (c0_0 : Nat) (l0_0 : List (S82)) (A0_1 : Option Addr) (c0_1 : Nat) (l0_1 : List (S101)) (A0_2 : Option Addr) (c0_2 : Nat) (l0_2 : List ByteArray) (A0_3 : Option Addr) (c0_3 : Nat) (l0_3 : List (S64)) (a0_4 : Int) (A1 : Option Addr) (c1 : Nat) (l1 : List (S37)) (r : List (S37)) (w : World) (hr0_0 : Kd.C k82 w A0_0 l0_0.length l0_0) (hc0_0 : l0_0.length ≤ c0_0) (hr0_1 : Kd.C k101 w A0_1 l0_1.length l0_1) (hc0_1 : l0_1.length ≤ c0_1) (hr0_2 : Kd.C Kd.string w A0_2 l0_2.length l0_2) (hc0_2 : l0_2.length ≤ c0_2) (hr0_3 : Kd.C k64 w A0_3 l0_3.length l0_3) (hc0_3 : l0_3.length ≤ c0_3) (hr1 : Kd.C k37 w A1 l1.length l1) (hc1 : l1.length ≤ c1) (h : states_Close.f l0_0 l0_1 l0_2 l0_3 a0_4 l1 = some r) :
  Calls Tryd.prog 18 #[.agg #[.slice A0_0 l0_0.length c0_0, .slice A0_1 l0_1.length c0_1, .slice A0_2 l0_2.length c0_2, .slice A0_3 l0_3.length c0_3, .int .i64 a0_4], .slice A1 l1.length c1] w fun e w' => ∃ v0_ : Value, e = .returned (v0_) ∧ Kd.R k37 37 w' w.heap.size (fun _ => True) v0_ r ∧ Below w.heap.size w w' := by
 have hu27 := Tryd.underlying27
 have HR0_0 := Aside0.mk hr0_0
 have HC0_0 := Aside0.mk hc0_0
 clear hr0_0 hc0_0
 have HR0_1 := Aside0.mk hr0_1
 have HC0_1 := Aside0.mk hc0_1
 clear hr0_1 hc0_1
 have HR0_2 := Aside0.mk hr0_2
 have HC0_2 := Aside0.mk hc0_2
 clear hr0_2 hc0_2
 have HR0_3 := Aside0.mk hr0_3
 have HC0_3 := Aside0.mk hc0_3
 clear hr0_3 hc0_3
 have HR1 := Aside0.mk hr1
 have HC1 := Aside0.mk hc1
 clear hr1 hc1
 have HB := Aside0.mk (Below.refl w.heap.size w)
 have H : ((inst_Valid.f l0_0 l0_1 l0_2 l0_3 a0_4).bind fun t143 => (if t143 = true then ((states_closed.f l0_0 l0_1 l0_2 l0_3 a0_4 l1).bind fun t144 => (some t144)) else (some ([] : List (S37))))) = some r := h
 clear h
 replace H := Option.bind_eq_some_iff.mp H
 obtain ⟨t143, A30, H⟩ := H
 replace H : (if t143 = true then ((states_closed.f l0_0 l0_1 l0_2 l0_3 a0_4 l1).bind fun t144 => (some t144)) else (some ([] : List (S37)))) = some r := H
 have A3 := Aside0.mk A30
 clear A30
 by_cases c4 : t143 = true
 ·subst c4
  have H1 : ((states_closed.f l0_0 l0_1 l0_2 l0_3 a0_4 l1).bind fun t144 => (some t144)) = some r := by rw [if_pos rfl] at H; exact H
  clear H
  have H := H1
  clear H1
  replace H := Option.bind_eq_some_iff.mp H
  obtain ⟨t144, A50, H⟩ := H
  replace H : (some t144) = some r := H
  have A5 := Aside0.mk A50
  clear A50
  obtain rfl := Option.some.inj H
  go_enter Tryd.func18, Tryd.ntmps18
  go_wp2_with (first | ((with_reducible refine gate_dst (N := 2) rfl ?_); refine box_event ?hg (N := 2) ?hd (cs := #[.slice A0_0 l0_0.length c0_0, .slice A0_1 l0_1.length c0_1, .slice A0_2 l0_2.length c0_2, .slice A0_3 l0_3.length c0_3, .int .i64 a0_4]) (t := 27) ?hr ?_; (case hd => rfl); (case hg => rfl); (case hr => first | (go_simp; done) | (go_simp; rfl)); intro gb142 hg w6 hbox hb; have n0_ := Aside0.mk (below_step (by repeat (first | (with_reducible first | exact HB.out | apply below_alloc | apply pw_below_drewN | apply below_drew1) | exact HB.out)) hb); have n1_ := Aside0.mk (hbox); have n2_ := Aside0.mk ((by rw [hg]; exact (below_size (by repeat (first | (with_reducible first | exact HB.out | apply below_alloc | apply pw_below_drewN | apply below_drew1) | exact HB.out))) : w.heap.size ≤ gb142)); have n3_ := Aside0.mk ((by rw [hg]; exact (below_size (by repeat (first | (with_reducible first | exact HB.out | apply below_alloc | apply pw_below_drewN | apply below_drew1) | exact HB.out))) : w.heap.size ≤ gb142)); clear HB; have HB := n0_; have BK142 := n1_; have GW142 := n2_; have GE142 := n3_; clear n0_ n1_ n2_ n3_; clear hb hbox hg; have hcz7_0 : w6.cell? ⟨gb142, 0, none⟩ = some (.slice A0_0 l0_0.length c0_0) := (blk_cell BK142.out 0).trans rfl; have hcz7_1 : w6.cell? ⟨gb142, 1, none⟩ = some (.slice A0_1 l0_1.length c0_1) := (blk_cell BK142.out 1).trans rfl; have hcz7_2 : w6.cell? ⟨gb142, 2, none⟩ = some (.slice A0_2 l0_2.length c0_2) := (blk_cell BK142.out 2).trans rfl; have hcz7_3 : w6.cell? ⟨gb142, 3, none⟩ = some (.slice A0_3 l0_3.length c0_3) := (blk_cell BK142.out 3).trans rfl; have hcz7_4 : w6.cell? ⟨gb142, 4, none⟩ = some (.int .i64 a0_4) := (blk_cell BK142.out 4).trans rfl; have hfz7_0 := blk_frozen BK142.out 0; have hfz7_1 := blk_frozen BK142.out 1; have hfz7_2 := blk_frozen BK142.out 2; have hfz7_3 := blk_frozen BK142.out 3; have hfz7_4 := blk_frozen BK142.out 4) | ((with_reducible refine gate_callee (f := 34) rfl ?_); refine goesL_ (some 6) rfl rfl Tryd.func34 (by kernel_rfl) rfl #[.agg #[.slice A0_0 l0_0.length c0_0, .slice A0_1 l0_1.length c0_1, .slice A0_2 l0_2.length c0_2, .slice A0_3 l0_3.length c0_3, .int .i64 a0_4]] rfl (by (try simp only [List.map_toArray, List.map_cons, List.map_nil]); first | done | rfl | (simp only [List.length_drop, List.length_take]; rfl)) ?_; (with_reducible refine (inst_Valid.calls _ _ l0_0 _ _ l0_1 _ _ l0_2 _ _ l0_3 a0_4 true _ ?side1 ?side2 ?side3 ?side4 ?side5 ?side6 ?side7 ?side8 A3.out).mono ?_); (case side1 => repeat (first | exact (Kd.C_below HR0_0.out HB.out) | (with_reducible refine Kd.C_alloc ?_ _) | (with_reducible refine Kd.C_drewN ?_ _) | (with_reducible refine Kd.C_drew ?_))); (case side2 => exact HC0_0.out); (case side3 => repeat (first | exact (Kd.C_below HR0_1.out HB.out) | (with_reducible refine Kd.C_alloc ?_ _) | (with_reducible refine Kd.C_drewN ?_ _) | (with_reducible refine Kd.C_drew ?_))); (case side4 => exact HC0_1.out); (case side5 => repeat (first | exact (Kd.C_below HR0_2.out HB.out) | (with_reducible refine Kd.C_alloc ?_ _) | (with_reducible refine Kd.C_drewN ?_ _) | (with_reducible refine Kd.C_drew ?_))); (case side6 => exact HC0_2.out); (case side7 => repeat (first | exact (Kd.C_below HR0_3.out HB.out) | (with_reducible refine Kd.C_alloc ?_ _) | (with_reducible refine Kd.C_drewN ?_ _) | (with_reducible refine Kd.C_drew ?_))); (case side8 => exact HC0_3.out); rintro e w8 ⟨rfl, hb⟩; refine ⟨_, rfl, ?_⟩; have n0_ := Aside0.mk (blk_below (g := gb142) (o := .cells #[.slice A0_0 l0_0.length c0_0, .slice A0_1 l0_1.length c0_1, .slice A0_2 l0_2.length c0_2, .slice A0_3 l0_3.length c0_3, .int .i64 a0_4] 27 (0, 0)) (by (with_reducible repeat (first | refine blk_drewN ?_ _ | refine blk_drew ?_ | refine blk_alloc ?_ _)); exact BK142.out) hb); have n1_ := Aside0.mk (below_step (by repeat (first | (with_reducible first | exact HB.out | apply below_alloc | apply pw_below_drewN | apply below_drew1 | refine below_set ?_ GE142.out) | exact HB.out)) hb); clear BK142; clear HB; have BK142 := n0_; have HB := n1_; clear n0_ n1_; (try clear hb); (try clear hb2); (try clear hk); (try clear hi); have hcz9_0 : w8.cell? ⟨gb142, 0, none⟩ = some (.slice A0_0 l0_0.length c0_0) := (blk_cell BK142.out 0).trans rfl; have hcz9_1 : w8.cell? ⟨gb142, 1, none⟩ = some (.slice A0_1 l0_1.length c0_1) := (blk_cell BK142.out 1).trans rfl; have hcz9_2 : w8.cell? ⟨gb142, 2, none⟩ = some (.slice A0_2 l0_2.length c0_2) := (blk_cell BK142.out 2).trans rfl; have hcz9_3 : w8.cell? ⟨gb142, 3, none⟩ = some (.slice A0_3 l0_3.length c0_3) := (blk_cell BK142.out 3).trans rfl; have hcz9_4 : w8.cell? ⟨gb142, 4, none⟩ = some (.int .i64 a0_4) := (blk_cell BK142.out 4).trans rfl; have hfz9_0 := blk_frozen BK142.out 0; have hfz9_1 := blk_frozen BK142.out 1; have hfz9_2 := blk_frozen BK142.out 2; have hfz9_3 := blk_frozen BK142.out 3; have hfz9_4 := blk_frozen BK142.out 4) | ((with_reducible refine gate_callee (f := 38) rfl ?_); refine goesL_ (some 10) rfl rfl Tryd.func38 (by kernel_rfl) rfl #[.agg #[.slice A0_0 l0_0.length c0_0, .slice A0_1 l0_1.length c0_1, .slice A0_2 l0_2.length c0_2, .slice A0_3 l0_3.length c0_3, .int .i64 a0_4], .slice A1 l1.length c1] rfl (by (try simp only [List.map_toArray, List.map_cons, List.map_nil]); first | done | rfl | (simp only [List.length_drop, List.length_take]; rfl)) ?_; (with_reducible refine (states_closed.calls _ _ l0_0 _ _ l0_1 _ _ l0_2 _ _ l0_3 a0_4 _ _ l1 t144 _ ?side1 ?side2 ?side3 ?side4 ?side5 ?side6 ?side7 ?side8 ?side9 ?side10 A5.out).mono ?_); (case side1 => repeat (first | exact (Kd.C_below HR0_0.out HB.out) | (with_reducible refine Kd.C_alloc ?_ _) | (with_reducible refine Kd.C_drewN ?_ _) | (with_reducible refine Kd.C_drew ?_))); (case side2 => exact HC0_0.out); (case side3 => repeat (first | exact (Kd.C_below HR0_1.out HB.out) | (with_reducible refine Kd.C_alloc ?_ _) | (with_reducible refine Kd.C_drewN ?_ _) | (with_reducible refine Kd.C_drew ?_))); (case side4 => exact HC0_1.out); (case side5 => repeat (first | exact (Kd.C_below HR0_2.out HB.out) | (with_reducible refine Kd.C_alloc ?_ _) | (with_reducible refine Kd.C_drewN ?_ _) | (with_reducible refine Kd.C_drew ?_))); (case side6 => exact HC0_2.out); (case side7 => repeat (first | exact (Kd.C_below HR0_3.out HB.out) | (with_reducible refine Kd.C_alloc ?_ _) | (with_reducible refine Kd.C_drewN ?_ _) | (with_reducible refine Kd.C_drew ?_))); (case side8 => exact HC0_3.out); (case side9 => repeat (first | exact (Kd.C_below HR1.out HB.out) | (with_reducible refine Kd.C_alloc ?_ _) | (with_reducible refine Kd.C_drewN ?_ _) | (with_reducible refine Kd.C_drew ?_))); (case side10 => exact HC1.out); rintro e w10 ⟨v145, rfl, ho0, hb⟩; refine ⟨_, rfl, ?_⟩; have n0_ := Aside0.mk (Kd.R_lower ho0 (below_size (by repeat (first | (with_reducible first | exact HB.out | apply below_alloc | apply pw_below_drewN | apply below_drew1 | refine below_set ?_ GE142.out) | exact HB.out)))); have n1_ := Aside0.mk (blk_below (g := gb142) (o := .cells #[.slice A0_0 l0_0.length c0_0, .slice A0_1 l0_1.length c0_1, .slice A0_2 l0_2.length c0_2, .slice A0_3 l0_3.length c0_3, .int .i64 a0_4] 27 (0, 0)) (by (with_reducible repeat (first | refine blk_drewN ?_ _ | refine blk_drew ?_ | refine blk_alloc ?_ _)); exact BK142.out) hb); have n2_ := Aside0.mk (below_step (by repeat (first | (with_reducible first | exact HB.out | apply below_alloc | apply pw_below_drewN | apply below_drew1 | refine below_set ?_ GE142.out) | exact HB.out)) hb); clear BK142; clear HB; have HO146 := n0_; have BK142 := n1_; have HB := n2_; clear n0_ n1_ n2_; (try clear hb); (try clear hb2); (try clear hk); (try clear hi); (try clear ho0)))
  go_ret
  exact ⟨_, by first | rfl | (simp [errW_none, errW_some] <;> rfl) | (simp [*, errW_none, errW_some] <;> rfl), by (with_reducible repeat (first | apply Kd.R_alloc | apply Kd.R_drewN | apply Kd.R_drew)); exact HO146.out, by repeat (first | (with_reducible first | exact HB.out | apply below_alloc | apply pw_below_drewN | apply below_drew1 | refine below_set ?_ GE142.out) | exact HB.out)⟩
 ·replace c4 := Bool.eq_false_iff.mpr c4
  subst c4
  have H1 : (some ([] : List (S37))) = some r := by rw [if_neg (show ¬ (false = true) by decide)] at H; exact H
  clear H
  have H := H1
  clear H1
  obtain rfl := Option.some.inj H
  go_enter Tryd.func18, Tryd.ntmps18
  go_wp2_with (first | ((with_reducible refine gate_dst (N := 2) rfl ?_); refine box_event ?hg (N := 2) ?hd (cs := #[.slice A0_0 l0_0.length c0_0, .slice A0_1 l0_1.length c0_1, .slice A0_2 l0_2.length c0_2, .slice A0_3 l0_3.length c0_3, .int .i64 a0_4]) (t := 27) ?hr ?_; (case hd => rfl); (case hg => rfl); (case hr => first | (go_simp; done) | (go_simp; rfl)); intro gb142 hg w11 hbox hb; have n0_ := Aside0.mk (below_step (by repeat (first | (with_reducible first | exact HB.out | apply below_alloc | apply pw_below_drewN | apply below_drew1) | exact HB.out)) hb); have n1_ := Aside0.mk (hbox); have n2_ := Aside0.mk ((by rw [hg]; exact (below_size (by repeat (first | (with_reducible first | exact HB.out | apply below_alloc | apply pw_below_drewN | apply below_drew1) | exact HB.out))) : w.heap.size ≤ gb142)); have n3_ := Aside0.mk ((by rw [hg]; exact (below_size (by repeat (first | (with_reducible first | exact HB.out | apply below_alloc | apply pw_below_drewN | apply below_drew1) | exact HB.out))) : w.heap.size ≤ gb142)); clear HB; have HB := n0_; have BK142 := n1_; have GW142 := n2_; have GE142 := n3_; clear n0_ n1_ n2_ n3_; clear hb hbox hg; have hcz12_0 : w11.cell? ⟨gb142, 0, none⟩ = some (.slice A0_0 l0_0.length c0_0) := (blk_cell BK142.out 0).trans rfl; have hcz12_1 : w11.cell? ⟨gb142, 1, none⟩ = some (.slice A0_1 l0_1.length c0_1) := (blk_cell BK142.out 1).trans rfl; have hcz12_2 : w11.cell? ⟨gb142, 2, none⟩ = some (.slice A0_2 l0_2.length c0_2) := (blk_cell BK142.out 2).trans rfl; have hcz12_3 : w11.cell? ⟨gb142, 3, none⟩ = some (.slice A0_3 l0_3.length c0_3) := (blk_cell BK142.out 3).trans rfl; have hcz12_4 : w11.cell? ⟨gb142, 4, none⟩ = some (.int .i64 a0_4) := (blk_cell BK142.out 4).trans rfl; have hfz12_0 := blk_frozen BK142.out 0; have hfz12_1 := blk_frozen BK142.out 1; have hfz12_2 := blk_frozen BK142.out 2; have hfz12_3 := blk_frozen BK142.out 3; have hfz12_4 := blk_frozen BK142.out 4) | ((with_reducible refine gate_callee (f := 34) rfl ?_); refine goesL_ (some 6) rfl rfl Tryd.func34 (by kernel_rfl) rfl #[.agg #[.slice A0_0 l0_0.length c0_0, .slice A0_1 l0_1.length c0_1, .slice A0_2 l0_2.length c0_2, .slice A0_3 l0_3.length c0_3, .int .i64 a0_4]] rfl (by (try simp only [List.map_toArray, List.map_cons, List.map_nil]); first | done | rfl | (simp only [List.length_drop, List.length_take]; rfl)) ?_; (with_reducible refine (inst_Valid.calls _ _ l0_0 _ _ l0_1 _ _ l0_2 _ _ l0_3 a0_4 false _ ?side1 ?side2 ?side3 ?side4 ?side5 ?side6 ?side7 ?side8 A3.out).mono ?_); (case side1 => repeat (first | exact (Kd.C_below HR0_0.out HB.out) | (with_reducible refine Kd.C_alloc ?_ _) | (with_reducible refine Kd.C_drewN ?_ _) | (with_reducible refine Kd.C_drew ?_))); (case side2 => exact HC0_0.out); (case side3 => repeat (first | exact (Kd.C_below HR0_1.out HB.out) | (with_reducible refine Kd.C_alloc ?_ _) | (with_reducible refine Kd.C_drewN ?_ _) | (with_reducible refine Kd.C_drew ?_))); (case side4 => exact HC0_1.out); (case side5 => repeat (first | exact (Kd.C_below HR0_2.out HB.out) | (with_reducible refine Kd.C_alloc ?_ _) | (with_reducible refine Kd.C_drewN ?_ _) | (with_reducible refine Kd.C_drew ?_))); (case side6 => exact HC0_2.out); (case side7 => repeat (first | exact (Kd.C_below HR0_3.out HB.out) | (with_reducible refine Kd.C_alloc ?_ _) | (with_reducible refine Kd.C_drewN ?_ _) | (with_reducible refine Kd.C_drew ?_))); (case side8 => exact HC0_3.out); rintro e w13 ⟨rfl, hb⟩; refine ⟨_, rfl, ?_⟩; have n0_ := Aside0.mk (blk_below (g := gb142) (o := .cells #[.slice A0_0 l0_0.length c0_0, .slice A0_1 l0_1.length c0_1, .slice A0_2 l0_2.length c0_2, .slice A0_3 l0_3.length c0_3, .int .i64 a0_4] 27 (0, 0)) (by (with_reducible repeat (first | refine blk_drewN ?_ _ | refine blk_drew ?_ | refine blk_alloc ?_ _)); exact BK142.out) hb); have n1_ := Aside0.mk (below_step (by repeat (first | (with_reducible first | exact HB.out | apply below_alloc | apply pw_below_drewN | apply below_drew1 | refine below_set ?_ GE142.out) | exact HB.out)) hb); clear BK142; clear HB; have BK142 := n0_; have HB := n1_; clear n0_ n1_; (try clear hb); (try clear hb2); (try clear hk); (try clear hi)))
  go_ret
  exact ⟨_, by first | rfl | (simp [errW_none, errW_some] <;> rfl) | (simp [*, errW_none, errW_some] <;> rfl), by first | exact Kd.R_nil _ _ _ _ _ | exact Kd.N_nil _ _ _ _ _ | exact Kd.V_nil _ _ _ _ _ | exact Kd.Q_nil _ _ _ _ _ | exact Kd.S_nil _ _ _ _ _, by repeat (first | (with_reducible first | exact HB.out | apply below_alloc | apply pw_below_drewN | apply below_drew1 | refine below_set ?_ GE142.out) | exact HB.out)⟩

end Go.Proofs.YtclollnicbcooaaDoor.P
end

section
namespace Go.Proofs.YtclollnicbcooaaDoor.P
open Go.RowKit Go.Proofs.YtclollnicbcooaaDoorW.PrintWords Go.Proofs.YtclollnicbcooaaDoorW.PrintLast Go.Proofs.YtclollnicbcooaaDoorW.PrintMore
attribute [local go_sem] max2_int min2_int max_two min_two max_three min_three max_four min_four   -- for this text's walks alone
set_option linter.unusedVariables false
set_option linter.unusedSimpArgs false

-- NOT PRINTED: function 48 (look_rows)

/-! ### look_Done: function 46 -/
def look_Done.l0 : Nat → List Int → Int → Int → List (S82) → List (S101) → List ByteArray → List (S64) → Int → List (S37) → List Int → Option (List Int)
  | 0, _, _, _, _, _, _, _, _, _, _ => none
  | k + 1, x5, x17, x18, x192000, x192001, x192002, x192003, x192004, x193000, x193001 => if x18 < x17 then (if 0 ≤ x18 then (if x18 < (x193000.length : Int) then ((states_Behind.f x192000 x192001 x192002 x192003 x192004 ((rd_T37 x193000 x18).f0) ((rd_T37 x193000 x18).f1)).bind fun bt195 => ((states_Close.f x192000 x192001 x192002 x192003 x192004 (([(⟨(rd_T37 x193000 x18).f0, (rd_T37 x193000 x18).f1⟩ : S37)] : List (S37)))).bind fun t200 => (if bt195.2 = true then (look_Done.l0 k x5 x17 (wrap64 (x18 + 1)) x192000 x192001 x192002 x192003 x192004 x193000 x193001) else (if (t200.length : Int) > 0 then (if x18 < (x193001.length : Int) then (if (rd x193001 x18) = 0 then (look_Done.l0 k x5 x17 (wrap64 (x18 + 1)) x192000 x192001 x192002 x192003 x192004 x193000 x193001) else (if x5.length < 17592186044416 then (look_Done.l0 k (x5 ++ [(rd_T37 x193000 x18).f0]) x17 (wrap64 (x18 + 1)) x192000 x192001 x192002 x192003 x192004 x193000 x193001) else (none))) else (none)) else (look_Done.l0 k x5 x17 (wrap64 (x18 + 1)) x192000 x192001 x192002 x192003 x192004 x193000 x193001))))) else (none)) else (none)) else (some x5)
def look_Done.f (k : Nat) (l0_0 : List (S82)) (l0_1 : List (S101)) (l0_2 : List ByteArray) (l0_3 : List (S64)) (a0_4 : Int) (l1_0 : List (S37)) (l1_1 : List Int) : Option (List Int) := look_Done.l0 k ([] : List Int) (mn (l1_0.length : Int) (l1_1.length : Int)) 0 l0_0 l0_1 l0_2 l0_3 a0_4 l1_0 l1_1
set_option maxHeartbeats 8000000 in
set_option maxRecDepth 100000 in
theorem look_Done.calls (k : Nat) (A0_0 : Option Addr) (c0_0 : Nat) (l0_0 : List (S82)) (A0_1 : Option Addr) (c0_1 : Nat) (l0_1 : List (S101)) (A0_2 : Option Addr) (c0_2 : Nat) (l0_2 : List ByteArray) (A0_3 : Option Addr) (c0_3 : Nat) (l0_3 : List (S64)) (a0_4 : Int) (A1_0 : Option Addr) (c1_0 : Nat) (l1_0 : List (S37)) (A1_1 : Option Addr) (c1_1 : Nat) (l1_1 : List Int) (r : List Int) (w : World) (hr0_0 : Kd.C k82 w A0_0 l0_0.length l0_0) (hc0_0 : l0_0.length ≤ c0_0) (hr0_1 : Kd.C k101 w A0_1 l0_1.length l0_1) (hc0_1 : l0_1.length ≤ c0_1) (hr0_2 : Kd.C Kd.string w A0_2 l0_2.length l0_2) (hc0_2 : l0_2.length ≤ c0_2) (hr0_3 : Kd.C k64 w A0_3 l0_3.length l0_3) (hc0_3 : l0_3.length ≤ c0_3) (hr1_0 : Kd.C k37 w A1_0 l1_0.length l1_0) (hc1_0 : l1_0.length ≤ c1_0) (hr1_1 : Kd.C (Kd.int .u64) w A1_1 l1_1.length l1_1) (hc1_1 : l1_1.length ≤ c1_1) (h : look_Done.f k l0_0 l0_1 l0_2 l0_3 a0_4 l1_0 l1_1 = some r) :
    Calls Tryd.prog 46 #[.agg #[.slice A0_0 l0_0.length c0_0, .slice A0_1 l0_1.length c0_1, .slice A0_2 l0_2.length c0_2, .slice A0_3 l0_3.length c0_3, .int .i64 a0_4], .agg #[.slice A1_0 l1_0.length c1_0, .slice A1_1 l1_1.length c1_1]] w fun e w' => ∃ v0_ : Value, e = .returned (v0_) ∧ Kd.R (Kd.int .i64) 3 w' w.heap.size (fun _ => True) v0_ r ∧ Below w.heap.size w w' := by
  have hu27 := Tryd.underlying27
  have hu74 := Tryd.underlying74
  have hu37 := Tryd.underlying37
  have HR0_0 := Aside0.mk hr0_0
  have HC0_0 := Aside0.mk hc0_0
  clear hr0_0 hc0_0
  have HR0_1 := Aside0.mk hr0_1
  have HC0_1 := Aside0.mk hc0_1
  clear hr0_1 hc0_1
  have HR0_2 := Aside0.mk hr0_2
  have HC0_2 := Aside0.mk hc0_2
  clear hr0_2 hc0_2
  have HR0_3 := Aside0.mk hr0_3
  have HC0_3 := Aside0.mk hc0_3
  clear hr0_3 hc0_3
  have HR1_0 := Aside0.mk hr1_0
  have HC1_0 := Aside0.mk hc1_0
  clear hr1_0 hc1_0
  have HR1_1 := Aside0.mk hr1_1
  have HC1_1 := Aside0.mk hc1_1
  clear hr1_1 hc1_1
  have HB := Aside0.mk (Below.refl w.heap.size w)
  have H : (look_Done.l0 k ([] : List Int) (mn (l1_0.length : Int) (l1_1.length : Int)) 0 l0_0 l0_1 l0_2 l0_3 a0_4 l1_0 l1_1) = some r := h
  clear h
  obtain ⟨ji3, hji3⟩ : ∃ j_ : Int, (mn (l1_0.length : Int) (l1_1.length : Int)) = j_ := ⟨_, rfl⟩
  replace H : (look_Done.l0 k ([] : List Int) ji3 0 l0_0 l0_1 l0_2 l0_3 a0_4 l1_0 l1_1) = some r := by first | (rw [hji3] at H; exact H) | (simp only [hji3] at H ⊢; exact H)
  (try (have hji3l : 0 ≤ ji3 := by (rw [← hji3]; unfold mn; (repeat' split) <;> omega)))
  (try (have hji3m : 0 ≤ ji3 := by omega))
  have hji3_ : (if (l1_1.length : Int) < (l1_0.length : Int) then (l1_1.length : Int) else (l1_0.length : Int)) = ji3 := hji3
  have H' := Aside0.mk H
  clear H
  go_enter Tryd.func46, Tryd.ntmps46
  go_wp2_with (first | ((with_reducible refine gate_dst (N := 2) rfl ?_); (try (refine gate_guard (by rfl) ?_; dsimp only)); refine box_event ?hg (N := 2) ?hd (cs := #[.slice A0_0 l0_0.length c0_0, .slice A0_1 l0_1.length c0_1, .slice A0_2 l0_2.length c0_2, .slice A0_3 l0_3.length c0_3, .int .i64 a0_4]) (t := 27) ?hr ?_; (case hd => rfl); (case hg => rfl); (case hr => first | (go_simp; done) | (go_simp; rfl)); intro gb191 hg w4 hbox hb; have n0_ := Aside0.mk (below_step (by repeat (first | (with_reducible first | exact HB.out | apply below_alloc | apply pw_below_drewN | apply below_drew1) | exact HB.out)) hb); have n1_ := Aside0.mk (hbox); have n2_ := Aside0.mk ((by rw [hg]; exact (below_size (by repeat (first | (with_reducible first | exact HB.out | apply below_alloc | apply pw_below_drewN | apply below_drew1) | exact HB.out))) : w.heap.size ≤ gb191)); have n3_ := Aside0.mk ((by rw [hg]; exact (below_size (by repeat (first | (with_reducible first | exact HB.out | apply below_alloc | apply pw_below_drewN | apply below_drew1) | exact HB.out))) : w.heap.size ≤ gb191)); clear HB; have HB := n0_; have BK191 := n1_; have GW191 := n2_; have GE191 := n3_; clear n0_ n1_ n2_ n3_; clear hb hbox hg) | ((with_reducible refine gate_dst (N := 3) rfl ?_); (try (refine gate_guard (by rfl) ?_; dsimp only)); refine box_event ?hg (N := 3) ?hd (cs := #[.slice A1_0 l1_0.length c1_0, .slice A1_1 l1_1.length c1_1]) (t := 74) ?hr ?_; (case hd => rfl); (case hg => rfl); (case hr => first | (go_simp; done) | (go_simp; rfl)); intro gb192 hg w5 hbox hb; have n0_ := Aside0.mk (blk_below (g := gb191) (o := .cells #[.slice A0_0 l0_0.length c0_0, .slice A0_1 l0_1.length c0_1, .slice A0_2 l0_2.length c0_2, .slice A0_3 l0_3.length c0_3, .int .i64 a0_4] 27 (0, 0)) (by (with_reducible repeat (first | refine blk_drewN ?_ _ | refine blk_drew ?_ | refine blk_alloc ?_ _)); exact BK191.out) hb); have n1_ := Aside0.mk (below_step (by repeat (first | (with_reducible first | exact HB.out | apply below_alloc | apply pw_below_drewN | apply below_drew1 | refine below_set ?_ GE191.out) | exact HB.out)) hb); have n2_ := Aside0.mk (hbox); have n3_ := Aside0.mk ((by rw [hg]; exact (below_size (by repeat (first | (with_reducible first | exact HB.out | apply below_alloc | apply pw_below_drewN | apply below_drew1 | refine below_set ?_ GE191.out) | exact HB.out))) : w.heap.size ≤ gb192)); have n4_ := Aside0.mk ((by rw [hg]; exact (below_size (by repeat (first | (with_reducible first | exact HB.out | apply below_alloc | apply pw_below_drewN | apply below_drew1 | refine below_set ?_ GE191.out) | exact HB.out))) : w.heap.size ≤ gb192)); have n5_ := Aside0.mk ((by rw [hg]; exact Nat.ne_of_lt (blk_lt (g := gb191) (o := .cells #[.slice A0_0 l0_0.length c0_0, .slice A0_1 l0_1.length c0_1, .slice A0_2 l0_2.length c0_2, .slice A0_3 l0_3.length c0_3, .int .i64 a0_4] 27 (0, 0)) (by (with_reducible repeat (first | refine blk_drewN ?_ _ | refine blk_drew ?_ | refine blk_alloc ?_ _)); exact BK191.out)) : gb191 ≠ gb192)); have n6_ := Aside0.mk ((by rw [hg]; exact Nat.ne_of_gt (blk_lt (g := gb191) (o := .cells #[.slice A0_0 l0_0.length c0_0, .slice A0_1 l0_1.length c0_1, .slice A0_2 l0_2.length c0_2, .slice A0_3 l0_3.length c0_3, .int .i64 a0_4] 27 (0, 0)) (by (with_reducible repeat (first | refine blk_drewN ?_ _ | refine blk_drew ?_ | refine blk_alloc ?_ _)); exact BK191.out)) : gb192 ≠ gb191)); clear BK191; clear HB; have BK191 := n0_; have HB := n1_; have BK192 := n2_; have GW192 := n3_; have GE192 := n4_; have NB191_192 := n5_; have NB192_191 := n6_; clear n0_ n1_ n2_ n3_ n4_ n5_ n6_; clear hb hbox hg; have hnb6 := NB192_191.out; have hnc6 := NB191_192.out; have hcz7_0 : w5.cell? ⟨gb192, 0, none⟩ = some (.slice A1_0 l1_0.length c1_0) := (blk_cell BK192.out 0).trans rfl; have hcz7_1 : w5.cell? ⟨gb192, 1, none⟩ = some (.slice A1_1 l1_1.length c1_1) := (blk_cell BK192.out 1).trans rfl; have hfz7_0 := blk_frozen BK192.out 0; have hfz7_1 := blk_frozen BK192.out 1))
  all_goals
    first
      | (have hq_ : ((l1_1.length : Nat) : Int) = ji3 := by rw [← hji3_, if_pos (by omega)]
         rw [hq_]; clear hq_)
      | (have hq_ : ((l1_0.length : Nat) : Int) = ji3 := by rw [← hji3_, if_neg (by omega)]
         rw [hq_]; clear hq_)
    go_loopg [5, 18] k (fun kq v5 v18 w' => ∃ (x5_1 : List Int) (x18_1 : Int), v18 = .int .i64 x18_1 ∧ Aside0 (look_Done.l0 kq x5_1 ji3 x18_1 l0_0 l0_1 l0_2 l0_3 a0_4 l1_0 l1_1 = some r) ∧ Aside0 (kq ≤ k) ∧ Aside0 (Kd.R (Kd.int .i64) 3 w' w.heap.size (fun _ => True) v5 x5_1) ∧ Aside0 (w'.heap[gb191]? = some (.cells #[(.slice A0_0 l0_0.length c0_0), (.slice A0_1 l0_1.length c0_1), (.slice A0_2 l0_2.length c0_2), (.slice A0_3 l0_3.length c0_3), .int .i64 a0_4] 27 (0, 0))) ∧ Aside0 (w'.heap[gb192]? = some (.cells #[(.slice A1_0 l1_0.length c1_0), (.slice A1_1 l1_1.length c1_1)] 74 (0, 0))) ∧ Aside0 (Below w.heap.size w w'))
    case atStart => exact ⟨(([] : List Int)), (0), (by first | rfl | (simp; done) | (simp [*]; done)), H', ⟨Nat.le_refl _⟩, ⟨by first | exact Kd.R_nil _ _ _ _ _ | exact Kd.N_nil _ _ _ _ _ | exact Kd.V_nil _ _ _ _ _ | exact Kd.Q_nil _ _ _ _ _ | exact Kd.S_nil _ _ _ _ _⟩, ⟨by (with_reducible repeat (first | refine blk_drewN ?_ _ | refine blk_drew ?_ | refine blk_alloc ?_ _)); exact BK191.out⟩, ⟨by (with_reducible repeat (first | refine blk_drewN ?_ _ | refine blk_drew ?_ | refine blk_alloc ?_ _)); exact BK192.out⟩, ⟨by repeat (first | (with_reducible first | exact HB.out | apply below_alloc | apply pw_below_drewN | apply below_drew1 | refine below_set ?_ GE191.out | refine below_set ?_ GE192.out) | exact HB.out)⟩⟩
    case round =>
      clear H'
      try clear c1
      try clear p2
      try clear c4
      try clear c6
      try clear hcz7_0
      try clear hcz7_1
      try clear hfz7_0
      try clear hfz7_1
      obtain ⟨x5_1, x18_1, rfl, HA, HK1, HO_5, BK191, BK192, HB⟩ := hrel
      cases gk with
      | zero => exact absurd HA.out (by simp [look_Done.l0])
      | succ k1 =>
        have H := HA.out
        clear HA
        simp only [look_Done.l0] at H
        by_cases c8 : x18_1 < ji3
        · rw [if_pos c8] at H
          have c8b0 : decide (x18_1 < ji3) = true := decide_eq_true c8
          clear c8
          by_cases c9 : 0 ≤ x18_1
          · rw [if_pos c9] at H
            have c9b0 : decide (0 ≤ x18_1) = true := decide_eq_true c9
            clear c9
            by_cases c10 : x18_1 < (l1_0.length : Int)
            · rw [if_pos c10] at H
              have c10b0 : decide (x18_1 < (l1_0.length : Int)) = true := decide_eq_true c10
              clear c10
              replace H := Option.bind_eq_some_iff.mp H
              obtain ⟨⟨t195, t196⟩, A110, H⟩ := H
              replace H : ((states_Close.f l0_0 l0_1 l0_2 l0_3 a0_4 (([(⟨(rd_T37 l1_0 x18_1).f0, (rd_T37 l1_0 x18_1).f1⟩ : S37)] : List (S37)))).bind fun t200 => (if t196 = true then (look_Done.l0 k1 x5_1 ji3 (wrap64 (x18_1 + 1)) l0_0 l0_1 l0_2 l0_3 a0_4 l1_0 l1_1) else (if (t200.length : Int) > 0 then (if x18_1 < (l1_1.length : Int) then (if (rd l1_1 x18_1) = 0 then (look_Done.l0 k1 x5_1 ji3 (wrap64 (x18_1 + 1)) l0_0 l0_1 l0_2 l0_3 a0_4 l1_0 l1_1) else (if x5_1.length < 17592186044416 then (look_Done.l0 k1 (x5_1 ++ [(rd_T37 l1_0 x18_1).f0]) ji3 (wrap64 (x18_1 + 1)) l0_0 l0_1 l0_2 l0_3 a0_4 l1_0 l1_1) else (none))) else (none)) else (look_Done.l0 k1 x5_1 ji3 (wrap64 (x18_1 + 1)) l0_0 l0_1 l0_2 l0_3 a0_4 l1_0 l1_1)))) = some r := H
              have A11 := Aside0.mk A110
              clear A110
              obtain ⟨y197, hy197⟩ : ∃ y_ : List (S37), y_ = (([(⟨(rd_T37 l1_0 x18_1).f0, (rd_T37 l1_0 x18_1).f1⟩ : S37)] : List (S37))) := ⟨_, rfl⟩
              replace H : ((states_Close.f l0_0 l0_1 l0_2 l0_3 a0_4 y197).bind fun t200 => (if t196 = true then (look_Done.l0 k1 x5_1 ji3 (wrap64 (x18_1 + 1)) l0_0 l0_1 l0_2 l0_3 a0_4 l1_0 l1_1) else (if (t200.length : Int) > 0 then (if x18_1 < (l1_1.length : Int) then (if (rd l1_1 x18_1) = 0 then (look_Done.l0 k1 x5_1 ji3 (wrap64 (x18_1 + 1)) l0_0 l0_1 l0_2 l0_3 a0_4 l1_0 l1_1) else (if x5_1.length < 17592186044416 then (look_Done.l0 k1 (x5_1 ++ [(rd_T37 l1_0 x18_1).f0]) ji3 (wrap64 (x18_1 + 1)) l0_0 l0_1 l0_2 l0_3 a0_4 l1_0 l1_1) else (none))) else (none)) else (look_Done.l0 k1 x5_1 ji3 (wrap64 (x18_1 + 1)) l0_0 l0_1 l0_2 l0_3 a0_4 l1_0 l1_1)))) = some r := by first | (rw [hy197]; with_reducible exact H) | (have H2_ := (Option.bind_some _ _).symm.trans H; rw [hy197]; with_reducible exact H2_) | (have H2_ := (Option.bind_some _ _).symm.trans H; with_reducible exact H2_) | with_reducible exact H | (rw [hy197]; exact H) | exact H
              have Ny197 := Aside0.mk hy197
              clear hy197
              replace H := Option.bind_eq_some_iff.mp H
              obtain ⟨t200, A120, H⟩ := H
              replace H : (if t196 = true then (look_Done.l0 k1 x5_1 ji3 (wrap64 (x18_1 + 1)) l0_0 l0_1 l0_2 l0_3 a0_4 l1_0 l1_1) else (if (t200.length : Int) > 0 then (if x18_1 < (l1_1.length : Int) then (if (rd l1_1 x18_1) = 0 then (look_Done.l0 k1 x5_1 ji3 (wrap64 (x18_1 + 1)) l0_0 l0_1 l0_2 l0_3 a0_4 l1_0 l1_1) else (if x5_1.length < 17592186044416 then (look_Done.l0 k1 (x5_1 ++ [(rd_T37 l1_0 x18_1).f0]) ji3 (wrap64 (x18_1 + 1)) l0_0 l0_1 l0_2 l0_3 a0_4 l1_0 l1_1) else (none))) else (none)) else (look_Done.l0 k1 x5_1 ji3 (wrap64 (x18_1 + 1)) l0_0 l0_1 l0_2 l0_3 a0_4 l1_0 l1_1))) = some r := H
              have A12 := Aside0.mk A120
              clear A120
              by_cases c13 : t196 = true
              · subst c13
                have H1 : (look_Done.l0 k1 x5_1 ji3 (wrap64 (x18_1 + 1)) l0_0 l0_1 l0_2 l0_3 a0_4 l1_0 l1_1) = some r := by rw [if_pos rfl] at H; exact H
                clear H
                have H := H1
                clear H1
                have H' := Aside0.mk H
                clear H
                have hnb14 := NB192_191.out
                have hnc14 := NB191_192.out
                have hcz15_0 : wr.cell? ⟨gb192, 0, none⟩ = some (.slice A1_0 l1_0.length c1_0) := (blk_cell BK192.out 0).trans rfl
                have hcz15_1 : wr.cell? ⟨gb192, 1, none⟩ = some (.slice A1_1 l1_1.length c1_1) := (blk_cell BK192.out 1).trans rfl
                have hfz15_0 := blk_frozen BK192.out 0
                have hfz15_1 := blk_frozen BK192.out 1
                have p193 : 0 ≤ (x18_1 : Int) := of_decide_eq_true (by first | (with_reducible assumption) | assumption)
                have q193 : x18_1 < (l1_0.length : Int) := of_decide_eq_true (by first | (with_reducible assumption) | assumption)
                obtain ⟨ad193, e193, hx193_0, hx193_1⟩ := at_T37 HR1_0.out x18_1 p193 q193
                cases e193
                replace hx193_0 := (HB.out.cell (World.block_lt_of_cell? w _ hx193_0)).trans hx193_0
                replace hx193_1 := (HB.out.cell (World.block_lt_of_cell? w _ hx193_1)).trans hx193_1
                replace p193 := eq_true p193
                replace q193 := eq_true q193
                go_wp2_with (first | ((with_reducible refine gate_dst (N := 7) rfl ?_); (try (refine gate_guard (by rfl) ?_; dsimp only)); refine box_event ?hg (N := 7) ?hd (cs := #[.int .i64 0, .int .i64 0]) (t := 37) ?hr ?_; (case hd => rfl); (case hg => rfl); (case hr => first | (go_simp; done) | (go_simp; rfl)); intro gb194 hg w16 hbox hb; have n0_ := Aside0.mk (Kd.R_below (by (with_reducible repeat (first | apply Kd.R_alloc | apply Kd.R_drewN | apply Kd.R_drew)); exact HO_5.out) hb); have n1_ := Aside0.mk (blk_below (g := gb191) (o := .cells #[.slice A0_0 l0_0.length c0_0, .slice A0_1 l0_1.length c0_1, .slice A0_2 l0_2.length c0_2, .slice A0_3 l0_3.length c0_3, .int .i64 a0_4] 27 (0, 0)) (by (with_reducible repeat (first | refine blk_drewN ?_ _ | refine blk_drew ?_ | refine blk_alloc ?_ _)); exact BK191.out) hb); have n2_ := Aside0.mk (blk_below (g := gb192) (o := .cells #[.slice (some ad193) l1_0.length c1_0, .slice A1_1 l1_1.length c1_1] 74 (0, 0)) (by (with_reducible repeat (first | refine blk_drewN ?_ _ | refine blk_drew ?_ | refine blk_alloc ?_ _)); exact BK192.out) hb); have n3_ := Aside0.mk (below_step (by repeat (first | (with_reducible first | exact HB.out | apply below_alloc | apply pw_below_drewN | apply below_drew1 | refine below_set ?_ GE191.out | refine below_set ?_ GE192.out) | exact HB.out)) hb); have n4_ := Aside0.mk (hbox); have n5_ := Aside0.mk ((by rw [hg]; exact (below_size (by repeat (first | (with_reducible first | exact HB.out | apply below_alloc | apply pw_below_drewN | apply below_drew1 | refine below_set ?_ GE191.out | refine below_set ?_ GE192.out) | exact HB.out))) : w.heap.size ≤ gb194)); have n6_ := Aside0.mk ((by rw [hg]; exact (below_size (by repeat (first | (with_reducible first | exact HB.out | apply below_alloc | apply pw_below_drewN | apply below_drew1 | refine below_set ?_ GE191.out | refine below_set ?_ GE192.out) | exact HB.out))) : w.heap.size ≤ gb194)); have n7_ := Aside0.mk ((by rw [hg]; exact Nat.ne_of_lt (blk_lt (g := gb191) (o := .cells #[.slice A0_0 l0_0.length c0_0, .slice A0_1 l0_1.length c0_1, .slice A0_2 l0_2.length c0_2, .slice A0_3 l0_3.length c0_3, .int .i64 a0_4] 27 (0, 0)) (by (with_reducible repeat (first | refine blk_drewN ?_ _ | refine blk_drew ?_ | refine blk_alloc ?_ _)); exact BK191.out)) : gb191 ≠ gb194)); have n8_ := Aside0.mk ((by rw [hg]; exact Nat.ne_of_gt (blk_lt (g := gb191) (o := .cells #[.slice A0_0 l0_0.length c0_0, .slice A0_1 l0_1.length c0_1, .slice A0_2 l0_2.length c0_2, .slice A0_3 l0_3.length c0_3, .int .i64 a0_4] 27 (0, 0)) (by (with_reducible repeat (first | refine blk_drewN ?_ _ | refine blk_drew ?_ | refine blk_alloc ?_ _)); exact BK191.out)) : gb194 ≠ gb191)); have n9_ := Aside0.mk ((by rw [hg]; exact Nat.ne_of_lt (blk_lt (g := gb192) (o := .cells #[.slice (some ad193) l1_0.length c1_0, .slice A1_1 l1_1.length c1_1] 74 (0, 0)) (by (with_reducible repeat (first | refine blk_drewN ?_ _ | refine blk_drew ?_ | refine blk_alloc ?_ _)); exact BK192.out)) : gb192 ≠ gb194)); have n10_ := Aside0.mk ((by rw [hg]; exact Nat.ne_of_gt (blk_lt (g := gb192) (o := .cells #[.slice (some ad193) l1_0.length c1_0, .slice A1_1 l1_1.length c1_1] 74 (0, 0)) (by (with_reducible repeat (first | refine blk_drewN ?_ _ | refine blk_drew ?_ | refine blk_alloc ?_ _)); exact BK192.out)) : gb194 ≠ gb192)); clear HO_5; clear BK191; clear BK192; clear HB; have HO_5 := n0_; have BK191 := n1_; have BK192 := n2_; have HB := n3_; have BK194 := n4_; have GW194 := n5_; have GE194 := n6_; have NB191_194 := n7_; have NB194_191 := n8_; have NB192_194 := n9_; have NB194_192 := n10_; clear n0_ n1_ n2_ n3_ n4_ n5_ n6_ n7_ n8_ n9_ n10_; clear hb hbox hg; have hnb17 := NB194_191.out; have hnc17 := NB191_194.out; have hnb18 := NB194_192.out; have hnc18 := NB192_194.out; have hcz19_0 : w16.cell? ⟨gb194, 0, none⟩ = some (.int .i64 0) := (blk_cell BK194.out 0).trans rfl; have hcz19_1 : w16.cell? ⟨gb194, 1, none⟩ = some (.int .i64 0) := (blk_cell BK194.out 1).trans rfl; have hfz19_0 := blk_frozen BK194.out 0; have hfz19_1 := blk_frozen BK194.out 1; have hcz20_0 : w16.cell? ⟨gb191, 0, none⟩ = some (.slice A0_0 l0_0.length c0_0) := (blk_cell BK191.out 0).trans rfl; have hcz20_1 : w16.cell? ⟨gb191, 1, none⟩ = some (.slice A0_1 l0_1.length c0_1) := (blk_cell BK191.out 1).trans rfl; have hcz20_2 : w16.cell? ⟨gb191, 2, none⟩ = some (.slice A0_2 l0_2.length c0_2) := (blk_cell BK191.out 2).trans rfl; have hcz20_3 : w16.cell? ⟨gb191, 3, none⟩ = some (.slice A0_3 l0_3.length c0_3) := (blk_cell BK191.out 3).trans rfl; have hcz20_4 : w16.cell? ⟨gb191, 4, none⟩ = some (.int .i64 a0_4) := (blk_cell BK191.out 4).trans rfl; have hfz20_0 := blk_frozen BK191.out 0; have hfz20_1 := blk_frozen BK191.out 1; have hfz20_2 := blk_frozen BK191.out 2; have hfz20_3 := blk_frozen BK191.out 3; have hfz20_4 := blk_frozen BK191.out 4) | ((with_reducible refine gate_callee (f := 15) rfl ?_); refine goesL_ (some 29) rfl rfl Tryd.func15 (by kernel_rfl) rfl #[.agg #[.slice A0_0 l0_0.length c0_0, .slice A0_1 l0_1.length c0_1, .slice A0_2 l0_2.length c0_2, .slice A0_3 l0_3.length c0_3, .int .i64 a0_4], .agg #[.int .i64 ((rd_T37 l1_0 x18_1).f0), .int .i64 ((rd_T37 l1_0 x18_1).f1)]] rfl (by (try simp only [List.map_toArray, List.map_cons, List.map_nil]); first | done | rfl | (simp only [List.length_drop, List.length_take]; rfl)) ?_; (with_reducible refine (states_Behind.calls _ _ l0_0 _ _ l0_1 _ _ l0_2 _ _ l0_3 a0_4 ((rd_T37 l1_0 x18_1).f0) ((rd_T37 l1_0 x18_1).f1) t195 true _ ?side1 ?side2 ?side3 ?side4 ?side5 ?side6 ?side7 ?side8 A11.out).mono ?_); (case side1 => exact Kd.C_below HR0_0.out (by repeat (first | (with_reducible first | exact HB.out | apply below_alloc | apply pw_below_drewN | apply below_drew1 | refine below_set ?_ GE191.out | refine below_set ?_ GE192.out | refine below_set ?_ GE194.out) | exact HB.out))); (case side2 => exact HC0_0.out); (case side3 => exact Kd.C_below HR0_1.out (by repeat (first | (with_reducible first | exact HB.out | apply below_alloc | apply pw_below_drewN | apply below_drew1 | refine below_set ?_ GE191.out | refine below_set ?_ GE192.out | refine below_set ?_ GE194.out) | exact HB.out))); (case side4 => exact HC0_1.out); (case side5 => exact Kd.C_below HR0_2.out (by repeat (first | (with_reducible first | exact HB.out | apply below_alloc | apply pw_below_drewN | apply below_drew1 | refine below_set ?_ GE191.out | refine below_set ?_ GE192.out | refine below_set ?_ GE194.out) | exact HB.out))); (case side6 => exact HC0_2.out); (case side7 => exact Kd.C_below HR0_3.out (by repeat (first | (with_reducible first | exact HB.out | apply below_alloc | apply pw_below_drewN | apply below_drew1 | refine below_set ?_ GE191.out | refine below_set ?_ GE192.out | refine below_set ?_ GE194.out) | exact HB.out))); (case side8 => exact HC0_3.out); rintro e w21 ⟨rfl, hb⟩; refine ⟨_, rfl, ?_⟩; have n0_ := Aside0.mk (Kd.R_below (by (with_reducible repeat (first | apply Kd.R_alloc | apply Kd.R_drewN | apply Kd.R_drew)); exact (Kd.R_mono (Kd.R_far (p := ⟨gb194, 1, none⟩) (Kd.R_far (p := ⟨gb194, 0, none⟩) (Kd.R_types HO_5.out BK194.out (by decide)) (fun _ hk => hk.2) (.int .i64 ((rd_T37 l1_0 x18_1).f0))) (fun _ hk => hk.2) (.int .i64 ((rd_T37 l1_0 x18_1).f1))) (fun _ h_ => h_.1))) hb); have n1_ := Aside0.mk (blk_below (g := gb191) (o := .cells #[.slice A0_0 l0_0.length c0_0, .slice A0_1 l0_1.length c0_1, .slice A0_2 l0_2.length c0_2, .slice A0_3 l0_3.length c0_3, .int .i64 a0_4] 27 (0, 0)) (by (with_reducible repeat (first | refine blk_drewN ?_ _ | refine blk_drew ?_ | refine blk_alloc ?_ _)); refine blk_far ?_ NB191_194.out _; (with_reducible repeat (first | refine blk_drewN ?_ _ | refine blk_drew ?_ | refine blk_alloc ?_ _)); refine blk_far ?_ NB191_194.out _; (with_reducible repeat (first | refine blk_drewN ?_ _ | refine blk_drew ?_ | refine blk_alloc ?_ _)); exact BK191.out) hb); have n2_ := Aside0.mk (blk_below (g := gb192) (o := .cells #[.slice (some ad193) l1_0.length c1_0, .slice A1_1 l1_1.length c1_1] 74 (0, 0)) (by (with_reducible repeat (first | refine blk_drewN ?_ _ | refine blk_drew ?_ | refine blk_alloc ?_ _)); refine blk_far ?_ NB192_194.out _; (with_reducible repeat (first | refine blk_drewN ?_ _ | refine blk_drew ?_ | refine blk_alloc ?_ _)); refine blk_far ?_ NB192_194.out _; (with_reducible repeat (first | refine blk_drewN ?_ _ | refine blk_drew ?_ | refine blk_alloc ?_ _)); exact BK192.out) hb); have n3_ := Aside0.mk (blk_below (g := gb194) (o := .cells #[.int .i64 ((rd_T37 l1_0 x18_1).f0), .int .i64 ((rd_T37 l1_0 x18_1).f1)] 37 (0, 0)) (by (with_reducible repeat (first | refine blk_drewN ?_ _ | refine blk_drew ?_ | refine blk_alloc ?_ _)); refine blk_put (cs := #[.int .i64 ((rd_T37 l1_0 x18_1).f0), .int .i64 0]) ?_ 1 _ rfl; (with_reducible repeat (first | refine blk_drewN ?_ _ | refine blk_drew ?_ | refine blk_alloc ?_ _)); refine blk_put (cs := #[.int .i64 0, .int .i64 0]) ?_ 0 _ rfl; (with_reducible repeat (first | refine blk_drewN ?_ _ | refine blk_drew ?_ | refine blk_alloc ?_ _)); exact BK194.out) hb); have n4_ := Aside0.mk (below_step (by repeat (first | (with_reducible first | exact HB.out | apply below_alloc | apply pw_below_drewN | apply below_drew1 | refine below_set ?_ GE191.out | refine below_set ?_ GE192.out | refine below_set ?_ GE194.out) | exact HB.out)) hb); clear HO_5; clear BK191; clear BK192; clear BK194; clear HB; have HO_5 := n0_; have BK191 := n1_; have BK192 := n2_; have BK194 := n3_; have HB := n4_; clear n0_ n1_ n2_ n3_ n4_; (try clear hb); (try clear hb2); (try clear hk); (try clear hi); have hcz22_0 : w21.cell? ⟨gb191, 0, none⟩ = some (.slice A0_0 l0_0.length c0_0) := (blk_cell BK191.out 0).trans rfl; have hcz22_1 : w21.cell? ⟨gb191, 1, none⟩ = some (.slice A0_1 l0_1.length c0_1) := (blk_cell BK191.out 1).trans rfl; have hcz22_2 : w21.cell? ⟨gb191, 2, none⟩ = some (.slice A0_2 l0_2.length c0_2) := (blk_cell BK191.out 2).trans rfl; have hcz22_3 : w21.cell? ⟨gb191, 3, none⟩ = some (.slice A0_3 l0_3.length c0_3) := (blk_cell BK191.out 3).trans rfl; have hcz22_4 : w21.cell? ⟨gb191, 4, none⟩ = some (.int .i64 a0_4) := (blk_cell BK191.out 4).trans rfl; have hfz22_0 := blk_frozen BK191.out 0; have hfz22_1 := blk_frozen BK191.out 1; have hfz22_2 := blk_frozen BK191.out 2; have hfz22_3 := blk_frozen BK191.out 3; have hfz22_4 := blk_frozen BK191.out 4; have hcz23_0 : w21.cell? ⟨gb194, 0, none⟩ = some (.int .i64 ((rd_T37 l1_0 x18_1).f0)) := (blk_cell BK194.out 0).trans rfl; have hcz23_1 : w21.cell? ⟨gb194, 1, none⟩ = some (.int .i64 ((rd_T37 l1_0 x18_1).f1)) := (blk_cell BK194.out 1).trans rfl; have hfz23_0 := blk_frozen BK194.out 0; have hfz23_1 := blk_frozen BK194.out 1) | ((with_reducible refine gate_dst (N := 34) rfl ?_); (try (refine gate_guard (by rfl) ?_; dsimp only)); refine Kd.R_lit k37 _ 37 ?hg (N := 34) ?hd (xs := ([(⟨(rd_T37 l1_0 x18_1).f0, (rd_T37 l1_0 x18_1).f1⟩ : S37)] : List (S37))) (inner := [.int .i64 ((rd_T37 l1_0 x18_1).f0), .int .i64 ((rd_T37 l1_0 x18_1).f1)]) (ok := fun _ => True) (okp := fun _ => True) ?hr ?hp (fun _ hk => hk) trivial (Below.refl _ _) (Nat.le_refl _) (by simp) ?_; (case hd => rfl); (case hg => rfl); (case hr => first | (go_simp; done) | (go_simp; rfl)); (case hp => exact (Reps.c2 (show Kd.M k37 _ _ _ (⟨(rd_T37 l1_0 x18_1).f0, (rd_T37 l1_0 x18_1).f1⟩ : S37) [.int .i64 ((rd_T37 l1_0 x18_1).f0), .int .i64 ((rd_T37 l1_0 x18_1).f1)] from (k37_mkM _ _ _ (⟨(rd_T37 l1_0 x18_1).f0, (rd_T37 l1_0 x18_1).f1⟩ : S37) )) (Reps.none _ _))); intro v198 w24 ho25 hb hg_ hnew_; clear hg_ hnew_; (first | rw [← Ny197.out] at ho25 | (simp only [Int.reduceToNat] at ho25; rw [← Ny197.out] at ho25)); have n0_ := Aside0.mk (Kd.R_below (by (with_reducible repeat (first | apply Kd.R_alloc | apply Kd.R_drewN | apply Kd.R_drew)); exact HO_5.out) hb); have n1_ := Aside0.mk (Kd.R_lower (Kd.R_newB ho25 (g := gb194) (o := .cells #[.int .i64 ((rd_T37 l1_0 x18_1).f0), .int .i64 ((rd_T37 l1_0 x18_1).f1)] 37 (0, 0)) (by (with_reducible repeat (first | refine blk_drewN ?_ _ | refine blk_drew ?_ | refine blk_alloc ?_ _)); exact BK194.out)) (below_size (by repeat (first | (with_reducible first | exact HB.out | apply below_alloc | apply pw_below_drewN | apply below_drew1 | refine below_set ?_ GE191.out | refine below_set ?_ GE192.out | refine below_set ?_ GE194.out) | exact HB.out)))); have n2_ := Aside0.mk (blk_below (g := gb191) (o := .cells #[.slice A0_0 l0_0.length c0_0, .slice A0_1 l0_1.length c0_1, .slice A0_2 l0_2.length c0_2, .slice A0_3 l0_3.length c0_3, .int .i64 a0_4] 27 (0, 0)) (by (with_reducible repeat (first | refine blk_drewN ?_ _ | refine blk_drew ?_ | refine blk_alloc ?_ _)); exact BK191.out) hb); have n3_ := Aside0.mk (blk_below (g := gb192) (o := .cells #[.slice (some ad193) l1_0.length c1_0, .slice A1_1 l1_1.length c1_1] 74 (0, 0)) (by (with_reducible repeat (first | refine blk_drewN ?_ _ | refine blk_drew ?_ | refine blk_alloc ?_ _)); exact BK192.out) hb); have n4_ := Aside0.mk (blk_below (g := gb194) (o := .cells #[.int .i64 ((rd_T37 l1_0 x18_1).f0), .int .i64 ((rd_T37 l1_0 x18_1).f1)] 37 (0, 0)) (by (with_reducible repeat (first | refine blk_drewN ?_ _ | refine blk_drew ?_ | refine blk_alloc ?_ _)); exact BK194.out) hb); have n5_ := Aside0.mk (below_step (by repeat (first | (with_reducible first | exact HB.out | apply below_alloc | apply pw_below_drewN | apply below_drew1 | refine below_set ?_ GE191.out | refine below_set ?_ GE192.out | refine below_set ?_ GE194.out) | exact HB.out)) hb); clear HO_5; clear BK191; clear BK192; clear BK194; clear HB; have HO_5 := n0_; have HO199 := n1_; have BK191 := n2_; have BK192 := n3_; have BK194 := n4_; have HB := n5_; clear n0_ n1_ n2_ n3_ n4_ n5_; clear hb ho25; obtain ⟨Ao26, co26, eo26⟩ := Kd.R_slice HO199.out; subst eo26) | ((with_reducible refine gate_callee (f := 18) rfl ?_); refine goesL_ (some 35) rfl rfl Tryd.func18 (by kernel_rfl) rfl #[.agg #[.slice A0_0 l0_0.length c0_0, .slice A0_1 l0_1.length c0_1, .slice A0_2 l0_2.length c0_2, .slice A0_3 l0_3.length c0_3, .int .i64 a0_4], .slice Ao26 y197.length co26] rfl (by (try simp only [List.map_toArray, List.map_cons, List.map_nil]); first | done | rfl | (simp only [List.length_drop, List.length_take]; rfl)) ?_; (with_reducible refine (states_Close.calls _ _ l0_0 _ _ l0_1 _ _ l0_2 _ _ l0_3 a0_4 _ _ y197 t200 _ ?side1 ?side2 ?side3 ?side4 ?side5 ?side6 ?side7 ?side8 ?side9 ?side10 A12.out).mono ?_); (case side1 => repeat (first | exact (Kd.C_below HR0_0.out HB.out) | (with_reducible refine Kd.C_alloc ?_ _) | (with_reducible refine Kd.C_drewN ?_ _) | (with_reducible refine Kd.C_drew ?_))); (case side2 => exact HC0_0.out); (case side3 => repeat (first | exact (Kd.C_below HR0_1.out HB.out) | (with_reducible refine Kd.C_alloc ?_ _) | (with_reducible refine Kd.C_drewN ?_ _) | (with_reducible refine Kd.C_drew ?_))); (case side4 => exact HC0_1.out); (case side5 => repeat (first | exact (Kd.C_below HR0_2.out HB.out) | (with_reducible refine Kd.C_alloc ?_ _) | (with_reducible refine Kd.C_drewN ?_ _) | (with_reducible refine Kd.C_drew ?_))); (case side6 => exact HC0_2.out); (case side7 => repeat (first | exact (Kd.C_below HR0_3.out HB.out) | (with_reducible refine Kd.C_alloc ?_ _) | (with_reducible refine Kd.C_drewN ?_ _) | (with_reducible refine Kd.C_drew ?_))); (case side8 => exact HC0_3.out); (case side9 => repeat (first | exact (Kd.R_reads' HO199.out).2.2 | (with_reducible refine Kd.C_alloc ?_ _) | (with_reducible refine Kd.C_drewN ?_ _) | (with_reducible refine Kd.C_drew ?_))); (case side10 => exact (Kd.R_reads' HO199.out).2.1); rintro e w27 ⟨v201, rfl, ho0, hb⟩; refine ⟨_, rfl, ?_⟩; have n0_ := Aside0.mk (Kd.R_below (by (with_reducible repeat (first | apply Kd.R_alloc | apply Kd.R_drewN | apply Kd.R_drew)); exact HO_5.out) hb); have n1_ := Aside0.mk (Kd.R_elder' (by (with_reducible repeat (first | apply Kd.R_alloc | apply Kd.R_drewN | apply Kd.R_drew)); exact HO199.out) (Kd.R_base ho0) hb); have n2_ := Aside0.mk (Kd.R_lower (Kd.R_newB (Kd.R_new' ho0 (Kd.R_lt (by (with_reducible repeat (first | apply Kd.R_alloc | apply Kd.R_drewN | apply Kd.R_drew)); exact HO199.out))) (g := gb194) (o := .cells #[.int .i64 ((rd_T37 l1_0 x18_1).f0), .int .i64 ((rd_T37 l1_0 x18_1).f1)] 37 (0, 0)) (by (with_reducible repeat (first | refine blk_drewN ?_ _ | refine blk_drew ?_ | refine blk_alloc ?_ _)); exact BK194.out)) (below_size (by repeat (first | (with_reducible first | exact HB.out | apply below_alloc | apply pw_below_drewN | apply below_drew1 | refine below_set ?_ GE191.out | refine below_set ?_ GE192.out | refine below_set ?_ GE194.out) | exact HB.out)))); have n3_ := Aside0.mk (blk_below (g := gb191) (o := .cells #[.slice A0_0 l0_0.length c0_0, .slice A0_1 l0_1.length c0_1, .slice A0_2 l0_2.length c0_2, .slice A0_3 l0_3.length c0_3, .int .i64 a0_4] 27 (0, 0)) (by (with_reducible repeat (first | refine blk_drewN ?_ _ | refine blk_drew ?_ | refine blk_alloc ?_ _)); exact BK191.out) hb); have n4_ := Aside0.mk (blk_below (g := gb192) (o := .cells #[.slice (some ad193) l1_0.length c1_0, .slice A1_1 l1_1.length c1_1] 74 (0, 0)) (by (with_reducible repeat (first | refine blk_drewN ?_ _ | refine blk_drew ?_ | refine blk_alloc ?_ _)); exact BK192.out) hb); have n5_ := Aside0.mk (blk_below (g := gb194) (o := .cells #[.int .i64 ((rd_T37 l1_0 x18_1).f0), .int .i64 ((rd_T37 l1_0 x18_1).f1)] 37 (0, 0)) (by (with_reducible repeat (first | refine blk_drewN ?_ _ | refine blk_drew ?_ | refine blk_alloc ?_ _)); exact BK194.out) hb); have n6_ := Aside0.mk (below_step (by repeat (first | (with_reducible first | exact HB.out | apply below_alloc | apply pw_below_drewN | apply below_drew1 | refine below_set ?_ GE191.out | refine below_set ?_ GE192.out | refine below_set ?_ GE194.out) | exact HB.out)) hb); clear HO_5; clear HO199; clear BK191; clear BK192; clear BK194; clear HB; have HO_5 := n0_; have HO199 := n1_; have HO202 := n2_; have BK191 := n3_; have BK192 := n4_; have BK194 := n5_; have HB := n6_; clear n0_ n1_ n2_ n3_ n4_ n5_ n6_; (try clear hb); (try clear hb2); (try clear hk); (try clear hi); (try clear ho0)))
                go_roundg k1
                case measure => have := HK1.out; omega
                case rel => exact ⟨(x5_1), (wrap64 (x18_1 + 1)), (by first | rfl | (simp; done) | (simp [*]; done)), H', ⟨by have := HK1.out; omega⟩, ⟨by (with_reducible repeat (first | apply Kd.R_alloc | apply Kd.R_drewN | apply Kd.R_drew)); exact HO_5.out⟩, ⟨by (with_reducible repeat (first | refine blk_drewN ?_ _ | refine blk_drew ?_ | refine blk_alloc ?_ _)); exact BK191.out⟩, ⟨by (with_reducible repeat (first | refine blk_drewN ?_ _ | refine blk_drew ?_ | refine blk_alloc ?_ _)); exact BK192.out⟩, ⟨by repeat (first | (with_reducible first | exact HB.out | apply below_alloc | apply pw_below_drewN | apply below_drew1 | refine below_set ?_ GE191.out | refine below_set ?_ GE192.out | refine below_set ?_ GE194.out) | exact HB.out)⟩⟩
              · replace c13 := Bool.eq_false_iff.mpr c13
                subst c13
                have H1 : (if (t200.length : Int) > 0 then (if x18_1 < (l1_1.length : Int) then (if (rd l1_1 x18_1) = 0 then (look_Done.l0 k1 x5_1 ji3 (wrap64 (x18_1 + 1)) l0_0 l0_1 l0_2 l0_3 a0_4 l1_0 l1_1) else (if x5_1.length < 17592186044416 then (look_Done.l0 k1 (x5_1 ++ [(rd_T37 l1_0 x18_1).f0]) ji3 (wrap64 (x18_1 + 1)) l0_0 l0_1 l0_2 l0_3 a0_4 l1_0 l1_1) else (none))) else (none)) else (look_Done.l0 k1 x5_1 ji3 (wrap64 (x18_1 + 1)) l0_0 l0_1 l0_2 l0_3 a0_4 l1_0 l1_1)) = some r := by rw [if_neg (show ¬ (false = true) by decide)] at H; exact H
                clear H
                have H := H1
                clear H1
                by_cases c28 : (t200.length : Int) > 0
                · rw [if_pos c28] at H
                  have c28b0 : decide (0 < (t200.length : Int)) = true := decide_eq_true c28
                  have c28b1 : decide (0 < t200.length) = true := decide_eq_true (by omega)
                  clear c28
                  by_cases c29 : x18_1 < (l1_1.length : Int)
                  · rw [if_pos c29] at H
                    have c29b0 : decide (x18_1 < (l1_1.length : Int)) = true := decide_eq_true c29
                    clear c29
                    by_cases c30 : (rd l1_1 x18_1) = 0
                    · rw [if_pos c30] at H
                      have c30b0 : ((rd l1_1 x18_1) == 0) = true := beq_iff_eq.mpr c30
                      have c30b1 : ((rd l1_1 x18_1) != 0) = false := bne_eq_false_iff_eq.mpr c30
                      clear c30
                      have H' := Aside0.mk H
                      clear H
                      have hnb31 := NB192_191.out
                      have hnc31 := NB191_192.out
                      have hcz32_0 : wr.cell? ⟨gb192, 0, none⟩ = some (.slice A1_0 l1_0.length c1_0) := (blk_cell BK192.out 0).trans rfl
                      have hcz32_1 : wr.cell? ⟨gb192, 1, none⟩ = some (.slice A1_1 l1_1.length c1_1) := (blk_cell BK192.out 1).trans rfl
                      have hfz32_0 := blk_frozen BK192.out 0
                      have hfz32_1 := blk_frozen BK192.out 1
                      have p193 : 0 ≤ (x18_1 : Int) := of_decide_eq_true (by first | (with_reducible assumption) | assumption)
                      have q193 : x18_1 < (l1_0.length : Int) := of_decide_eq_true (by first | (with_reducible assumption) | assumption)
                      obtain ⟨ad193, e193, hx193_0, hx193_1⟩ := at_T37 HR1_0.out x18_1 p193 q193
                      cases e193
                      replace hx193_0 := (HB.out.cell (World.block_lt_of_cell? w _ hx193_0)).trans hx193_0
                      replace hx193_1 := (HB.out.cell (World.block_lt_of_cell? w _ hx193_1)).trans hx193_1
                      replace p193 := eq_true p193
                      replace q193 := eq_true q193
                      go_wp2_with (first | ((with_reducible refine gate_dst (N := 7) rfl ?_); (try (refine gate_guard (by rfl) ?_; dsimp only)); refine box_event ?hg (N := 7) ?hd (cs := #[.int .i64 0, .int .i64 0]) (t := 37) ?hr ?_; (case hd => rfl); (case hg => rfl); (case hr => first | (go_simp; done) | (go_simp; rfl)); intro gb194 hg w33 hbox hb; have n0_ := Aside0.mk (Kd.R_below (by (with_reducible repeat (first | apply Kd.R_alloc | apply Kd.R_drewN | apply Kd.R_drew)); exact HO_5.out) hb); have n1_ := Aside0.mk (blk_below (g := gb191) (o := .cells #[.slice A0_0 l0_0.length c0_0, .slice A0_1 l0_1.length c0_1, .slice A0_2 l0_2.length c0_2, .slice A0_3 l0_3.length c0_3, .int .i64 a0_4] 27 (0, 0)) (by (with_reducible repeat (first | refine blk_drewN ?_ _ | refine blk_drew ?_ | refine blk_alloc ?_ _)); exact BK191.out) hb); have n2_ := Aside0.mk (blk_below (g := gb192) (o := .cells #[.slice (some ad193) l1_0.length c1_0, .slice A1_1 l1_1.length c1_1] 74 (0, 0)) (by (with_reducible repeat (first | refine blk_drewN ?_ _ | refine blk_drew ?_ | refine blk_alloc ?_ _)); exact BK192.out) hb); have n3_ := Aside0.mk (below_step (by repeat (first | (with_reducible first | exact HB.out | apply below_alloc | apply pw_below_drewN | apply below_drew1 | refine below_set ?_ GE191.out | refine below_set ?_ GE192.out) | exact HB.out)) hb); have n4_ := Aside0.mk (hbox); have n5_ := Aside0.mk ((by rw [hg]; exact (below_size (by repeat (first | (with_reducible first | exact HB.out | apply below_alloc | apply pw_below_drewN | apply below_drew1 | refine below_set ?_ GE191.out | refine below_set ?_ GE192.out) | exact HB.out))) : w.heap.size ≤ gb194)); have n6_ := Aside0.mk ((by rw [hg]; exact (below_size (by repeat (first | (with_reducible first | exact HB.out | apply below_alloc | apply pw_below_drewN | apply below_drew1 | refine below_set ?_ GE191.out | refine below_set ?_ GE192.out) | exact HB.out))) : w.heap.size ≤ gb194)); have n7_ := Aside0.mk ((by rw [hg]; exact Nat.ne_of_lt (blk_lt (g := gb191) (o := .cells #[.slice A0_0 l0_0.length c0_0, .slice A0_1 l0_1.length c0_1, .slice A0_2 l0_2.length c0_2, .slice A0_3 l0_3.length c0_3, .int .i64 a0_4] 27 (0, 0)) (by (with_reducible repeat (first | refine blk_drewN ?_ _ | refine blk_drew ?_ | refine blk_alloc ?_ _)); exact BK191.out)) : gb191 ≠ gb194)); have n8_ := Aside0.mk ((by rw [hg]; exact Nat.ne_of_gt (blk_lt (g := gb191) (o := .cells #[.slice A0_0 l0_0.length c0_0, .slice A0_1 l0_1.length c0_1, .slice A0_2 l0_2.length c0_2, .slice A0_3 l0_3.length c0_3, .int .i64 a0_4] 27 (0, 0)) (by (with_reducible repeat (first | refine blk_drewN ?_ _ | refine blk_drew ?_ | refine blk_alloc ?_ _)); exact BK191.out)) : gb194 ≠ gb191)); have n9_ := Aside0.mk ((by rw [hg]; exact Nat.ne_of_lt (blk_lt (g := gb192) (o := .cells #[.slice (some ad193) l1_0.length c1_0, .slice A1_1 l1_1.length c1_1] 74 (0, 0)) (by (with_reducible repeat (first | refine blk_drewN ?_ _ | refine blk_drew ?_ | refine blk_alloc ?_ _)); exact BK192.out)) : gb192 ≠ gb194)); have n10_ := Aside0.mk ((by rw [hg]; exact Nat.ne_of_gt (blk_lt (g := gb192) (o := .cells #[.slice (some ad193) l1_0.length c1_0, .slice A1_1 l1_1.length c1_1] 74 (0, 0)) (by (with_reducible repeat (first | refine blk_drewN ?_ _ | refine blk_drew ?_ | refine blk_alloc ?_ _)); exact BK192.out)) : gb194 ≠ gb192)); clear HO_5; clear BK191; clear BK192; clear HB; have HO_5 := n0_; have BK191 := n1_; have BK192 := n2_; have HB := n3_; have BK194 := n4_; have GW194 := n5_; have GE194 := n6_; have NB191_194 := n7_; have NB194_191 := n8_; have NB192_194 := n9_; have NB194_192 := n10_; clear n0_ n1_ n2_ n3_ n4_ n5_ n6_ n7_ n8_ n9_ n10_; clear hb hbox hg; have hnb34 := NB194_191.out; have hnc34 := NB191_194.out; have hnb35 := NB194_192.out; have hnc35 := NB192_194.out; have hcz36_0 : w33.cell? ⟨gb194, 0, none⟩ = some (.int .i64 0) := (blk_cell BK194.out 0).trans rfl; have hcz36_1 : w33.cell? ⟨gb194, 1, none⟩ = some (.int .i64 0) := (blk_cell BK194.out 1).trans rfl; have hfz36_0 := blk_frozen BK194.out 0; have hfz36_1 := blk_frozen BK194.out 1; have hcz37_0 : w33.cell? ⟨gb191, 0, none⟩ = some (.slice A0_0 l0_0.length c0_0) := (blk_cell BK191.out 0).trans rfl; have hcz37_1 : w33.cell? ⟨gb191, 1, none⟩ = some (.slice A0_1 l0_1.length c0_1) := (blk_cell BK191.out 1).trans rfl; have hcz37_2 : w33.cell? ⟨gb191, 2, none⟩ = some (.slice A0_2 l0_2.length c0_2) := (blk_cell BK191.out 2).trans rfl; have hcz37_3 : w33.cell? ⟨gb191, 3, none⟩ = some (.slice A0_3 l0_3.length c0_3) := (blk_cell BK191.out 3).trans rfl; have hcz37_4 : w33.cell? ⟨gb191, 4, none⟩ = some (.int .i64 a0_4) := (blk_cell BK191.out 4).trans rfl; have hfz37_0 := blk_frozen BK191.out 0; have hfz37_1 := blk_frozen BK191.out 1; have hfz37_2 := blk_frozen BK191.out 2; have hfz37_3 := blk_frozen BK191.out 3; have hfz37_4 := blk_frozen BK191.out 4) | ((with_reducible refine gate_callee (f := 15) rfl ?_); refine goesL_ (some 29) rfl rfl Tryd.func15 (by kernel_rfl) rfl #[.agg #[.slice A0_0 l0_0.length c0_0, .slice A0_1 l0_1.length c0_1, .slice A0_2 l0_2.length c0_2, .slice A0_3 l0_3.length c0_3, .int .i64 a0_4], .agg #[.int .i64 ((rd_T37 l1_0 x18_1).f0), .int .i64 ((rd_T37 l1_0 x18_1).f1)]] rfl (by (try simp only [List.map_toArray, List.map_cons, List.map_nil]); first | done | rfl | (simp only [List.length_drop, List.length_take]; rfl)) ?_; (with_reducible refine (states_Behind.calls _ _ l0_0 _ _ l0_1 _ _ l0_2 _ _ l0_3 a0_4 ((rd_T37 l1_0 x18_1).f0) ((rd_T37 l1_0 x18_1).f1) t195 false _ ?side1 ?side2 ?side3 ?side4 ?side5 ?side6 ?side7 ?side8 A11.out).mono ?_); (case side1 => exact Kd.C_below HR0_0.out (by repeat (first | (with_reducible first | exact HB.out | apply below_alloc | apply pw_below_drewN | apply below_drew1 | refine below_set ?_ GE191.out | refine below_set ?_ GE192.out | refine below_set ?_ GE194.out) | exact HB.out))); (case side2 => exact HC0_0.out); (case side3 => exact Kd.C_below HR0_1.out (by repeat (first | (with_reducible first | exact HB.out | apply below_alloc | apply pw_below_drewN | apply below_drew1 | refine below_set ?_ GE191.out | refine below_set ?_ GE192.out | refine below_set ?_ GE194.out) | exact HB.out))); (case side4 => exact HC0_1.out); (case side5 => exact Kd.C_below HR0_2.out (by repeat (first | (with_reducible first | exact HB.out | apply below_alloc | apply pw_below_drewN | apply below_drew1 | refine below_set ?_ GE191.out | refine below_set ?_ GE192.out | refine below_set ?_ GE194.out) | exact HB.out))); (case side6 => exact HC0_2.out); (case side7 => exact Kd.C_below HR0_3.out (by repeat (first | (with_reducible first | exact HB.out | apply below_alloc | apply pw_below_drewN | apply below_drew1 | refine below_set ?_ GE191.out | refine below_set ?_ GE192.out | refine below_set ?_ GE194.out) | exact HB.out))); (case side8 => exact HC0_3.out); rintro e w38 ⟨rfl, hb⟩; refine ⟨_, rfl, ?_⟩; have n0_ := Aside0.mk (Kd.R_below (by (with_reducible repeat (first | apply Kd.R_alloc | apply Kd.R_drewN | apply Kd.R_drew)); exact (Kd.R_mono (Kd.R_far (p := ⟨gb194, 1, none⟩) (Kd.R_far (p := ⟨gb194, 0, none⟩) (Kd.R_types HO_5.out BK194.out (by decide)) (fun _ hk => hk.2) (.int .i64 ((rd_T37 l1_0 x18_1).f0))) (fun _ hk => hk.2) (.int .i64 ((rd_T37 l1_0 x18_1).f1))) (fun _ h_ => h_.1))) hb); have n1_ := Aside0.mk (blk_below (g := gb191) (o := .cells #[.slice A0_0 l0_0.length c0_0, .slice A0_1 l0_1.length c0_1, .slice A0_2 l0_2.length c0_2, .slice A0_3 l0_3.length c0_3, .int .i64 a0_4] 27 (0, 0)) (by (with_reducible repeat (first | refine blk_drewN ?_ _ | refine blk_drew ?_ | refine blk_alloc ?_ _)); refine blk_far ?_ NB191_194.out _; (with_reducible repeat (first | refine blk_drewN ?_ _ | refine blk_drew ?_ | refine blk_alloc ?_ _)); refine blk_far ?_ NB191_194.out _; (with_reducible repeat (first | refine blk_drewN ?_ _ | refine blk_drew ?_ | refine blk_alloc ?_ _)); exact BK191.out) hb); have n2_ := Aside0.mk (blk_below (g := gb192) (o := .cells #[.slice (some ad193) l1_0.length c1_0, .slice A1_1 l1_1.length c1_1] 74 (0, 0)) (by (with_reducible repeat (first | refine blk_drewN ?_ _ | refine blk_drew ?_ | refine blk_alloc ?_ _)); refine blk_far ?_ NB192_194.out _; (with_reducible repeat (first | refine blk_drewN ?_ _ | refine blk_drew ?_ | refine blk_alloc ?_ _)); refine blk_far ?_ NB192_194.out _; (with_reducible repeat (first | refine blk_drewN ?_ _ | refine blk_drew ?_ | refine blk_alloc ?_ _)); exact BK192.out) hb); have n3_ := Aside0.mk (blk_below (g := gb194) (o := .cells #[.int .i64 ((rd_T37 l1_0 x18_1).f0), .int .i64 ((rd_T37 l1_0 x18_1).f1)] 37 (0, 0)) (by (with_reducible repeat (first | refine blk_drewN ?_ _ | refine blk_drew ?_ | refine blk_alloc ?_ _)); refine blk_put (cs := #[.int .i64 ((rd_T37 l1_0 x18_1).f0), .int .i64 0]) ?_ 1 _ rfl; (with_reducible repeat (first | refine blk_drewN ?_ _ | refine blk_drew ?_ | refine blk_alloc ?_ _)); refine blk_put (cs := #[.int .i64 0, .int .i64 0]) ?_ 0 _ rfl; (with_reducible repeat (first | refine blk_drewN ?_ _ | refine blk_drew ?_ | refine blk_alloc ?_ _)); exact BK194.out) hb); have n4_ := Aside0.mk (below_step (by repeat (first | (with_reducible first | exact HB.out | apply below_alloc | apply pw_below_drewN | apply below_drew1 | refine below_set ?_ GE191.out | refine below_set ?_ GE192.out | refine below_set ?_ GE194.out) | exact HB.out)) hb); clear HO_5; clear BK191; clear BK192; clear BK194; clear HB; have HO_5 := n0_; have BK191 := n1_; have BK192 := n2_; have BK194 := n3_; have HB := n4_; clear n0_ n1_ n2_ n3_ n4_; (try clear hb); (try clear hb2); (try clear hk); (try clear hi); have hcz39_0 : w38.cell? ⟨gb191, 0, none⟩ = some (.slice A0_0 l0_0.length c0_0) := (blk_cell BK191.out 0).trans rfl; have hcz39_1 : w38.cell? ⟨gb191, 1, none⟩ = some (.slice A0_1 l0_1.length c0_1) := (blk_cell BK191.out 1).trans rfl; have hcz39_2 : w38.cell? ⟨gb191, 2, none⟩ = some (.slice A0_2 l0_2.length c0_2) := (blk_cell BK191.out 2).trans rfl; have hcz39_3 : w38.cell? ⟨gb191, 3, none⟩ = some (.slice A0_3 l0_3.length c0_3) := (blk_cell BK191.out 3).trans rfl; have hcz39_4 : w38.cell? ⟨gb191, 4, none⟩ = some (.int .i64 a0_4) := (blk_cell BK191.out 4).trans rfl; have hfz39_0 := blk_frozen BK191.out 0; have hfz39_1 := blk_frozen BK191.out 1; have hfz39_2 := blk_frozen BK191.out 2; have hfz39_3 := blk_frozen BK191.out 3; have hfz39_4 := blk_frozen BK191.out 4; have hcz40_0 : w38.cell? ⟨gb194, 0, none⟩ = some (.int .i64 ((rd_T37 l1_0 x18_1).f0)) := (blk_cell BK194.out 0).trans rfl; have hcz40_1 : w38.cell? ⟨gb194, 1, none⟩ = some (.int .i64 ((rd_T37 l1_0 x18_1).f1)) := (blk_cell BK194.out 1).trans rfl; have hfz40_0 := blk_frozen BK194.out 0; have hfz40_1 := blk_frozen BK194.out 1) | ((with_reducible refine gate_dst (N := 34) rfl ?_); (try (refine gate_guard (by rfl) ?_; dsimp only)); refine Kd.R_lit k37 _ 37 ?hg (N := 34) ?hd (xs := ([(⟨(rd_T37 l1_0 x18_1).f0, (rd_T37 l1_0 x18_1).f1⟩ : S37)] : List (S37))) (inner := [.int .i64 ((rd_T37 l1_0 x18_1).f0), .int .i64 ((rd_T37 l1_0 x18_1).f1)]) (ok := fun _ => True) (okp := fun _ => True) ?hr ?hp (fun _ hk => hk) trivial (Below.refl _ _) (Nat.le_refl _) (by simp) ?_; (case hd => rfl); (case hg => rfl); (case hr => first | (go_simp; done) | (go_simp; rfl)); (case hp => exact (Reps.c2 (show Kd.M k37 _ _ _ (⟨(rd_T37 l1_0 x18_1).f0, (rd_T37 l1_0 x18_1).f1⟩ : S37) [.int .i64 ((rd_T37 l1_0 x18_1).f0), .int .i64 ((rd_T37 l1_0 x18_1).f1)] from (k37_mkM _ _ _ (⟨(rd_T37 l1_0 x18_1).f0, (rd_T37 l1_0 x18_1).f1⟩ : S37) )) (Reps.none _ _))); intro v198 w41 ho42 hb hg_ hnew_; clear hg_ hnew_; (first | rw [← Ny197.out] at ho42 | (simp only [Int.reduceToNat] at ho42; rw [← Ny197.out] at ho42)); have n0_ := Aside0.mk (Kd.R_below (by (with_reducible repeat (first | apply Kd.R_alloc | apply Kd.R_drewN | apply Kd.R_drew)); exact HO_5.out) hb); have n1_ := Aside0.mk (Kd.R_lower (Kd.R_newB ho42 (g := gb194) (o := .cells #[.int .i64 ((rd_T37 l1_0 x18_1).f0), .int .i64 ((rd_T37 l1_0 x18_1).f1)] 37 (0, 0)) (by (with_reducible repeat (first | refine blk_drewN ?_ _ | refine blk_drew ?_ | refine blk_alloc ?_ _)); exact BK194.out)) (below_size (by repeat (first | (with_reducible first | exact HB.out | apply below_alloc | apply pw_below_drewN | apply below_drew1 | refine below_set ?_ GE191.out | refine below_set ?_ GE192.out | refine below_set ?_ GE194.out) | exact HB.out)))); have n2_ := Aside0.mk (blk_below (g := gb191) (o := .cells #[.slice A0_0 l0_0.length c0_0, .slice A0_1 l0_1.length c0_1, .slice A0_2 l0_2.length c0_2, .slice A0_3 l0_3.length c0_3, .int .i64 a0_4] 27 (0, 0)) (by (with_reducible repeat (first | refine blk_drewN ?_ _ | refine blk_drew ?_ | refine blk_alloc ?_ _)); exact BK191.out) hb); have n3_ := Aside0.mk (blk_below (g := gb192) (o := .cells #[.slice (some ad193) l1_0.length c1_0, .slice A1_1 l1_1.length c1_1] 74 (0, 0)) (by (with_reducible repeat (first | refine blk_drewN ?_ _ | refine blk_drew ?_ | refine blk_alloc ?_ _)); exact BK192.out) hb); have n4_ := Aside0.mk (blk_below (g := gb194) (o := .cells #[.int .i64 ((rd_T37 l1_0 x18_1).f0), .int .i64 ((rd_T37 l1_0 x18_1).f1)] 37 (0, 0)) (by (with_reducible repeat (first | refine blk_drewN ?_ _ | refine blk_drew ?_ | refine blk_alloc ?_ _)); exact BK194.out) hb); have n5_ := Aside0.mk (below_step (by repeat (first | (with_reducible first | exact HB.out | apply below_alloc | apply pw_below_drewN | apply below_drew1 | refine below_set ?_ GE191.out | refine below_set ?_ GE192.out | refine below_set ?_ GE194.out) | exact HB.out)) hb); clear HO_5; clear BK191; clear BK192; clear BK194; clear HB; have HO_5 := n0_; have HO199 := n1_; have BK191 := n2_; have BK192 := n3_; have BK194 := n4_; have HB := n5_; clear n0_ n1_ n2_ n3_ n4_ n5_; clear hb ho42; obtain ⟨Ao43, co43, eo43⟩ := Kd.R_slice HO199.out; subst eo43) | ((with_reducible refine gate_callee (f := 18) rfl ?_); refine goesL_ (some 35) rfl rfl Tryd.func18 (by kernel_rfl) rfl #[.agg #[.slice A0_0 l0_0.length c0_0, .slice A0_1 l0_1.length c0_1, .slice A0_2 l0_2.length c0_2, .slice A0_3 l0_3.length c0_3, .int .i64 a0_4], .slice Ao43 y197.length co43] rfl (by (try simp only [List.map_toArray, List.map_cons, List.map_nil]); first | done | rfl | (simp only [List.length_drop, List.length_take]; rfl)) ?_; (with_reducible refine (states_Close.calls _ _ l0_0 _ _ l0_1 _ _ l0_2 _ _ l0_3 a0_4 _ _ y197 t200 _ ?side1 ?side2 ?side3 ?side4 ?side5 ?side6 ?side7 ?side8 ?side9 ?side10 A12.out).mono ?_); (case side1 => repeat (first | exact (Kd.C_below HR0_0.out HB.out) | (with_reducible refine Kd.C_alloc ?_ _) | (with_reducible refine Kd.C_drewN ?_ _) | (with_reducible refine Kd.C_drew ?_))); (case side2 => exact HC0_0.out); (case side3 => repeat (first | exact (Kd.C_below HR0_1.out HB.out) | (with_reducible refine Kd.C_alloc ?_ _) | (with_reducible refine Kd.C_drewN ?_ _) | (with_reducible refine Kd.C_drew ?_))); (case side4 => exact HC0_1.out); (case side5 => repeat (first | exact (Kd.C_below HR0_2.out HB.out) | (with_reducible refine Kd.C_alloc ?_ _) | (with_reducible refine Kd.C_drewN ?_ _) | (with_reducible refine Kd.C_drew ?_))); (case side6 => exact HC0_2.out); (case side7 => repeat (first | exact (Kd.C_below HR0_3.out HB.out) | (with_reducible refine Kd.C_alloc ?_ _) | (with_reducible refine Kd.C_drewN ?_ _) | (with_reducible refine Kd.C_drew ?_))); (case side8 => exact HC0_3.out); (case side9 => repeat (first | exact (Kd.R_reads' HO199.out).2.2 | (with_reducible refine Kd.C_alloc ?_ _) | (with_reducible refine Kd.C_drewN ?_ _) | (with_reducible refine Kd.C_drew ?_))); (case side10 => exact (Kd.R_reads' HO199.out).2.1); rintro e w44 ⟨v201, rfl, ho0, hb⟩; refine ⟨_, rfl, ?_⟩; have n0_ := Aside0.mk (Kd.R_below (by (with_reducible repeat (first | apply Kd.R_alloc | apply Kd.R_drewN | apply Kd.R_drew)); exact HO_5.out) hb); have n1_ := Aside0.mk (Kd.R_elder' (by (with_reducible repeat (first | apply Kd.R_alloc | apply Kd.R_drewN | apply Kd.R_drew)); exact HO199.out) (Kd.R_base ho0) hb); have n2_ := Aside0.mk (Kd.R_lower (Kd.R_newB (Kd.R_new' ho0 (Kd.R_lt (by (with_reducible repeat (first | apply Kd.R_alloc | apply Kd.R_drewN | apply Kd.R_drew)); exact HO199.out))) (g := gb194) (o := .cells #[.int .i64 ((rd_T37 l1_0 x18_1).f0), .int .i64 ((rd_T37 l1_0 x18_1).f1)] 37 (0, 0)) (by (with_reducible repeat (first | refine blk_drewN ?_ _ | refine blk_drew ?_ | refine blk_alloc ?_ _)); exact BK194.out)) (below_size (by repeat (first | (with_reducible first | exact HB.out | apply below_alloc | apply pw_below_drewN | apply below_drew1 | refine below_set ?_ GE191.out | refine below_set ?_ GE192.out | refine below_set ?_ GE194.out) | exact HB.out)))); have n3_ := Aside0.mk (blk_below (g := gb191) (o := .cells #[.slice A0_0 l0_0.length c0_0, .slice A0_1 l0_1.length c0_1, .slice A0_2 l0_2.length c0_2, .slice A0_3 l0_3.length c0_3, .int .i64 a0_4] 27 (0, 0)) (by (with_reducible repeat (first | refine blk_drewN ?_ _ | refine blk_drew ?_ | refine blk_alloc ?_ _)); exact BK191.out) hb); have n4_ := Aside0.mk (blk_below (g := gb192) (o := .cells #[.slice (some ad193) l1_0.length c1_0, .slice A1_1 l1_1.length c1_1] 74 (0, 0)) (by (with_reducible repeat (first | refine blk_drewN ?_ _ | refine blk_drew ?_ | refine blk_alloc ?_ _)); exact BK192.out) hb); have n5_ := Aside0.mk (blk_below (g := gb194) (o := .cells #[.int .i64 ((rd_T37 l1_0 x18_1).f0), .int .i64 ((rd_T37 l1_0 x18_1).f1)] 37 (0, 0)) (by (with_reducible repeat (first | refine blk_drewN ?_ _ | refine blk_drew ?_ | refine blk_alloc ?_ _)); exact BK194.out) hb); have n6_ := Aside0.mk (below_step (by repeat (first | (with_reducible first | exact HB.out | apply below_alloc | apply pw_below_drewN | apply below_drew1 | refine below_set ?_ GE191.out | refine below_set ?_ GE192.out | refine below_set ?_ GE194.out) | exact HB.out)) hb); clear HO_5; clear HO199; clear BK191; clear BK192; clear BK194; clear HB; have HO_5 := n0_; have HO199 := n1_; have HO202 := n2_; have BK191 := n3_; have BK192 := n4_; have BK194 := n5_; have HB := n6_; clear n0_ n1_ n2_ n3_ n4_ n5_ n6_; (try clear hb); (try clear hb2); (try clear hk); (try clear hi); (try clear ho0); obtain ⟨Ao45, co45, eo45⟩ := Kd.R_slice HO202.out; subst eo45; have hcz46_0 : w44.cell? ⟨gb192, 0, none⟩ = some (.slice (some ad193) l1_0.length c1_0) := (blk_cell BK192.out 0).trans rfl; have hcz46_1 : w44.cell? ⟨gb192, 1, none⟩ = some (.slice A1_1 l1_1.length c1_1) := (blk_cell BK192.out 1).trans rfl; have hfz46_0 := blk_frozen BK192.out 0; have hfz46_1 := blk_frozen BK192.out 1; have p203 : 0 ≤ (x18_1 : Int) := of_decide_eq_true (by first | (with_reducible assumption) | assumption); have q203 : x18_1 < (l1_1.length : Int) := of_decide_eq_true (by first | (with_reducible assumption) | assumption); obtain ⟨ad203, e203, hx203_0⟩ := Kd.at_int HR1_1.out x18_1 p203 q203; cases e203; replace hx203_0 := (HB.out.cell (World.block_lt_of_cell? w _ hx203_0)).trans hx203_0; replace p203 := eq_true p203; replace q203 := eq_true q203))
                      go_roundg k1
                      case measure => have := HK1.out; omega
                      case rel => exact ⟨(x5_1), (wrap64 (x18_1 + 1)), (by first | rfl | (simp; done) | (simp [*]; done)), H', ⟨by have := HK1.out; omega⟩, ⟨by (with_reducible repeat (first | apply Kd.R_alloc | apply Kd.R_drewN | apply Kd.R_drew)); exact HO_5.out⟩, ⟨by (with_reducible repeat (first | refine blk_drewN ?_ _ | refine blk_drew ?_ | refine blk_alloc ?_ _)); exact BK191.out⟩, ⟨by (with_reducible repeat (first | refine blk_drewN ?_ _ | refine blk_drew ?_ | refine blk_alloc ?_ _)); exact BK192.out⟩, ⟨by repeat (first | (with_reducible first | exact HB.out | apply below_alloc | apply pw_below_drewN | apply below_drew1 | refine below_set ?_ GE191.out | refine below_set ?_ GE192.out | refine below_set ?_ GE194.out) | exact HB.out)⟩⟩
                    · rw [if_neg c30] at H
                      have c30b0 : ((rd l1_1 x18_1) == 0) = false := beq_eq_false_iff_ne.mpr c30
                      have c30b1 : ((rd l1_1 x18_1) != 0) = true := bne_iff_ne.mpr c30
                      by_cases c47 : x5_1.length < 17592186044416
                      · rw [if_pos c47] at H
                        have LMc47 := Aside0.mk c47
                        clear c47
                        obtain ⟨y204, hy204⟩ : ∃ y_ : List Int, y_ = (x5_1 ++ [(rd_T37 l1_0 x18_1).f0]) := ⟨_, rfl⟩
                        replace H : (look_Done.l0 k1 y204 ji3 (wrap64 (x18_1 + 1)) l0_0 l0_1 l0_2 l0_3 a0_4 l1_0 l1_1) = some r := by first | (rw [hy204]; with_reducible exact H) | (have H2_ := (Option.bind_some _ _).symm.trans H; rw [hy204]; with_reducible exact H2_) | (have H2_ := (Option.bind_some _ _).symm.trans H; with_reducible exact H2_) | with_reducible exact H | (rw [hy204]; exact H) | exact H
                        have Ny204 := Aside0.mk hy204
                        clear hy204
                        have H' := Aside0.mk H
                        clear H
                        have hnb48 := NB192_191.out
                        have hnc48 := NB191_192.out
                        have hcz49_0 : wr.cell? ⟨gb192, 0, none⟩ = some (.slice A1_0 l1_0.length c1_0) := (blk_cell BK192.out 0).trans rfl
                        have hcz49_1 : wr.cell? ⟨gb192, 1, none⟩ = some (.slice A1_1 l1_1.length c1_1) := (blk_cell BK192.out 1).trans rfl
                        have hfz49_0 := blk_frozen BK192.out 0
                        have hfz49_1 := blk_frozen BK192.out 1
                        have p193 : 0 ≤ (x18_1 : Int) := of_decide_eq_true (by first | (with_reducible assumption) | assumption)
                        have q193 : x18_1 < (l1_0.length : Int) := of_decide_eq_true (by first | (with_reducible assumption) | assumption)
                        obtain ⟨ad193, e193, hx193_0, hx193_1⟩ := at_T37 HR1_0.out x18_1 p193 q193
                        cases e193
                        replace hx193_0 := (HB.out.cell (World.block_lt_of_cell? w _ hx193_0)).trans hx193_0
                        replace hx193_1 := (HB.out.cell (World.block_lt_of_cell? w _ hx193_1)).trans hx193_1
                        replace p193 := eq_true p193
                        replace q193 := eq_true q193
                        go_wp2_with (first | ((with_reducible refine gate_dst (N := 7) rfl ?_); (try (refine gate_guard (by rfl) ?_; dsimp only)); refine box_event ?hg (N := 7) ?hd (cs := #[.int .i64 0, .int .i64 0]) (t := 37) ?hr ?_; (case hd => rfl); (case hg => rfl); (case hr => first | (go_simp; done) | (go_simp; rfl)); intro gb194 hg w50 hbox hb; have n0_ := Aside0.mk (Kd.R_below (by (with_reducible repeat (first | apply Kd.R_alloc | apply Kd.R_drewN | apply Kd.R_drew)); exact HO_5.out) hb); have n1_ := Aside0.mk (blk_below (g := gb191) (o := .cells #[.slice A0_0 l0_0.length c0_0, .slice A0_1 l0_1.length c0_1, .slice A0_2 l0_2.length c0_2, .slice A0_3 l0_3.length c0_3, .int .i64 a0_4] 27 (0, 0)) (by (with_reducible repeat (first | refine blk_drewN ?_ _ | refine blk_drew ?_ | refine blk_alloc ?_ _)); exact BK191.out) hb); have n2_ := Aside0.mk (blk_below (g := gb192) (o := .cells #[.slice (some ad193) l1_0.length c1_0, .slice A1_1 l1_1.length c1_1] 74 (0, 0)) (by (with_reducible repeat (first | refine blk_drewN ?_ _ | refine blk_drew ?_ | refine blk_alloc ?_ _)); exact BK192.out) hb); have n3_ := Aside0.mk (below_step (by repeat (first | (with_reducible first | exact HB.out | apply below_alloc | apply pw_below_drewN | apply below_drew1 | refine below_set ?_ GE191.out | refine below_set ?_ GE192.out) | exact HB.out)) hb); have n4_ := Aside0.mk (hbox); have n5_ := Aside0.mk ((by rw [hg]; exact (below_size (by repeat (first | (with_reducible first | exact HB.out | apply below_alloc | apply pw_below_drewN | apply below_drew1 | refine below_set ?_ GE191.out | refine below_set ?_ GE192.out) | exact HB.out))) : w.heap.size ≤ gb194)); have n6_ := Aside0.mk ((by rw [hg]; exact (below_size (by repeat (first | (with_reducible first | exact HB.out | apply below_alloc | apply pw_below_drewN | apply below_drew1 | refine below_set ?_ GE191.out | refine below_set ?_ GE192.out) | exact HB.out))) : w.heap.size ≤ gb194)); have n7_ := Aside0.mk ((by rw [hg]; exact Nat.ne_of_lt (blk_lt (g := gb191) (o := .cells #[.slice A0_0 l0_0.length c0_0, .slice A0_1 l0_1.length c0_1, .slice A0_2 l0_2.length c0_2, .slice A0_3 l0_3.length c0_3, .int .i64 a0_4] 27 (0, 0)) (by (with_reducible repeat (first | refine blk_drewN ?_ _ | refine blk_drew ?_ | refine blk_alloc ?_ _)); exact BK191.out)) : gb191 ≠ gb194)); have n8_ := Aside0.mk ((by rw [hg]; exact Nat.ne_of_gt (blk_lt (g := gb191) (o := .cells #[.slice A0_0 l0_0.length c0_0, .slice A0_1 l0_1.length c0_1, .slice A0_2 l0_2.length c0_2, .slice A0_3 l0_3.length c0_3, .int .i64 a0_4] 27 (0, 0)) (by (with_reducible repeat (first | refine blk_drewN ?_ _ | refine blk_drew ?_ | refine blk_alloc ?_ _)); exact BK191.out)) : gb194 ≠ gb191)); have n9_ := Aside0.mk ((by rw [hg]; exact Nat.ne_of_lt (blk_lt (g := gb192) (o := .cells #[.slice (some ad193) l1_0.length c1_0, .slice A1_1 l1_1.length c1_1] 74 (0, 0)) (by (with_reducible repeat (first | refine blk_drewN ?_ _ | refine blk_drew ?_ | refine blk_alloc ?_ _)); exact BK192.out)) : gb192 ≠ gb194)); have n10_ := Aside0.mk ((by rw [hg]; exact Nat.ne_of_gt (blk_lt (g := gb192) (o := .cells #[.slice (some ad193) l1_0.length c1_0, .slice A1_1 l1_1.length c1_1] 74 (0, 0)) (by (with_reducible repeat (first | refine blk_drewN ?_ _ | refine blk_drew ?_ | refine blk_alloc ?_ _)); exact BK192.out)) : gb194 ≠ gb192)); clear HO_5; clear BK191; clear BK192; clear HB; have HO_5 := n0_; have BK191 := n1_; have BK192 := n2_; have HB := n3_; have BK194 := n4_; have GW194 := n5_; have GE194 := n6_; have NB191_194 := n7_; have NB194_191 := n8_; have NB192_194 := n9_; have NB194_192 := n10_; clear n0_ n1_ n2_ n3_ n4_ n5_ n6_ n7_ n8_ n9_ n10_; clear hb hbox hg; have hnb51 := NB194_191.out; have hnc51 := NB191_194.out; have hnb52 := NB194_192.out; have hnc52 := NB192_194.out; have hcz53_0 : w50.cell? ⟨gb194, 0, none⟩ = some (.int .i64 0) := (blk_cell BK194.out 0).trans rfl; have hcz53_1 : w50.cell? ⟨gb194, 1, none⟩ = some (.int .i64 0) := (blk_cell BK194.out 1).trans rfl; have hfz53_0 := blk_frozen BK194.out 0; have hfz53_1 := blk_frozen BK194.out 1; have hcz54_0 : w50.cell? ⟨gb191, 0, none⟩ = some (.slice A0_0 l0_0.length c0_0) := (blk_cell BK191.out 0).trans rfl; have hcz54_1 : w50.cell? ⟨gb191, 1, none⟩ = some (.slice A0_1 l0_1.length c0_1) := (blk_cell BK191.out 1).trans rfl; have hcz54_2 : w50.cell? ⟨gb191, 2, none⟩ = some (.slice A0_2 l0_2.length c0_2) := (blk_cell BK191.out 2).trans rfl; have hcz54_3 : w50.cell? ⟨gb191, 3, none⟩ = some (.slice A0_3 l0_3.length c0_3) := (blk_cell BK191.out 3).trans rfl; have hcz54_4 : w50.cell? ⟨gb191, 4, none⟩ = some (.int .i64 a0_4) := (blk_cell BK191.out 4).trans rfl; have hfz54_0 := blk_frozen BK191.out 0; have hfz54_1 := blk_frozen BK191.out 1; have hfz54_2 := blk_frozen BK191.out 2; have hfz54_3 := blk_frozen BK191.out 3; have hfz54_4 := blk_frozen BK191.out 4) | ((with_reducible refine gate_callee (f := 15) rfl ?_); refine goesL_ (some 29) rfl rfl Tryd.func15 (by kernel_rfl) rfl #[.agg #[.slice A0_0 l0_0.length c0_0, .slice A0_1 l0_1.length c0_1, .slice A0_2 l0_2.length c0_2, .slice A0_3 l0_3.length c0_3, .int .i64 a0_4], .agg #[.int .i64 ((rd_T37 l1_0 x18_1).f0), .int .i64 ((rd_T37 l1_0 x18_1).f1)]] rfl (by (try simp only [List.map_toArray, List.map_cons, List.map_nil]); first | done | rfl | (simp only [List.length_drop, List.length_take]; rfl)) ?_; (with_reducible refine (states_Behind.calls _ _ l0_0 _ _ l0_1 _ _ l0_2 _ _ l0_3 a0_4 ((rd_T37 l1_0 x18_1).f0) ((rd_T37 l1_0 x18_1).f1) t195 false _ ?side1 ?side2 ?side3 ?side4 ?side5 ?side6 ?side7 ?side8 A11.out).mono ?_); (case side1 => exact Kd.C_below HR0_0.out (by repeat (first | (with_reducible first | exact HB.out | apply below_alloc | apply pw_below_drewN | apply below_drew1 | refine below_set ?_ GE191.out | refine below_set ?_ GE192.out | refine below_set ?_ GE194.out) | exact HB.out))); (case side2 => exact HC0_0.out); (case side3 => exact Kd.C_below HR0_1.out (by repeat (first | (with_reducible first | exact HB.out | apply below_alloc | apply pw_below_drewN | apply below_drew1 | refine below_set ?_ GE191.out | refine below_set ?_ GE192.out | refine below_set ?_ GE194.out) | exact HB.out))); (case side4 => exact HC0_1.out); (case side5 => exact Kd.C_below HR0_2.out (by repeat (first | (with_reducible first | exact HB.out | apply below_alloc | apply pw_below_drewN | apply below_drew1 | refine below_set ?_ GE191.out | refine below_set ?_ GE192.out | refine below_set ?_ GE194.out) | exact HB.out))); (case side6 => exact HC0_2.out); (case side7 => exact Kd.C_below HR0_3.out (by repeat (first | (with_reducible first | exact HB.out | apply below_alloc | apply pw_below_drewN | apply below_drew1 | refine below_set ?_ GE191.out | refine below_set ?_ GE192.out | refine below_set ?_ GE194.out) | exact HB.out))); (case side8 => exact HC0_3.out); rintro e w55 ⟨rfl, hb⟩; refine ⟨_, rfl, ?_⟩; have n0_ := Aside0.mk (Kd.R_below (by (with_reducible repeat (first | apply Kd.R_alloc | apply Kd.R_drewN | apply Kd.R_drew)); exact (Kd.R_mono (Kd.R_far (p := ⟨gb194, 1, none⟩) (Kd.R_far (p := ⟨gb194, 0, none⟩) (Kd.R_types HO_5.out BK194.out (by decide)) (fun _ hk => hk.2) (.int .i64 ((rd_T37 l1_0 x18_1).f0))) (fun _ hk => hk.2) (.int .i64 ((rd_T37 l1_0 x18_1).f1))) (fun _ h_ => h_.1))) hb); have n1_ := Aside0.mk (blk_below (g := gb191) (o := .cells #[.slice A0_0 l0_0.length c0_0, .slice A0_1 l0_1.length c0_1, .slice A0_2 l0_2.length c0_2, .slice A0_3 l0_3.length c0_3, .int .i64 a0_4] 27 (0, 0)) (by (with_reducible repeat (first | refine blk_drewN ?_ _ | refine blk_drew ?_ | refine blk_alloc ?_ _)); refine blk_far ?_ NB191_194.out _; (with_reducible repeat (first | refine blk_drewN ?_ _ | refine blk_drew ?_ | refine blk_alloc ?_ _)); refine blk_far ?_ NB191_194.out _; (with_reducible repeat (first | refine blk_drewN ?_ _ | refine blk_drew ?_ | refine blk_alloc ?_ _)); exact BK191.out) hb); have n2_ := Aside0.mk (blk_below (g := gb192) (o := .cells #[.slice (some ad193) l1_0.length c1_0, .slice A1_1 l1_1.length c1_1] 74 (0, 0)) (by (with_reducible repeat (first | refine blk_drewN ?_ _ | refine blk_drew ?_ | refine blk_alloc ?_ _)); refine blk_far ?_ NB192_194.out _; (with_reducible repeat (first | refine blk_drewN ?_ _ | refine blk_drew ?_ | refine blk_alloc ?_ _)); refine blk_far ?_ NB192_194.out _; (with_reducible repeat (first | refine blk_drewN ?_ _ | refine blk_drew ?_ | refine blk_alloc ?_ _)); exact BK192.out) hb); have n3_ := Aside0.mk (blk_below (g := gb194) (o := .cells #[.int .i64 ((rd_T37 l1_0 x18_1).f0), .int .i64 ((rd_T37 l1_0 x18_1).f1)] 37 (0, 0)) (by (with_reducible repeat (first | refine blk_drewN ?_ _ | refine blk_drew ?_ | refine blk_alloc ?_ _)); refine blk_put (cs := #[.int .i64 ((rd_T37 l1_0 x18_1).f0), .int .i64 0]) ?_ 1 _ rfl; (with_reducible repeat (first | refine blk_drewN ?_ _ | refine blk_drew ?_ | refine blk_alloc ?_ _)); refine blk_put (cs := #[.int .i64 0, .int .i64 0]) ?_ 0 _ rfl; (with_reducible repeat (first | refine blk_drewN ?_ _ | refine blk_drew ?_ | refine blk_alloc ?_ _)); exact BK194.out) hb); have n4_ := Aside0.mk (below_step (by repeat (first | (with_reducible first | exact HB.out | apply below_alloc | apply pw_below_drewN | apply below_drew1 | refine below_set ?_ GE191.out | refine below_set ?_ GE192.out | refine below_set ?_ GE194.out) | exact HB.out)) hb); clear HO_5; clear BK191; clear BK192; clear BK194; clear HB; have HO_5 := n0_; have BK191 := n1_; have BK192 := n2_; have BK194 := n3_; have HB := n4_; clear n0_ n1_ n2_ n3_ n4_; (try clear hb); (try clear hb2); (try clear hk); (try clear hi); have hcz56_0 : w55.cell? ⟨gb191, 0, none⟩ = some (.slice A0_0 l0_0.length c0_0) := (blk_cell BK191.out 0).trans rfl; have hcz56_1 : w55.cell? ⟨gb191, 1, none⟩ = some (.slice A0_1 l0_1.length c0_1) := (blk_cell BK191.out 1).trans rfl; have hcz56_2 : w55.cell? ⟨gb191, 2, none⟩ = some (.slice A0_2 l0_2.length c0_2) := (blk_cell BK191.out 2).trans rfl; have hcz56_3 : w55.cell? ⟨gb191, 3, none⟩ = some (.slice A0_3 l0_3.length c0_3) := (blk_cell BK191.out 3).trans rfl; have hcz56_4 : w55.cell? ⟨gb191, 4, none⟩ = some (.int .i64 a0_4) := (blk_cell BK191.out 4).trans rfl; have hfz56_0 := blk_frozen BK191.out 0; have hfz56_1 := blk_frozen BK191.out 1; have hfz56_2 := blk_frozen BK191.out 2; have hfz56_3 := blk_frozen BK191.out 3; have hfz56_4 := blk_frozen BK191.out 4; have hcz57_0 : w55.cell? ⟨gb194, 0, none⟩ = some (.int .i64 ((rd_T37 l1_0 x18_1).f0)) := (blk_cell BK194.out 0).trans rfl; have hcz57_1 : w55.cell? ⟨gb194, 1, none⟩ = some (.int .i64 ((rd_T37 l1_0 x18_1).f1)) := (blk_cell BK194.out 1).trans rfl; have hfz57_0 := blk_frozen BK194.out 0; have hfz57_1 := blk_frozen BK194.out 1) | ((with_reducible refine gate_dst (N := 34) rfl ?_); (try (refine gate_guard (by rfl) ?_; dsimp only)); refine Kd.R_lit k37 _ 37 ?hg (N := 34) ?hd (xs := ([(⟨(rd_T37 l1_0 x18_1).f0, (rd_T37 l1_0 x18_1).f1⟩ : S37)] : List (S37))) (inner := [.int .i64 ((rd_T37 l1_0 x18_1).f0), .int .i64 ((rd_T37 l1_0 x18_1).f1)]) (ok := fun _ => True) (okp := fun _ => True) ?hr ?hp (fun _ hk => hk) trivial (Below.refl _ _) (Nat.le_refl _) (by simp) ?_; (case hd => rfl); (case hg => rfl); (case hr => first | (go_simp; done) | (go_simp; rfl)); (case hp => exact (Reps.c2 (show Kd.M k37 _ _ _ (⟨(rd_T37 l1_0 x18_1).f0, (rd_T37 l1_0 x18_1).f1⟩ : S37) [.int .i64 ((rd_T37 l1_0 x18_1).f0), .int .i64 ((rd_T37 l1_0 x18_1).f1)] from (k37_mkM _ _ _ (⟨(rd_T37 l1_0 x18_1).f0, (rd_T37 l1_0 x18_1).f1⟩ : S37) )) (Reps.none _ _))); intro v198 w58 ho59 hb hg_ hnew_; clear hg_ hnew_; (first | rw [← Ny197.out] at ho59 | (simp only [Int.reduceToNat] at ho59; rw [← Ny197.out] at ho59)); have n0_ := Aside0.mk (Kd.R_below (by (with_reducible repeat (first | apply Kd.R_alloc | apply Kd.R_drewN | apply Kd.R_drew)); exact HO_5.out) hb); have n1_ := Aside0.mk (Kd.R_lower (Kd.R_newB ho59 (g := gb194) (o := .cells #[.int .i64 ((rd_T37 l1_0 x18_1).f0), .int .i64 ((rd_T37 l1_0 x18_1).f1)] 37 (0, 0)) (by (with_reducible repeat (first | refine blk_drewN ?_ _ | refine blk_drew ?_ | refine blk_alloc ?_ _)); exact BK194.out)) (below_size (by repeat (first | (with_reducible first | exact HB.out | apply below_alloc | apply pw_below_drewN | apply below_drew1 | refine below_set ?_ GE191.out | refine below_set ?_ GE192.out | refine below_set ?_ GE194.out) | exact HB.out)))); have n2_ := Aside0.mk (blk_below (g := gb191) (o := .cells #[.slice A0_0 l0_0.length c0_0, .slice A0_1 l0_1.length c0_1, .slice A0_2 l0_2.length c0_2, .slice A0_3 l0_3.length c0_3, .int .i64 a0_4] 27 (0, 0)) (by (with_reducible repeat (first | refine blk_drewN ?_ _ | refine blk_drew ?_ | refine blk_alloc ?_ _)); exact BK191.out) hb); have n3_ := Aside0.mk (blk_below (g := gb192) (o := .cells #[.slice (some ad193) l1_0.length c1_0, .slice A1_1 l1_1.length c1_1] 74 (0, 0)) (by (with_reducible repeat (first | refine blk_drewN ?_ _ | refine blk_drew ?_ | refine blk_alloc ?_ _)); exact BK192.out) hb); have n4_ := Aside0.mk (blk_below (g := gb194) (o := .cells #[.int .i64 ((rd_T37 l1_0 x18_1).f0), .int .i64 ((rd_T37 l1_0 x18_1).f1)] 37 (0, 0)) (by (with_reducible repeat (first | refine blk_drewN ?_ _ | refine blk_drew ?_ | refine blk_alloc ?_ _)); exact BK194.out) hb); have n5_ := Aside0.mk (below_step (by repeat (first | (with_reducible first | exact HB.out | apply below_alloc | apply pw_below_drewN | apply below_drew1 | refine below_set ?_ GE191.out | refine below_set ?_ GE192.out | refine below_set ?_ GE194.out) | exact HB.out)) hb); clear HO_5; clear BK191; clear BK192; clear BK194; clear HB; have HO_5 := n0_; have HO199 := n1_; have BK191 := n2_; have BK192 := n3_; have BK194 := n4_; have HB := n5_; clear n0_ n1_ n2_ n3_ n4_ n5_; clear hb ho59; obtain ⟨Ao60, co60, eo60⟩ := Kd.R_slice HO199.out; subst eo60) | ((with_reducible refine gate_callee (f := 18) rfl ?_); refine goesL_ (some 35) rfl rfl Tryd.func18 (by kernel_rfl) rfl #[.agg #[.slice A0_0 l0_0.length c0_0, .slice A0_1 l0_1.length c0_1, .slice A0_2 l0_2.length c0_2, .slice A0_3 l0_3.length c0_3, .int .i64 a0_4], .slice Ao60 y197.length co60] rfl (by (try simp only [List.map_toArray, List.map_cons, List.map_nil]); first | done | rfl | (simp only [List.length_drop, List.length_take]; rfl)) ?_; (with_reducible refine (states_Close.calls _ _ l0_0 _ _ l0_1 _ _ l0_2 _ _ l0_3 a0_4 _ _ y197 t200 _ ?side1 ?side2 ?side3 ?side4 ?side5 ?side6 ?side7 ?side8 ?side9 ?side10 A12.out).mono ?_); (case side1 => repeat (first | exact (Kd.C_below HR0_0.out HB.out) | (with_reducible refine Kd.C_alloc ?_ _) | (with_reducible refine Kd.C_drewN ?_ _) | (with_reducible refine Kd.C_drew ?_))); (case side2 => exact HC0_0.out); (case side3 => repeat (first | exact (Kd.C_below HR0_1.out HB.out) | (with_reducible refine Kd.C_alloc ?_ _) | (with_reducible refine Kd.C_drewN ?_ _) | (with_reducible refine Kd.C_drew ?_))); (case side4 => exact HC0_1.out); (case side5 => repeat (first | exact (Kd.C_below HR0_2.out HB.out) | (with_reducible refine Kd.C_alloc ?_ _) | (with_reducible refine Kd.C_drewN ?_ _) | (with_reducible refine Kd.C_drew ?_))); (case side6 => exact HC0_2.out); (case side7 => repeat (first | exact (Kd.C_below HR0_3.out HB.out) | (with_reducible refine Kd.C_alloc ?_ _) | (with_reducible refine Kd.C_drewN ?_ _) | (with_reducible refine Kd.C_drew ?_))); (case side8 => exact HC0_3.out); (case side9 => repeat (first | exact (Kd.R_reads' HO199.out).2.2 | (with_reducible refine Kd.C_alloc ?_ _) | (with_reducible refine Kd.C_drewN ?_ _) | (with_reducible refine Kd.C_drew ?_))); (case side10 => exact (Kd.R_reads' HO199.out).2.1); rintro e w61 ⟨v201, rfl, ho0, hb⟩; refine ⟨_, rfl, ?_⟩; have n0_ := Aside0.mk (Kd.R_below (by (with_reducible repeat (first | apply Kd.R_alloc | apply Kd.R_drewN | apply Kd.R_drew)); exact HO_5.out) hb); have n1_ := Aside0.mk (Kd.R_elder' (by (with_reducible repeat (first | apply Kd.R_alloc | apply Kd.R_drewN | apply Kd.R_drew)); exact HO199.out) (Kd.R_base ho0) hb); have n2_ := Aside0.mk (Kd.R_lower (Kd.R_newB (Kd.R_new' ho0 (Kd.R_lt (by (with_reducible repeat (first | apply Kd.R_alloc | apply Kd.R_drewN | apply Kd.R_drew)); exact HO199.out))) (g := gb194) (o := .cells #[.int .i64 ((rd_T37 l1_0 x18_1).f0), .int .i64 ((rd_T37 l1_0 x18_1).f1)] 37 (0, 0)) (by (with_reducible repeat (first | refine blk_drewN ?_ _ | refine blk_drew ?_ | refine blk_alloc ?_ _)); exact BK194.out)) (below_size (by repeat (first | (with_reducible first | exact HB.out | apply below_alloc | apply pw_below_drewN | apply below_drew1 | refine below_set ?_ GE191.out | refine below_set ?_ GE192.out | refine below_set ?_ GE194.out) | exact HB.out)))); have n3_ := Aside0.mk (blk_below (g := gb191) (o := .cells #[.slice A0_0 l0_0.length c0_0, .slice A0_1 l0_1.length c0_1, .slice A0_2 l0_2.length c0_2, .slice A0_3 l0_3.length c0_3, .int .i64 a0_4] 27 (0, 0)) (by (with_reducible repeat (first | refine blk_drewN ?_ _ | refine blk_drew ?_ | refine blk_alloc ?_ _)); exact BK191.out) hb); have n4_ := Aside0.mk (blk_below (g := gb192) (o := .cells #[.slice (some ad193) l1_0.length c1_0, .slice A1_1 l1_1.length c1_1] 74 (0, 0)) (by (with_reducible repeat (first | refine blk_drewN ?_ _ | refine blk_drew ?_ | refine blk_alloc ?_ _)); exact BK192.out) hb); have n5_ := Aside0.mk (blk_below (g := gb194) (o := .cells #[.int .i64 ((rd_T37 l1_0 x18_1).f0), .int .i64 ((rd_T37 l1_0 x18_1).f1)] 37 (0, 0)) (by (with_reducible repeat (first | refine blk_drewN ?_ _ | refine blk_drew ?_ | refine blk_alloc ?_ _)); exact BK194.out) hb); have n6_ := Aside0.mk (below_step (by repeat (first | (with_reducible first | exact HB.out | apply below_alloc | apply pw_below_drewN | apply below_drew1 | refine below_set ?_ GE191.out | refine below_set ?_ GE192.out | refine below_set ?_ GE194.out) | exact HB.out)) hb); clear HO_5; clear HO199; clear BK191; clear BK192; clear BK194; clear HB; have HO_5 := n0_; have HO199 := n1_; have HO202 := n2_; have BK191 := n3_; have BK192 := n4_; have BK194 := n5_; have HB := n6_; clear n0_ n1_ n2_ n3_ n4_ n5_ n6_; (try clear hb); (try clear hb2); (try clear hk); (try clear hi); (try clear ho0); obtain ⟨Ao62, co62, eo62⟩ := Kd.R_slice HO202.out; subst eo62; have hcz63_0 : w61.cell? ⟨gb192, 0, none⟩ = some (.slice (some ad193) l1_0.length c1_0) := (blk_cell BK192.out 0).trans rfl; have hcz63_1 : w61.cell? ⟨gb192, 1, none⟩ = some (.slice A1_1 l1_1.length c1_1) := (blk_cell BK192.out 1).trans rfl; have hfz63_0 := blk_frozen BK192.out 0; have hfz63_1 := blk_frozen BK192.out 1; have p203 : 0 ≤ (x18_1 : Int) := of_decide_eq_true (by first | (with_reducible assumption) | assumption); have q203 : x18_1 < (l1_1.length : Int) := of_decide_eq_true (by first | (with_reducible assumption) | assumption); obtain ⟨ad203, e203, hx203_0⟩ := Kd.at_int HR1_1.out x18_1 p203 q203; cases e203; replace hx203_0 := (HB.out.cell (World.block_lt_of_cell? w _ hx203_0)).trans hx203_0; replace p203 := eq_true p203; replace q203 := eq_true q203; have hcz64_0 : w61.cell? ⟨gb194, 0, none⟩ = some (.int .i64 ((rd_T37 l1_0 x18_1).f0)) := (blk_cell BK194.out 0).trans rfl; have hcz64_1 : w61.cell? ⟨gb194, 1, none⟩ = some (.int .i64 ((rd_T37 l1_0 x18_1).f1)) := (blk_cell BK194.out 1).trans rfl; have hfz64_0 := blk_frozen BK194.out 0; have hfz64_1 := blk_frozen BK194.out 1) | ((with_reducible refine gate_builtin (b := .append) (xs := #[.tmp 51, .tmp 54]) rfl ?_); (try (refine gate_guard (by rfl) ?_; dsimp only)); at_builtin; refine Kd.R_append (Kd.int .i64) (w0 := w) w.heap.size rfl (.tmp 51) (.tmp 54) 58 3 (.int .i64 0) 8 rfl Tryd.underlying58 info3 rfl (by decide) (by omega) u5 x5_1 ((rd_T37 l1_0 x18_1).f0) [.int .i64 ((rd_T37 l1_0 x18_1).f0)] (fun _ => True) (fun _ => False) rfl rfl ?aP (fun _ hk => hk.elim) ?aF ?aO ?aB ?aS ?aL ?_; (case aP => exact rfl); (case aB => exact (by repeat (first | (with_reducible first | exact HB.out | apply below_alloc | apply pw_below_drewN | apply below_drew1 | refine below_set ?_ GE191.out | refine below_set ?_ GE192.out | refine below_set ?_ GE194.out) | exact HB.out))); (case aF => exact (fun _ _ => trivial)); (case aO => exact (by (with_reducible repeat (first | apply Kd.R_alloc | apply Kd.R_drewN | apply Kd.R_drew)); exact HO_5.out)); (case aS => exact (below_size (by repeat (first | (with_reducible first | exact HB.out | apply below_alloc | apply pw_below_drewN | apply below_drew1 | refine below_set ?_ GE191.out | refine below_set ?_ GE192.out | refine below_set ?_ GE194.out) | exact HB.out)))); (case aL => have := LMc47.out; omega); intro v205 w65 ho hb hg hat; rw [← Ny204.out] at ho; have n0_ := Aside0.mk (blk_grown (g := gb191) (o := .cells #[.slice A0_0 l0_0.length c0_0, .slice A0_1 l0_1.length c0_1, .slice A0_2 l0_2.length c0_2, .slice A0_3 l0_3.length c0_3, .int .i64 a0_4] 27 (0, 0)) (by (with_reducible repeat (first | refine blk_drewN ?_ _ | refine blk_drew ?_ | refine blk_alloc ?_ _)); exact BK191.out) hg (Kd.R_ne HO_5.out BK191.out (by decide))); have n1_ := Aside0.mk (blk_grown (g := gb192) (o := .cells #[.slice (some ad193) l1_0.length c1_0, .slice (some ad203) l1_1.length c1_1] 74 (0, 0)) (by (with_reducible repeat (first | refine blk_drewN ?_ _ | refine blk_drew ?_ | refine blk_alloc ?_ _)); exact BK192.out) hg (Kd.R_ne HO_5.out BK192.out (by decide))); have n2_ := Aside0.mk (blk_grown (g := gb194) (o := .cells #[.int .i64 ((rd_T37 l1_0 x18_1).f0), .int .i64 ((rd_T37 l1_0 x18_1).f1)] 37 (0, 0)) (by (with_reducible repeat (first | refine blk_drewN ?_ _ | refine blk_drew ?_ | refine blk_alloc ?_ _)); exact BK194.out) hg (Kd.R_ne HO_5.out BK194.out (by decide))); have n3_ := Aside0.mk (Kd.R_over' (by (with_reducible repeat (first | apply Kd.R_alloc | apply Kd.R_drewN | apply Kd.R_drew)); exact HO199.out) (Kd.R_typed (by (with_reducible repeat (first | apply Kd.R_alloc | apply Kd.R_drewN | apply Kd.R_drew)); exact HO_5.out)) (by decide) hg); have n4_ := Aside0.mk (Kd.R_over' (by (with_reducible repeat (first | apply Kd.R_alloc | apply Kd.R_drewN | apply Kd.R_drew)); exact HO202.out) (Kd.R_typed (by (with_reducible repeat (first | apply Kd.R_alloc | apply Kd.R_drewN | apply Kd.R_drew)); exact HO_5.out)) (by decide) hg); have n5_ := Aside0.mk (hb); have n6_ := Aside0.mk (ho); clear BK191; clear BK192; clear BK194; clear HO199; clear HO202; clear HB; clear HO_5; have BK191 := n0_; have BK192 := n1_; have BK194 := n2_; have HO199 := n3_; have HO202 := n4_; have HB := n5_; have HO206 := n6_; clear n0_ n1_ n2_ n3_ n4_ n5_ n6_; clear ho hb hg hat))
                        go_roundg k1
                        case measure => have := HK1.out; omega
                        case rel => exact ⟨(y204), (wrap64 (x18_1 + 1)), (by first | rfl | (simp; done) | (simp [*]; done)), H', ⟨by have := HK1.out; omega⟩, ⟨by (with_reducible repeat (first | apply Kd.R_alloc | apply Kd.R_drewN | apply Kd.R_drew)); exact HO206.out⟩, ⟨by (with_reducible repeat (first | refine blk_drewN ?_ _ | refine blk_drew ?_ | refine blk_alloc ?_ _)); exact BK191.out⟩, ⟨by (with_reducible repeat (first | refine blk_drewN ?_ _ | refine blk_drew ?_ | refine blk_alloc ?_ _)); exact BK192.out⟩, ⟨by repeat (first | (with_reducible first | exact HB.out | apply below_alloc | apply pw_below_drewN | apply below_drew1 | refine below_set ?_ GE191.out | refine below_set ?_ GE192.out | refine below_set ?_ GE194.out) | exact HB.out)⟩⟩
                      · rw [if_neg c47] at H
                        exact absurd H (by simp)
                  · rw [if_neg c29] at H
                    exact absurd H (by simp)
                · rw [if_neg c28] at H
                  have c28b0 : decide (0 < (t200.length : Int)) = false := decide_eq_false c28
                  have c28b1 : decide (0 < t200.length) = false := decide_eq_false (by omega)
                  clear c28
                  have H' := Aside0.mk H
                  clear H
                  have hnb66 := NB192_191.out
                  have hnc66 := NB191_192.out
                  have hcz67_0 : wr.cell? ⟨gb192, 0, none⟩ = some (.slice A1_0 l1_0.length c1_0) := (blk_cell BK192.out 0).trans rfl
                  have hcz67_1 : wr.cell? ⟨gb192, 1, none⟩ = some (.slice A1_1 l1_1.length c1_1) := (blk_cell BK192.out 1).trans rfl
                  have hfz67_0 := blk_frozen BK192.out 0
                  have hfz67_1 := blk_frozen BK192.out 1
                  have p193 : 0 ≤ (x18_1 : Int) := of_decide_eq_true (by first | (with_reducible assumption) | assumption)
                  have q193 : x18_1 < (l1_0.length : Int) := of_decide_eq_true (by first | (with_reducible assumption) | assumption)
                  obtain ⟨ad193, e193, hx193_0, hx193_1⟩ := at_T37 HR1_0.out x18_1 p193 q193
                  cases e193
                  replace hx193_0 := (HB.out.cell (World.block_lt_of_cell? w _ hx193_0)).trans hx193_0
                  replace hx193_1 := (HB.out.cell (World.block_lt_of_cell? w _ hx193_1)).trans hx193_1
                  replace p193 := eq_true p193
                  replace q193 := eq_true q193
                  go_wp2_with (first | ((with_reducible refine gate_dst (N := 7) rfl ?_); (try (refine gate_guard (by rfl) ?_; dsimp only)); refine box_event ?hg (N := 7) ?hd (cs := #[.int .i64 0, .int .i64 0]) (t := 37) ?hr ?_; (case hd => rfl); (case hg => rfl); (case hr => first | (go_simp; done) | (go_simp; rfl)); intro gb194 hg w68 hbox hb; have n0_ := Aside0.mk (Kd.R_below (by (with_reducible repeat (first | apply Kd.R_alloc | apply Kd.R_drewN | apply Kd.R_drew)); exact HO_5.out) hb); have n1_ := Aside0.mk (blk_below (g := gb191) (o := .cells #[.slice A0_0 l0_0.length c0_0, .slice A0_1 l0_1.length c0_1, .slice A0_2 l0_2.length c0_2, .slice A0_3 l0_3.length c0_3, .int .i64 a0_4] 27 (0, 0)) (by (with_reducible repeat (first | refine blk_drewN ?_ _ | refine blk_drew ?_ | refine blk_alloc ?_ _)); exact BK191.out) hb); have n2_ := Aside0.mk (blk_below (g := gb192) (o := .cells #[.slice (some ad193) l1_0.length c1_0, .slice A1_1 l1_1.length c1_1] 74 (0, 0)) (by (with_reducible repeat (first | refine blk_drewN ?_ _ | refine blk_drew ?_ | refine blk_alloc ?_ _)); exact BK192.out) hb); have n3_ := Aside0.mk (below_step (by repeat (first | (with_reducible first | exact HB.out | apply below_alloc | apply pw_below_drewN | apply below_drew1 | refine below_set ?_ GE191.out | refine below_set ?_ GE192.out) | exact HB.out)) hb); have n4_ := Aside0.mk (hbox); have n5_ := Aside0.mk ((by rw [hg]; exact (below_size (by repeat (first | (with_reducible first | exact HB.out | apply below_alloc | apply pw_below_drewN | apply below_drew1 | refine below_set ?_ GE191.out | refine below_set ?_ GE192.out) | exact HB.out))) : w.heap.size ≤ gb194)); have n6_ := Aside0.mk ((by rw [hg]; exact (below_size (by repeat (first | (with_reducible first | exact HB.out | apply below_alloc | apply pw_below_drewN | apply below_drew1 | refine below_set ?_ GE191.out | refine below_set ?_ GE192.out) | exact HB.out))) : w.heap.size ≤ gb194)); have n7_ := Aside0.mk ((by rw [hg]; exact Nat.ne_of_lt (blk_lt (g := gb191) (o := .cells #[.slice A0_0 l0_0.length c0_0, .slice A0_1 l0_1.length c0_1, .slice A0_2 l0_2.length c0_2, .slice A0_3 l0_3.length c0_3, .int .i64 a0_4] 27 (0, 0)) (by (with_reducible repeat (first | refine blk_drewN ?_ _ | refine blk_drew ?_ | refine blk_alloc ?_ _)); exact BK191.out)) : gb191 ≠ gb194)); have n8_ := Aside0.mk ((by rw [hg]; exact Nat.ne_of_gt (blk_lt (g := gb191) (o := .cells #[.slice A0_0 l0_0.length c0_0, .slice A0_1 l0_1.length c0_1, .slice A0_2 l0_2.length c0_2, .slice A0_3 l0_3.length c0_3, .int .i64 a0_4] 27 (0, 0)) (by (with_reducible repeat (first | refine blk_drewN ?_ _ | refine blk_drew ?_ | refine blk_alloc ?_ _)); exact BK191.out)) : gb194 ≠ gb191)); have n9_ := Aside0.mk ((by rw [hg]; exact Nat.ne_of_lt (blk_lt (g := gb192) (o := .cells #[.slice (some ad193) l1_0.length c1_0, .slice A1_1 l1_1.length c1_1] 74 (0, 0)) (by (with_reducible repeat (first | refine blk_drewN ?_ _ | refine blk_drew ?_ | refine blk_alloc ?_ _)); exact BK192.out)) : gb192 ≠ gb194)); have n10_ := Aside0.mk ((by rw [hg]; exact Nat.ne_of_gt (blk_lt (g := gb192) (o := .cells #[.slice (some ad193) l1_0.length c1_0, .slice A1_1 l1_1.length c1_1] 74 (0, 0)) (by (with_reducible repeat (first | refine blk_drewN ?_ _ | refine blk_drew ?_ | refine blk_alloc ?_ _)); exact BK192.out)) : gb194 ≠ gb192)); clear HO_5; clear BK191; clear BK192; clear HB; have HO_5 := n0_; have BK191 := n1_; have BK192 := n2_; have HB := n3_; have BK194 := n4_; have GW194 := n5_; have GE194 := n6_; have NB191_194 := n7_; have NB194_191 := n8_; have NB192_194 := n9_; have NB194_192 := n10_; clear n0_ n1_ n2_ n3_ n4_ n5_ n6_ n7_ n8_ n9_ n10_; clear hb hbox hg; have hnb69 := NB194_191.out; have hnc69 := NB191_194.out; have hnb70 := NB194_192.out; have hnc70 := NB192_194.out; have hcz71_0 : w68.cell? ⟨gb194, 0, none⟩ = some (.int .i64 0) := (blk_cell BK194.out 0).trans rfl; have hcz71_1 : w68.cell? ⟨gb194, 1, none⟩ = some (.int .i64 0) := (blk_cell BK194.out 1).trans rfl; have hfz71_0 := blk_frozen BK194.out 0; have hfz71_1 := blk_frozen BK194.out 1; have hcz72_0 : w68.cell? ⟨gb191, 0, none⟩ = some (.slice A0_0 l0_0.length c0_0) := (blk_cell BK191.out 0).trans rfl; have hcz72_1 : w68.cell? ⟨gb191, 1, none⟩ = some (.slice A0_1 l0_1.length c0_1) := (blk_cell BK191.out 1).trans rfl; have hcz72_2 : w68.cell? ⟨gb191, 2, none⟩ = some (.slice A0_2 l0_2.length c0_2) := (blk_cell BK191.out 2).trans rfl; have hcz72_3 : w68.cell? ⟨gb191, 3, none⟩ = some (.slice A0_3 l0_3.length c0_3) := (blk_cell BK191.out 3).trans rfl; have hcz72_4 : w68.cell? ⟨gb191, 4, none⟩ = some (.int .i64 a0_4) := (blk_cell BK191.out 4).trans rfl; have hfz72_0 := blk_frozen BK191.out 0; have hfz72_1 := blk_frozen BK191.out 1; have hfz72_2 := blk_frozen BK191.out 2; have hfz72_3 := blk_frozen BK191.out 3; have hfz72_4 := blk_frozen BK191.out 4) | ((with_reducible refine gate_callee (f := 15) rfl ?_); refine goesL_ (some 29) rfl rfl Tryd.func15 (by kernel_rfl) rfl #[.agg #[.slice A0_0 l0_0.length c0_0, .slice A0_1 l0_1.length c0_1, .slice A0_2 l0_2.length c0_2, .slice A0_3 l0_3.length c0_3, .int .i64 a0_4], .agg #[.int .i64 ((rd_T37 l1_0 x18_1).f0), .int .i64 ((rd_T37 l1_0 x18_1).f1)]] rfl (by (try simp only [List.map_toArray, List.map_cons, List.map_nil]); first | done | rfl | (simp only [List.length_drop, List.length_take]; rfl)) ?_; (with_reducible refine (states_Behind.calls _ _ l0_0 _ _ l0_1 _ _ l0_2 _ _ l0_3 a0_4 ((rd_T37 l1_0 x18_1).f0) ((rd_T37 l1_0 x18_1).f1) t195 false _ ?side1 ?side2 ?side3 ?side4 ?side5 ?side6 ?side7 ?side8 A11.out).mono ?_); (case side1 => exact Kd.C_below HR0_0.out (by repeat (first | (with_reducible first | exact HB.out | apply below_alloc | apply pw_below_drewN | apply below_drew1 | refine below_set ?_ GE191.out | refine below_set ?_ GE192.out | refine below_set ?_ GE194.out) | exact HB.out))); (case side2 => exact HC0_0.out); (case side3 => exact Kd.C_below HR0_1.out (by repeat (first | (with_reducible first | exact HB.out | apply below_alloc | apply pw_below_drewN | apply below_drew1 | refine below_set ?_ GE191.out | refine below_set ?_ GE192.out | refine below_set ?_ GE194.out) | exact HB.out))); (case side4 => exact HC0_1.out); (case side5 => exact Kd.C_below HR0_2.out (by repeat (first | (with_reducible first | exact HB.out | apply below_alloc | apply pw_below_drewN | apply below_drew1 | refine below_set ?_ GE191.out | refine below_set ?_ GE192.out | refine below_set ?_ GE194.out) | exact HB.out))); (case side6 => exact HC0_2.out); (case side7 => exact Kd.C_below HR0_3.out (by repeat (first | (with_reducible first | exact HB.out | apply below_alloc | apply pw_below_drewN | apply below_drew1 | refine below_set ?_ GE191.out | refine below_set ?_ GE192.out | refine below_set ?_ GE194.out) | exact HB.out))); (case side8 => exact HC0_3.out); rintro e w73 ⟨rfl, hb⟩; refine ⟨_, rfl, ?_⟩; have n0_ := Aside0.mk (Kd.R_below (by (with_reducible repeat (first | apply Kd.R_alloc | apply Kd.R_drewN | apply Kd.R_drew)); exact (Kd.R_mono (Kd.R_far (p := ⟨gb194, 1, none⟩) (Kd.R_far (p := ⟨gb194, 0, none⟩) (Kd.R_types HO_5.out BK194.out (by decide)) (fun _ hk => hk.2) (.int .i64 ((rd_T37 l1_0 x18_1).f0))) (fun _ hk => hk.2) (.int .i64 ((rd_T37 l1_0 x18_1).f1))) (fun _ h_ => h_.1))) hb); have n1_ := Aside0.mk (blk_below (g := gb191) (o := .cells #[.slice A0_0 l0_0.length c0_0, .slice A0_1 l0_1.length c0_1, .slice A0_2 l0_2.length c0_2, .slice A0_3 l0_3.length c0_3, .int .i64 a0_4] 27 (0, 0)) (by (with_reducible repeat (first | refine blk_drewN ?_ _ | refine blk_drew ?_ | refine blk_alloc ?_ _)); refine blk_far ?_ NB191_194.out _; (with_reducible repeat (first | refine blk_drewN ?_ _ | refine blk_drew ?_ | refine blk_alloc ?_ _)); refine blk_far ?_ NB191_194.out _; (with_reducible repeat (first | refine blk_drewN ?_ _ | refine blk_drew ?_ | refine blk_alloc ?_ _)); exact BK191.out) hb); have n2_ := Aside0.mk (blk_below (g := gb192) (o := .cells #[.slice (some ad193) l1_0.length c1_0, .slice A1_1 l1_1.length c1_1] 74 (0, 0)) (by (with_reducible repeat (first | refine blk_drewN ?_ _ | refine blk_drew ?_ | refine blk_alloc ?_ _)); refine blk_far ?_ NB192_194.out _; (with_reducible repeat (first | refine blk_drewN ?_ _ | refine blk_drew ?_ | refine blk_alloc ?_ _)); refine blk_far ?_ NB192_194.out _; (with_reducible repeat (first | refine blk_drewN ?_ _ | refine blk_drew ?_ | refine blk_alloc ?_ _)); exact BK192.out) hb); have n3_ := Aside0.mk (blk_below (g := gb194) (o := .cells #[.int .i64 ((rd_T37 l1_0 x18_1).f0), .int .i64 ((rd_T37 l1_0 x18_1).f1)] 37 (0, 0)) (by (with_reducible repeat (first | refine blk_drewN ?_ _ | refine blk_drew ?_ | refine blk_alloc ?_ _)); refine blk_put (cs := #[.int .i64 ((rd_T37 l1_0 x18_1).f0), .int .i64 0]) ?_ 1 _ rfl; (with_reducible repeat (first | refine blk_drewN ?_ _ | refine blk_drew ?_ | refine blk_alloc ?_ _)); refine blk_put (cs := #[.int .i64 0, .int .i64 0]) ?_ 0 _ rfl; (with_reducible repeat (first | refine blk_drewN ?_ _ | refine blk_drew ?_ | refine blk_alloc ?_ _)); exact BK194.out) hb); have n4_ := Aside0.mk (below_step (by repeat (first | (with_reducible first | exact HB.out | apply below_alloc | apply pw_below_drewN | apply below_drew1 | refine below_set ?_ GE191.out | refine below_set ?_ GE192.out | refine below_set ?_ GE194.out) | exact HB.out)) hb); clear HO_5; clear BK191; clear BK192; clear BK194; clear HB; have HO_5 := n0_; have BK191 := n1_; have BK192 := n2_; have BK194 := n3_; have HB := n4_; clear n0_ n1_ n2_ n3_ n4_; (try clear hb); (try clear hb2); (try clear hk); (try clear hi); have hcz74_0 : w73.cell? ⟨gb191, 0, none⟩ = some (.slice A0_0 l0_0.length c0_0) := (blk_cell BK191.out 0).trans rfl; have hcz74_1 : w73.cell? ⟨gb191, 1, none⟩ = some (.slice A0_1 l0_1.length c0_1) := (blk_cell BK191.out 1).trans rfl; have hcz74_2 : w73.cell? ⟨gb191, 2, none⟩ = some (.slice A0_2 l0_2.length c0_2) := (blk_cell BK191.out 2).trans rfl; have hcz74_3 : w73.cell? ⟨gb191, 3, none⟩ = some (.slice A0_3 l0_3.length c0_3) := (blk_cell BK191.out 3).trans rfl; have hcz74_4 : w73.cell? ⟨gb191, 4, none⟩ = some (.int .i64 a0_4) := (blk_cell BK191.out 4).trans rfl; have hfz74_0 := blk_frozen BK191.out 0; have hfz74_1 := blk_frozen BK191.out 1; have hfz74_2 := blk_frozen BK191.out 2; have hfz74_3 := blk_frozen BK191.out 3; have hfz74_4 := blk_frozen BK191.out 4; have hcz75_0 : w73.cell? ⟨gb194, 0, none⟩ = some (.int .i64 ((rd_T37 l1_0 x18_1).f0)) := (blk_cell BK194.out 0).trans rfl; have hcz75_1 : w73.cell? ⟨gb194, 1, none⟩ = some (.int .i64 ((rd_T37 l1_0 x18_1).f1)) := (blk_cell BK194.out 1).trans rfl; have hfz75_0 := blk_frozen BK194.out 0; have hfz75_1 := blk_frozen BK194.out 1) | ((with_reducible refine gate_dst (N := 34) rfl ?_); (try (refine gate_guard (by rfl) ?_; dsimp only)); refine Kd.R_lit k37 _ 37 ?hg (N := 34) ?hd (xs := ([(⟨(rd_T37 l1_0 x18_1).f0, (rd_T37 l1_0 x18_1).f1⟩ : S37)] : List (S37))) (inner := [.int .i64 ((rd_T37 l1_0 x18_1).f0), .int .i64 ((rd_T37 l1_0 x18_1).f1)]) (ok := fun _ => True) (okp := fun _ => True) ?hr ?hp (fun _ hk => hk) trivial (Below.refl _ _) (Nat.le_refl _) (by simp) ?_; (case hd => rfl); (case hg => rfl); (case hr => first | (go_simp; done) | (go_simp; rfl)); (case hp => exact (Reps.c2 (show Kd.M k37 _ _ _ (⟨(rd_T37 l1_0 x18_1).f0, (rd_T37 l1_0 x18_1).f1⟩ : S37) [.int .i64 ((rd_T37 l1_0 x18_1).f0), .int .i64 ((rd_T37 l1_0 x18_1).f1)] from (k37_mkM _ _ _ (⟨(rd_T37 l1_0 x18_1).f0, (rd_T37 l1_0 x18_1).f1⟩ : S37) )) (Reps.none _ _))); intro v198 w76 ho77 hb hg_ hnew_; clear hg_ hnew_; (first | rw [← Ny197.out] at ho77 | (simp only [Int.reduceToNat] at ho77; rw [← Ny197.out] at ho77)); have n0_ := Aside0.mk (Kd.R_below (by (with_reducible repeat (first | apply Kd.R_alloc | apply Kd.R_drewN | apply Kd.R_drew)); exact HO_5.out) hb); have n1_ := Aside0.mk (Kd.R_lower (Kd.R_newB ho77 (g := gb194) (o := .cells #[.int .i64 ((rd_T37 l1_0 x18_1).f0), .int .i64 ((rd_T37 l1_0 x18_1).f1)] 37 (0, 0)) (by (with_reducible repeat (first | refine blk_drewN ?_ _ | refine blk_drew ?_ | refine blk_alloc ?_ _)); exact BK194.out)) (below_size (by repeat (first | (with_reducible first | exact HB.out | apply below_alloc | apply pw_below_drewN | apply below_drew1 | refine below_set ?_ GE191.out | refine below_set ?_ GE192.out | refine below_set ?_ GE194.out) | exact HB.out)))); have n2_ := Aside0.mk (blk_below (g := gb191) (o := .cells #[.slice A0_0 l0_0.length c0_0, .slice A0_1 l0_1.length c0_1, .slice A0_2 l0_2.length c0_2, .slice A0_3 l0_3.length c0_3, .int .i64 a0_4] 27 (0, 0)) (by (with_reducible repeat (first | refine blk_drewN ?_ _ | refine blk_drew ?_ | refine blk_alloc ?_ _)); exact BK191.out) hb); have n3_ := Aside0.mk (blk_below (g := gb192) (o := .cells #[.slice (some ad193) l1_0.length c1_0, .slice A1_1 l1_1.length c1_1] 74 (0, 0)) (by (with_reducible repeat (first | refine blk_drewN ?_ _ | refine blk_drew ?_ | refine blk_alloc ?_ _)); exact BK192.out) hb); have n4_ := Aside0.mk (blk_below (g := gb194) (o := .cells #[.int .i64 ((rd_T37 l1_0 x18_1).f0), .int .i64 ((rd_T37 l1_0 x18_1).f1)] 37 (0, 0)) (by (with_reducible repeat (first | refine blk_drewN ?_ _ | refine blk_drew ?_ | refine blk_alloc ?_ _)); exact BK194.out) hb); have n5_ := Aside0.mk (below_step (by repeat (first | (with_reducible first | exact HB.out | apply below_alloc | apply pw_below_drewN | apply below_drew1 | refine below_set ?_ GE191.out | refine below_set ?_ GE192.out | refine below_set ?_ GE194.out) | exact HB.out)) hb); clear HO_5; clear BK191; clear BK192; clear BK194; clear HB; have HO_5 := n0_; have HO199 := n1_; have BK191 := n2_; have BK192 := n3_; have BK194 := n4_; have HB := n5_; clear n0_ n1_ n2_ n3_ n4_ n5_; clear hb ho77; obtain ⟨Ao78, co78, eo78⟩ := Kd.R_slice HO199.out; subst eo78) | ((with_reducible refine gate_callee (f := 18) rfl ?_); refine goesL_ (some 35) rfl rfl Tryd.func18 (by kernel_rfl) rfl #[.agg #[.slice A0_0 l0_0.length c0_0, .slice A0_1 l0_1.length c0_1, .slice A0_2 l0_2.length c0_2, .slice A0_3 l0_3.length c0_3, .int .i64 a0_4], .slice Ao78 y197.length co78] rfl (by (try simp only [List.map_toArray, List.map_cons, List.map_nil]); first | done | rfl | (simp only [List.length_drop, List.length_take]; rfl)) ?_; (with_reducible refine (states_Close.calls _ _ l0_0 _ _ l0_1 _ _ l0_2 _ _ l0_3 a0_4 _ _ y197 t200 _ ?side1 ?side2 ?side3 ?side4 ?side5 ?side6 ?side7 ?side8 ?side9 ?side10 A12.out).mono ?_); (case side1 => repeat (first | exact (Kd.C_below HR0_0.out HB.out) | (with_reducible refine Kd.C_alloc ?_ _) | (with_reducible refine Kd.C_drewN ?_ _) | (with_reducible refine Kd.C_drew ?_))); (case side2 => exact HC0_0.out); (case side3 => repeat (first | exact (Kd.C_below HR0_1.out HB.out) | (with_reducible refine Kd.C_alloc ?_ _) | (with_reducible refine Kd.C_drewN ?_ _) | (with_reducible refine Kd.C_drew ?_))); (case side4 => exact HC0_1.out); (case side5 => repeat (first | exact (Kd.C_below HR0_2.out HB.out) | (with_reducible refine Kd.C_alloc ?_ _) | (with_reducible refine Kd.C_drewN ?_ _) | (with_reducible refine Kd.C_drew ?_))); (case side6 => exact HC0_2.out); (case side7 => repeat (first | exact (Kd.C_below HR0_3.out HB.out) | (with_reducible refine Kd.C_alloc ?_ _) | (with_reducible refine Kd.C_drewN ?_ _) | (with_reducible refine Kd.C_drew ?_))); (case side8 => exact HC0_3.out); (case side9 => repeat (first | exact (Kd.R_reads' HO199.out).2.2 | (with_reducible refine Kd.C_alloc ?_ _) | (with_reducible refine Kd.C_drewN ?_ _) | (with_reducible refine Kd.C_drew ?_))); (case side10 => exact (Kd.R_reads' HO199.out).2.1); rintro e w79 ⟨v201, rfl, ho0, hb⟩; refine ⟨_, rfl, ?_⟩; have n0_ := Aside0.mk (Kd.R_below (by (with_reducible repeat (first | apply Kd.R_alloc | apply Kd.R_drewN | apply Kd.R_drew)); exact HO_5.out) hb); have n1_ := Aside0.mk (Kd.R_elder' (by (with_reducible repeat (first | apply Kd.R_alloc | apply Kd.R_drewN | apply Kd.R_drew)); exact HO199.out) (Kd.R_base ho0) hb); have n2_ := Aside0.mk (Kd.R_lower (Kd.R_newB (Kd.R_new' ho0 (Kd.R_lt (by (with_reducible repeat (first | apply Kd.R_alloc | apply Kd.R_drewN | apply Kd.R_drew)); exact HO199.out))) (g := gb194) (o := .cells #[.int .i64 ((rd_T37 l1_0 x18_1).f0), .int .i64 ((rd_T37 l1_0 x18_1).f1)] 37 (0, 0)) (by (with_reducible repeat (first | refine blk_drewN ?_ _ | refine blk_drew ?_ | refine blk_alloc ?_ _)); exact BK194.out)) (below_size (by repeat (first | (with_reducible first | exact HB.out | apply below_alloc | apply pw_below_drewN | apply below_drew1 | refine below_set ?_ GE191.out | refine below_set ?_ GE192.out | refine below_set ?_ GE194.out) | exact HB.out)))); have n3_ := Aside0.mk (blk_below (g := gb191) (o := .cells #[.slice A0_0 l0_0.length c0_0, .slice A0_1 l0_1.length c0_1, .slice A0_2 l0_2.length c0_2, .slice A0_3 l0_3.length c0_3, .int .i64 a0_4] 27 (0, 0)) (by (with_reducible repeat (first | refine blk_drewN ?_ _ | refine blk_drew ?_ | refine blk_alloc ?_ _)); exact BK191.out) hb); have n4_ := Aside0.mk (blk_below (g := gb192) (o := .cells #[.slice (some ad193) l1_0.length c1_0, .slice A1_1 l1_1.length c1_1] 74 (0, 0)) (by (with_reducible repeat (first | refine blk_drewN ?_ _ | refine blk_drew ?_ | refine blk_alloc ?_ _)); exact BK192.out) hb); have n5_ := Aside0.mk (blk_below (g := gb194) (o := .cells #[.int .i64 ((rd_T37 l1_0 x18_1).f0), .int .i64 ((rd_T37 l1_0 x18_1).f1)] 37 (0, 0)) (by (with_reducible repeat (first | refine blk_drewN ?_ _ | refine blk_drew ?_ | refine blk_alloc ?_ _)); exact BK194.out) hb); have n6_ := Aside0.mk (below_step (by repeat (first | (with_reducible first | exact HB.out | apply below_alloc | apply pw_below_drewN | apply below_drew1 | refine below_set ?_ GE191.out | refine below_set ?_ GE192.out | refine below_set ?_ GE194.out) | exact HB.out)) hb); clear HO_5; clear HO199; clear BK191; clear BK192; clear BK194; clear HB; have HO_5 := n0_; have HO199 := n1_; have HO202 := n2_; have BK191 := n3_; have BK192 := n4_; have BK194 := n5_; have HB := n6_; clear n0_ n1_ n2_ n3_ n4_ n5_ n6_; (try clear hb); (try clear hb2); (try clear hk); (try clear hi); (try clear ho0); obtain ⟨Ao80, co80, eo80⟩ := Kd.R_slice HO202.out; subst eo80))
                  go_roundg k1
                  case measure => have := HK1.out; omega
                  case rel => exact ⟨(x5_1), (wrap64 (x18_1 + 1)), (by first | rfl | (simp; done) | (simp [*]; done)), H', ⟨by have := HK1.out; omega⟩, ⟨by (with_reducible repeat (first | apply Kd.R_alloc | apply Kd.R_drewN | apply Kd.R_drew)); exact HO_5.out⟩, ⟨by (with_reducible repeat (first | refine blk_drewN ?_ _ | refine blk_drew ?_ | refine blk_alloc ?_ _)); exact BK191.out⟩, ⟨by (with_reducible repeat (first | refine blk_drewN ?_ _ | refine blk_drew ?_ | refine blk_alloc ?_ _)); exact BK192.out⟩, ⟨by repeat (first | (with_reducible first | exact HB.out | apply below_alloc | apply pw_below_drewN | apply below_drew1 | refine below_set ?_ GE191.out | refine below_set ?_ GE192.out | refine below_set ?_ GE194.out) | exact HB.out)⟩⟩
            · rw [if_neg c10] at H
              exact absurd H (by simp)
          · rw [if_neg c9] at H
            exact absurd H (by simp)
        · rw [if_neg c8] at H
          have c8b0 : decide (x18_1 < ji3) = false := decide_eq_false c8
          clear c8
          obtain rfl := Option.some.inj H
          go_wp2
          go_ret
          exact ⟨_, by first | rfl | (simp [errW_none, errW_some] <;> rfl) | (simp only [← hji3]; first | rfl | (simp [errW_none, errW_some] <;> rfl)) | (simp [*, errW_none, errW_some] <;> rfl), by (with_reducible repeat (first | apply Kd.R_alloc | apply Kd.R_drewN | apply Kd.R_drew)); exact HO_5.out, by repeat (first | (with_reducible first | exact HB.out | apply below_alloc | apply pw_below_drewN | apply below_drew1 | refine below_set ?_ GE191.out | refine below_set ?_ GE192.out) | exact HB.out)⟩

  -- NOT PRINTED: function 71 (states_Item_71)

end Go.Proofs.YtclollnicbcooaaDoor.P
end

section
set_option linter.unusedVariables false
set_option linter.unusedSimpArgs false
namespace Go.Proofs.YtclollnicbcooaaDoor.P
open Go.RowKit Go.Lib Go.Sort Go.Proofs.YtclollnicbcooaaDoorW.PrintWords St Base

abbrev Spt := Int × Itm
def rngN (n : Int) : Prop := -9223372036854775808 ≤ n ∧ n ≤ 9223372036854775807
def rngS (s : Spt) : Prop := rngN s.1 ∧ rngI s.2
def valS (s : Spt) : Value := .agg #[.int .i64 s.1, .int .i64 s.2.1, .int .i64 s.2.2]
def encS (s : Spt) : List Value := [.int .i64 s.1, .int .i64 s.2.1, .int .i64 s.2.2]
theorem keyed129 : Maps.Keyed Tryd.prog 129 :=
 Maps.Keyed.of_law (deep_law_laid (by kernel_rfl) (m := 3) (by omega) (of_decide_eq_true (by kernel_rfl)) (by kernel_rfl) (by rw [Tryd.underlying129]))
theorem cells_valS (s : Spt) : (valS s).cells = #[.int .i64 s.1, .int .i64 s.2.1, .int .i64 s.2.2] := rfl
theorem key_ofS (s : Spt) (h : rngS s) : ∃ k, keyOf Tryd.prog 129 (valS s) = some k := by
 have hk : Tryd.prog.keyType 129 = true := by kernel_rfl
 have hc : Tryd.prog.cellsOf 129 = 3 := by kernel_rfl
 have hc37 : Tryd.prog.cellsOf 37 = 2 := by kernel_rfl
 have hc3 : Tryd.prog.cellsOf 3 = 1 := by kernel_rfl
 have hf : (valS s).formed Tryd.prog 129 = true := by
  unfold valS Value.formed
  rw [Tryd.underlying129]
  simp [hc]
 have h3 : ∀ (d : Nat) (n : Int), (-9223372036854775808 ≤ n ∧ n ≤ 9223372036854775807) → Tryd.prog.keyLits (d + 1) 3 [.int .i64 n] = some [.int .i64 n] := fun d n hn => by
  unfold Program.keyLits
  rw [Tryd.underlying3]
  simp [wf_i64 hn]
 have h37 : ∀ (d : Nat), Tryd.prog.keyLits (d + 2) 37 [.int .i64 s.2.1, .int .i64 s.2.2] = some [.int .i64 s.2.1, .int .i64 s.2.2] := fun d => by
  unfold Program.keyLits
  rw [Tryd.underlying37]
  simp [hc37, hc3, h3 d s.2.1 h.2.1, h3 d s.2.2 h.2.2]
 have hl : Tryd.prog.keyLits (Tryd.prog.types.size + 1) 129 [.int .i64 s.1, .int .i64 s.2.1, .int .i64 s.2.2] = some [.int .i64 s.1, .int .i64 s.2.1, .int .i64 s.2.2] := by
  have hpos : 1 < Tryd.prog.types.size := of_decide_eq_true (by kernel_rfl)
  obtain ⟨d, hd⟩ : ∃ d, Tryd.prog.types.size = d + 2 := ⟨Tryd.prog.types.size - 2, by omega⟩
  rw [hd]
  unfold Program.keyLits
  rw [Tryd.underlying129]
  simp [hc, hc37, hc3, h3 (d + 1) s.1 h.1, h37 d]
 unfold keyOf
 rw [Tryd.underlying129]
 simp only [hk, hf, Bool.and_self, if_true]
 have hcs : (valS s).cells.toList = [.int .i64 s.1, .int .i64 s.2.1, .int .i64 s.2.2] := rfl
 rw [hcs, hl]
 exact ⟨_, rfl⟩
theorem valS_inj {x y : Spt} (h : valS x = valS y) : x = y := by
 have h' : (valS x).cells.toList = (valS y).cells.toList := by rw [h]
 rw [cells_valS, cells_valS] at h'
 injection h' with h1 h2
 injection h2 with h2 h3
 injection h3 with h3 _
 injection h1 with _ h1
 injection h2 with _ h2
 injection h3 with _ h3
 exact Prod.ext h1 (Prod.ext h2 h3)

/-- What is ahead of a spot turns. -/
def upd (F : Spt → Int) (s : Spt) (u : Int) : Spt → Int := fun t => if t = s then u else F t
theorem upd_same (F : Spt → Int) (s : Spt) (u : Int) : upd F s u s = u := if_pos rfl
theorem upd_other (F : Spt → Int) {s t : Spt} (u : Int) (h : t ≠ s) : upd F s u t = F t := if_neg h

/-- The map at block r holds what is ahead of each spot; nothing: 0. -/
structure Ah (W : World) (r : Nat) (F : Spt → Int) : Prop where
 ex : ∃ l, Mp Tryd.prog 129 W r l ∧ (l.map Prod.fst).Nodup ∧ (∀ p ∈ l, ∃ s, rngS s ∧ p = (valS s, .int .u64 (F s))) ∧ (∀ s, F s ≠ 0 → (valS s, Value.int .u64 (F s)) ∈ l)
theorem Ah.same {W W' : World} {r : Nat} {F : Spt → Int} (h : Ah W r F) (he : W'.heap[r]? = W.heap[r]?) : Ah W' r F := by
 obtain ⟨l, hm, hn, h1, h2⟩ := h.ex
 exact ⟨⟨l, hm.same he, hn, h1, h2⟩⟩
theorem Ah.lt {W : World} {r : Nat} {F : Spt → Int} (h : Ah W r F) : r < W.heap.size := by
 obtain ⟨l, hm, _⟩ := h.ex
 exact hm.lt
theorem Ah.new (W : World) : Ah (W.alloc (.map #[] 0)) W.heap.size (fun _ => 0) :=
 ⟨⟨[], Mp.new Tryd.prog 129 W, List.nodup_nil, (fun p hp => by cases hp), fun s h => absurd rfl h⟩⟩
theorem Ah.look {W : World} {r : Nat} {F : Spt → Int} (h : Ah W r F) {s : Spt} (hs : rngS s) (W' : World) (he : W'.heap[r]? = W.heap[r]?) : (Instr.lookup 123 (.map (some r)) (valS s) false).run Tryd.prog W' = .ok (.int .u64 (F s)) W' := by
 obtain ⟨l, hm, hnd, h1, h2⟩ := h.ex
 obtain ⟨k, hk⟩ := key_ofS s hs
 have hm' := hm.same he
 by_cases hin : ∃ p ∈ l, p.1 = valS s
 ·obtain ⟨p, hp, e⟩ := hin
  have hu : ∀ p ∈ l, p.1 = valS s → p.2 = .int .u64 (F s) := fun p hp e => by
   obtain ⟨t, _, rfl⟩ := h1 p hp
   rw [valS_inj e]
  have hi : (valS s, Value.int .u64 (F s)) ∈ l := by
   have := hu p hp e
   rw [← e, ← this]; exact hp
  exact hm'.find (et := 76) Tryd.underlying123 keyed129 hk hi hu false
 ·have hz : F s = 0 := Classical.byContradiction fun hne => hin ⟨_, h2 s hne, rfl⟩
  rw [hz]
  exact hm'.miss (et := 76) Tryd.underlying123 keyed129 hk (Tryd.zeroValue76 W') (fun p hp e => hin ⟨p, hp, e⟩) false
/-- The map's block alone turns. -/
structure One (W W' : World) (r : Nat) : Prop where
 size : W'.heap.size = W.heap.size
 other : ∀ k, k ≠ r → W'.heap[k]? = W.heap[k]?
 os : W'.os = W.os
 tape : W'.tape = W.tape
 output : W'.output = W.output
theorem put_one (W : World) (r : Nat) (k v : Value) : One W (Mp.put W r k v) r := by
 obtain ⟨h1, h2⟩ := Mp.put_heap W r k v
 refine ⟨h1, h2, ?_, ?_, ?_⟩ <;> unfold Mp.put <;> split <;> rfl
theorem Ah.store {W : World} {r : Nat} {F : Spt → Int} (h : Ah W r F) {s : Spt} (hs : rngS s) (u : Int) :
  ∃ W', (Instr.mapUpdate 123 (.map (some r)) (valS s) (.int .u64 u)).run Tryd.prog W = .ok () W' ∧ Ah W' r (upd F s u) ∧ One W W' r := by
 obtain ⟨l, hm, hnd, h1, h2⟩ := h.ex
 obtain ⟨k, hk⟩ := key_ofS s hs
 by_cases hin : ∃ p ∈ l, p.1 = valS s
 ·obtain ⟨es, c, hb, rfl⟩ := hm.holds
  have hks : ∀ e ∈ es.toList, ∃ l, keyOf Tryd.prog 129 e.key = some l := fun e he => hm.keys (e.key, e.val) (List.mem_map.2 ⟨e, he, rfl⟩)
  rcases keyed129.find W hk es.toList hks with ⟨-, hno⟩ | ⟨j, e, hf, hj, hkey⟩
  ·obtain ⟨p, hp, e⟩ := hin
   obtain ⟨e0, he0, rfl⟩ := List.mem_map.1 hp
   exact absurd e (hno e0 he0)
  ·obtain ⟨W', hW'⟩ : ∃ W' : World, W' = { W with heap := W.heap.setIfInBounds r (.map (es.modify j fun e => { e with key := valS s, val := .int .u64 u }) c) } := ⟨_, rfl⟩
   have hset := MapKept.heap_set (w := W) (o' := .map (es.modify j fun e => { e with key := valS s, val := .int .u64 u }) c) hb
   have hst := keyed129.stays W hk
   have hj' : es[j]? = some e := by rw [← hj]; simp
   obtain ⟨L, hL⟩ : ∃ L, L = es.toList.map (fun e => (e.key, e.val)) := ⟨_, rfl⟩
   have hmod : (es.modify j fun e => { e with key := valS s, val := .int .u64 u }).toList.map (fun e => (e.key, e.val)) = L.set j (valS s, .int .u64 u) := by
    rw [hL]
    apply List.ext_getElem?
    intro i
    simp only [Array.toList_modify, List.getElem?_map, List.getElem?_modify, List.getElem?_set]
    by_cases hji : j = i
    ·subst hji
     rw [if_pos rfl, hj]
     have := (List.getElem?_eq_some_iff.1 hj).1
     rw [Array.length_toList] at this
     simp [this]
    ·rw [if_neg hji]
     simp [hji]
   have hLj : L[j]? = some (valS s, e.val) := by rw [hL, List.getElem?_map, hj, ← hkey]; rfl
   rw [← hL] at hnd h1 h2
   have hmem : ∀ p ∈ L.set j (valS s, .int .u64 u), p = (valS s, .int .u64 u) ∨ (p ∈ L ∧ p.1 ≠ valS s) := fun p hp => by
    obtain ⟨i, hi⟩ := List.mem_iff_getElem?.1 hp
    rw [List.getElem?_set] at hi
    by_cases hji : j = i
    ·subst hji
     rw [if_pos rfl] at hi
     split at hi
     ·injection hi with hi; exact .inl hi.symm
     ·cases hi
    ·rw [if_neg hji] at hi
     refine .inr ⟨List.mem_of_getElem? hi, fun e' => hji ?_⟩
     have hij : (L.map Prod.fst)[i]? = (L.map Prod.fst)[j]? := by rw [List.getElem?_map, List.getElem?_map, hi, hLj]; simp [e']
     have hlt : i < (L.map Prod.fst).length := by rw [List.length_map]; exact (List.getElem?_eq_some_iff.1 hi).1
     exact ((List.getElem?_inj hlt hnd).1 hij).symm
   refine ⟨W', ?_, ⟨⟨L.set j (valS s, .int .u64 u), ⟨⟨_, c, ?_, hmod⟩, ?_⟩, ?_, ?_, ?_⟩⟩, ?_⟩
   ·rw [hW']
    simp [Instr.mapUpdate, run_underlying Tryd.underlying123, MapKept.run_getObj_map hb, keyed129.check W _ hk, hf, hj', hkey, hst, MapKept.run_setObj_map _ hb, Result.andThen]
   ·rw [hW']; exact hset.1
   ·intro p hp
    rcases hmem p hp with rfl | ⟨hp, _⟩
    ·exact ⟨k, hk⟩
    ·exact hm.keys p (by rw [← hL]; exact hp)
   ·rw [List.map_set]
    have e5 : (L.map Prod.fst).set j (valS s) = L.map Prod.fst := by
     apply List.ext_getElem?
     intro i
     rw [List.getElem?_set]
     by_cases hji : j = i
     ·subst hji
      have := (List.getElem?_eq_some_iff.1 hLj).1
      rw [if_pos rfl, if_pos (by rw [List.length_map]; exact this), List.getElem?_map, hLj]
      rfl
     ·rw [if_neg hji]
    rw [e5]
    exact hnd
   ·intro p hp
    rcases hmem p hp with rfl | ⟨hp, hne⟩
    ·exact ⟨s, hs, by rw [upd_same]⟩
    ·obtain ⟨t, ht, rfl⟩ := h1 p hp
     exact ⟨t, ht, by rw [upd_other F u (fun e => hne (by rw [e]))]⟩
   ·intro t ht
    by_cases hts : t = s
    ·subst hts
     rw [upd_same]
     exact List.mem_iff_getElem?.2 ⟨j, by rw [List.getElem?_set, if_pos rfl, if_pos (List.getElem?_eq_some_iff.1 hLj).1]⟩
    ·rw [upd_other F u hts] at ht ⊢
     obtain ⟨i, hi⟩ := List.mem_iff_getElem?.1 (h2 t ht)
     refine List.mem_iff_getElem?.2 ⟨i, ?_⟩
     rw [List.getElem?_set, if_neg, hi]
     intro e'
     subst e'
     rw [hLj] at hi
     injection hi with hi
     injection hi with hi _
     exact hts (valS_inj hi).symm
   ·rw [hW']
    exact ⟨by simp, hset.2, rfl, rfl, rfl⟩
 ·have hno : ∀ p ∈ l, p.1 ≠ valS s := fun p hp e => hin ⟨p, hp, e⟩
  refine ⟨Mp.put W r (valS s) (.int .u64 u), hm.store (et := 76) Tryd.underlying123 keyed129 hk hno _, ⟨⟨_, hm.put_is hk (.int .u64 u), ?_, ?_, ?_⟩⟩, put_one W r _ _⟩
  ·rw [List.map_append, List.nodup_append]
   refine ⟨hnd, by simp, fun a ha b hb e => ?_⟩
   obtain ⟨p, hp, rfl⟩ := List.mem_map.1 ha
   simp at hb
   exact hno p hp (e.trans hb)
  ·intro p hp
   rcases List.mem_append.1 hp with hp | hp
   ·obtain ⟨t, ht, rfl⟩ := h1 p hp
    refine ⟨t, ht, ?_⟩
    rw [upd_other F u (fun e => hno _ hp (by rw [e]))]
   ·rw [List.mem_singleton] at hp
    exact ⟨s, hs, by rw [hp, upd_same]⟩
  ·intro t ht
   by_cases hts : t = s
   ·subst hts
    rw [upd_same]
    exact List.mem_append_right _ (List.mem_singleton.2 rfl)
   ·rw [upd_other F u hts] at ht ⊢
    exact List.mem_append_left _ (h2 t ht)
end Go.Proofs.YtclollnicbcooaaDoor.P
end

section
set_option linter.unusedVariables false
set_option linter.unusedSimpArgs false
namespace Go.Proofs.YtclollnicbcooaaDoor.P
open Go.RowKit Go.Lib Go.Sort Go.Proofs.YtclollnicbcooaaDoorW.PrintWords Go.Proofs.YtclollnicbcooaaDoorW.PrintLast Go.Proofs.YtclollnicbcooaaDoorW.PrintMore St Base
attribute [local go_sem] Oper.semAt_some

structure Lk (w : World) (B : Nat) (g0 g1 g2 g3 g4 Kv Nv : Value) (F : Spt → Int) (q : List Spt) (vq : Value) (ok : Nat → Prop) (W : World) : Prop where
 hb : RowKit.Below w.heap.size w W
 hB : w.heap.size ≤ B
 bg : W.heap[B]? = some (.cells #[g0, g1, g2, g3, g4] 27 (0, 0))
 ba : W.heap[B + 1]? = some (.cells #[Kv, Nv] 49 (0, 0))
 mp : Ah W (B + 2) F
 bx : W.heap[B + 3]? = some (.cells #[g0, g1, g2, g3, g4, Kv, Nv, .map (some (B + 2)), vq] 126 (0, 0))
 hq : (Kd.raw 3).Q 129 W (B + 4) ok vq (q.map encS)
 ge : ∀ k, ok k → B + 4 ≤ k
section
variable {w : World} {B : Nat} {g0 g1 g2 g3 g4 Kv Nv : Value} {F F' : Spt → Int} {q : List Spt} {vq v1 : Value} {ok : Nat → Prop} {W W1 : World} {s : Spt}
theorem Lk.size (h : Lk w B g0 g1 g2 g3 g4 Kv Nv F q vq ok W) : B + 4 ≤ W.heap.size := by have := blk_lt h.bx; omega
theorem Lk.below (h : Lk w B g0 g1 g2 g3 g4 Kv Nv F q vq ok W) (hb : RowKit.Below W.heap.size W W1) : Lk w B g0 g1 g2 g3 g4 Kv Nv F q vq ok W1 where
 hb := below_step h.hb hb
 hB := h.hB
 bg := blk_below h.bg hb
 ba := blk_below h.ba hb
 mp := h.mp.same (hb.block _ h.mp.lt)
 bx := blk_below h.bx hb
 hq := Kd.Q_below h.hq hb
 ge := h.ge
theorem Lk.one (h : Lk w B g0 g1 g2 g3 g4 Kv Nv F q vq ok W) (ho : One W W1 (B + 2)) (hF : Ah W1 (B + 2) F') : Lk w B g0 g1 g2 g3 g4 Kv Nv F' q vq ok W1 where
 hb := ⟨ho.os.trans h.hb.os, ho.tape.trans h.hb.tape, ho.output.trans h.hb.output, by rw [ho.size]; exact h.hb.size, fun i hi => (ho.other i (by have := h.hB; omega)).trans (h.hb.block i hi)⟩
 hB := h.hB
 bg := (ho.other _ (by omega)).trans h.bg
 ba := (ho.other _ (by omega)).trans h.ba
 mp := hF
 bx := (ho.other _ (by omega)).trans h.bx
 hq := Kd.Q_step h.hq (fun k hk _ => ho.other k (by have := h.ge k hk; omega))
 ge := h.ge
theorem Lk.push (h : Lk w B g0 g1 g2 g3 g4 Kv Nv F q vq ok W) {q' : List Spt} (hq : (Kd.raw 3).Q 129 W1 (B + 4) ok v1 (q'.map encS)) (hg : W.grownBy W1 vq.ownBlock) : Lk w B g0 g1 g2 g3 g4 Kv Nv F q' v1 ok (W1.setCell ⟨B + 3, 8, none⟩ v1) := by
 have hbs := fun k hk => h.ge k (h.hq.1 k hk)
 have hk : ∀ k, k < B + 4 → W1.heap[k]? = W.heap[k]? := fun k hk => hg.block k (by have := h.size; omega) (fun e => by have := hbs k e.symm; omega)
 have hf : ∀ k, k ≠ B + 3 → (W1.setCell ⟨B + 3, 8, none⟩ v1).heap[k]? = W1.heap[k]? := fun k hk => Below.heap_setCell W1 ⟨B + 3, 8, none⟩ v1 k hk
 have hB := h.hB
 refine ⟨below_set (below_grown h.hb hg (fun k hk => by have := hbs k hk; omega)) (by show w.heap.size ≤ B + 3; omega), hB, ?_, ?_, ?_, ?_, ?_, h.ge⟩
 ·exact ((hf _ (by omega)).trans (hk _ (by omega))).trans h.bg
 ·exact ((hf _ (by omega)).trans (hk _ (by omega))).trans h.ba
 ·exact h.mp.same ((hf _ (by omega)).trans (hk _ (by omega)))
 ·exact blk_put ((hk _ (by omega)).trans h.bx) 8 _ rfl
 ·exact Kd.Q_far hq (fun k hk => by have := h.ge k hk; show k ≠ B + 3; omega) _
end
def moreL (F : Spt → Int) (q : List Spt) (s : Spt) (t : Int) : (Spt → Int) × List Spt :=
 if Go.bits .or .u64 (F s) t = F s then (F, q) else (upd F s (Go.bits .or .u64 (F s) t), q ++ [s])
theorem raw_enc (s : Spt) {W : World} {b : Nat} {ok : Nat → Prop} : (Kd.raw 3).M W b ok (encS s) (encS s) := ⟨rfl, rfl, fun u hu => by
 simp [encS] at hu
 rcases hu with rfl | rfl | rfl <;> rfl⟩
theorem info129 : (Tryd.prog.info? 129).map (fun i => (i.zero, i.size, i.bytes)) = some (some (.agg #[.int .i64 0, .int .i64 0, .int .i64 0]), 3, 24) := by kernel_rfl

/-- A spot laid to the queue, as an operation. -/
theorem append_spot {w : World} {B : Nat} {g0 g1 g2 g3 g4 Kv Nv : Value} {F : Spt → Int} {q : List Spt} {vq : Value} {ok : Nat → Prop} {W : World} (h : Lk w B g0 g1 g2 g3 g4 Kv Nv F q vq ok W) (s : Spt) (hf : ∀ k, W.heap.size ≤ k → ok k) (hl : q.length ≤ 1000000000)
  (ops : Array Oper) (o : Oper) (ac : Act) (Q : Exit → Act → World → Prop) (Kc : Act → World → Prop) (hw : Region.wanted o (yielded ops ac.tmps) = true)
  (ho : o.op = .call { callee := .builtin .append, args := #[.tmp 33, .tmp 35], argTypes := #[124, 124] }) (hs : ac.eval (.tmp 33) = vq) (hx : ac.eval (.tmp 35) = .slice (some ⟨W.heap.size, 0, none⟩) 1 1)
  (hk : ∀ v1 w1, (Kd.raw 3).Q 129 w1 (B + 4) ok v1 ((q ++ [s]).map encS) → W.grownBy w1 vq.ownBlock → (v1.ownBlock = vq.ownBlock ∨ ∃ b, v1.ownBlock = some b ∧ W.heap.size ≤ b) → Kc (ac.put o.dst v1) w1) :
  if Region.wanted o (yielded ops ac.tmps) = true then Oper.wp Tryd.prog o ac (W.alloc (.cells #[.int .i64 s.1, .int .i64 s.2.1, .int .i64 s.2.2] 129)) Kc Q else Kc (ac.put o.dst undef) (W.alloc (.cells #[.int .i64 s.1, .int .i64 s.2.1, .int .i64 s.2.2] 129)) := by
 have hsz := h.size
 refine Kd.Q_append_step (Kd.raw 3) (w0 := W) (B + 4) hw (.tmp 33) (.tmp 35) 124 129 _ 24 ho Tryd.underlying124 info129 rfl (by decide) (by decide) vq (q.map encS) (encS s) (encS s) ok (fun _ => False) hs hx (raw_enc s) (fun _ h => h.elim) hf h.hq (RowKit.Below.refl _ _) hsz (by rw [List.length_map]; omega) ?_
 intro v1 w1 hR hB hg hat
 exact hk v1 w1 (by rw [List.map_append]; exact hR) hg hat

set_option maxHeartbeats 4000000 in
set_option maxRecDepth 100000 in
theorem more_calls {w : World} {B : Nat} {g0 g1 g2 g3 g4 Kv Nv : Value} {F : Spt → Int} {q : List Spt} {vq : Value} {ok : Nat → Prop} {W : World} (h : Lk w B g0 g1 g2 g3 g4 Kv Nv F q vq ok W) {s : Spt} (hs : rngS s) (t : Int) (hf : ∀ k, W.heap.size ≤ k → ok k) (hl : q.length ≤ 1000000000) :
  Calls Tryd.prog 75 #[.pointer (some ⟨B + 3, 0, none⟩), valS s, .int .u64 t] W fun e w' => e = .returned (.tuple #[]) ∧ ∃ vq', Lk w B g0 g1 g2 g3 g4 Kv Nv (moreL F q s t).1 (moreL F q s t).2 vq' ok w' ∧ W.heap.size ≤ w'.heap.size ∧ (∀ k, k < W.heap.size → k ≠ B + 2 → k ≠ B + 3 → some k ≠ vq.ownBlock → w'.heap[k]? = W.heap[k]?) ∧ (vq'.ownBlock = vq.ownBlock ∨ ∃ b, vq'.ownBlock = some b ∧ W.heap.size ≤ b) := by
 have H := Aside0.mk h
 have HS := Aside0.mk hs
 have HF := Aside0.mk hf
 have HL := Aside0.mk hl
 clear h hs hf hl
 have hu129 := Tryd.underlying129
 have hu126 := Tryd.underlying126
 have hu37 := Tryd.underlying37
 unfold valS
 go_enter Tryd.func75, Tryd.ntmps75
 go_upto_region 1 with fail
 have BS := Aside0.mk (blk_new W (Obj.cells #[.int .i64 s.1, .int .i64 s.2.1, .int .i64 s.2.2] 129))
 have HB1 := Aside0.mk (below_alloc (RowKit.Below.refl W.heap.size W) (Obj.cells #[.int .i64 s.1, .int .i64 s.2.1, .int .i64 s.2.2] 129))
 have H1 := Aside0.mk (H.out.below (below_alloc (RowKit.Below.refl W.heap.size W) (Obj.cells #[.int .i64 s.1, .int .i64 s.2.1, .int .i64 s.2.2] 129)))
 generalize W.alloc (Obj.cells #[.int .i64 s.1, .int .i64 s.2.1, .int .i64 s.2.2] 129) = W1 at *
 obtain ⟨xb, hxb⟩ : ∃ x, x = W.heap.size := ⟨_, rfl⟩
 rw [← hxb] at BS ⊢
 have HXB := Aside0.mk hxb
 clear hxb
 have y0 : W1.cell? ⟨xb, 0, none⟩ = some (.int .i64 s.1) := blk_cell BS.out 0
 have y1 : W1.cell? ⟨xb, 1, none⟩ = some (.int .i64 s.2.1) := blk_cell BS.out 1
 have y2 : W1.cell? ⟨xb, 2, none⟩ = some (.int .i64 s.2.2) := blk_cell BS.out 2
 have ym : W1.cell? ⟨B + 3, 7, none⟩ = some (.map (some (B + 2))) := blk_cell H1.out.bx 7
 have hlk0 := H1.out.mp.look HS.out W1 rfl
 have hlk1 := H1.out.mp.look HS.out W1.drew rfl
 unfold valS at hlk0 hlk1
 have hun := Aside0.mk fun (W' : World) => bits_Union.calls (F s) t (Go.bits .or .u64 (F s) t) W' rfl
 go_region_with (go_at_call 52; (with_reducible refine (hun.out _).mono ?_); rintro e w2 ⟨rfl, ⟨n, rfl⟩⟩)
 all_goals
  have H2 := Aside0.mk (H1.out.below (pw_below_drewN (RowKit.Below.refl W1.heap.size W1) (1 + n)))
  have HB2 := Aside0.mk (below_step HB1.out (pw_below_drewN (RowKit.Below.refl W1.heap.size W1) (1 + n)))
  have BS2 := Aside0.mk (blk_drewN BS.out (1 + n))
  clear y0 y1 y2 ym hlk0 hlk1 hun H1 BS HB1
  generalize W1.drewN (1 + n) = W2 at *
  have y0 : W2.cell? ⟨xb, 0, none⟩ = some (.int .i64 s.1) := blk_cell BS2.out 0
  have y1 : W2.cell? ⟨xb, 1, none⟩ = some (.int .i64 s.2.1) := blk_cell BS2.out 1
  have y2 : W2.cell? ⟨xb, 2, none⟩ = some (.int .i64 s.2.2) := blk_cell BS2.out 2
  have ym : W2.cell? ⟨B + 3, 7, none⟩ = some (.map (some (B + 2))) := blk_cell H2.out.bx 7
  have hlk0 := H2.out.mp.look HS.out W2 rfl
  have hlk1 := H2.out.mp.look HS.out W2.drew rfl
  unfold valS at hlk0 hlk1
  obtain ⟨u, hu⟩ : ∃ u, u = Go.bits .or .u64 (F s) t := ⟨_, rfl⟩
  have HU := Aside0.mk hu
  rw [← hu]
  clear hu
  by_cases hne : u = F s
  ·have hd : (u == F s) = true := by simpa using hne
   have hd2 : (u != F s) = false := by simpa using hne
   have HE := Aside0.mk hne
   clear hne
   go_wp2_with fail
   go_region_with fail
   all_goals go_wp2_with fail
   all_goals go_end0
   all_goals
    have hm : moreL F q s t = (F, q) := by unfold moreL; rw [← HU.out, if_pos HE.out]
    rw [hm]
    exact ⟨rfl, vq, H2.out.below (below_drew1 (RowKit.Below.refl _ _)), HB2.out.size, fun k hk _ _ _ => HB2.out.block k hk, .inl rfl⟩
  ·have hd : (u == F s) = false := by simpa using hne
   have hd2 : (u != F s) = true := by simpa using hne
   have HE := Aside0.mk hne
   clear hne
   go_wp2_with fail
   go_region_with fail
   all_goals go_wp2_with fail
   all_goals
    have H3 := Aside0.mk (H2.out.below (below_drew1 (RowKit.Below.refl W2.heap.size W2)))
    have HB3 := Aside0.mk (below_step HB2.out (below_drew1 (RowKit.Below.refl W2.heap.size W2)))
    have BS3 := Aside0.mk (blk_drew BS2.out)
    clear y0 y1 y2 ym hlk0 hlk1 hd hd2
    generalize W2.drew = W3 at *
    have y0 : W3.cell? ⟨xb, 0, none⟩ = some (.int .i64 s.1) := blk_cell BS3.out 0
    have y1 : W3.cell? ⟨xb, 1, none⟩ = some (.int .i64 s.2.1) := blk_cell BS3.out 1
    have y2 : W3.cell? ⟨xb, 2, none⟩ = some (.int .i64 s.2.2) := blk_cell BS3.out 2
    have ym : W3.cell? ⟨B + 3, 7, none⟩ = some (.map (some (B + 2))) := blk_cell H3.out.bx 7
    obtain ⟨W4, hmu, hah, hone⟩ := (H3.out.mp.same (W' := W3.drew) rfl).store HS.out u
    unfold valS at hmu
    have H4 := Aside0.mk ((H3.out.below (below_drew1 (RowKit.Below.refl W3.heap.size W3))).one hone hah)
    have BS4 := Aside0.mk ((hone.other xb (by have := H.out.size; have := HXB.out; omega)).trans (blk_drew BS3.out))
    have HB4 := Aside0.mk (show W.heap.size ≤ W4.heap.size ∧ ∀ k, k < W.heap.size → k ≠ B + 2 → W4.heap[k]? = W.heap[k]? from ⟨by rw [hone.size]; exact HB3.out.size, fun k hk h1 => (hone.other k h1).trans (HB3.out.block k hk)⟩)
    clear hah hone
    go_region_with fail
    all_goals go_wp2_with fail
    all_goals
     have H5 := Aside0.mk (H4.out.below (below_drew1 (RowKit.Below.refl W4.heap.size W4)))
     have HK := Aside0.mk (append_spot H5.out s (fun k hk => HF.out k (Nat.le_trans HB4.out.1 hk)) HL.out)
     clear y0 y1 y2 ym hmu
     have y0 : W4.cell? ⟨xb, 0, none⟩ = some (.int .i64 s.1) := blk_cell BS4.out 0
     have y1 : W4.cell? ⟨xb, 1, none⟩ = some (.int .i64 s.2.1) := blk_cell BS4.out 1
     have y2 : W4.cell? ⟨xb, 2, none⟩ = some (.int .i64 s.2.2) := blk_cell BS4.out 2
     have y8 : W4.cell? ⟨B + 3, 8, none⟩ = some vq := blk_cell H4.out.bx 8
     have hlt : B + 3 < W4.heap.size := blk_lt H4.out.bx
     have hlt2 : xb < W4.heap.size := blk_lt BS4.out
     go_region_law (refine HK.out _ _ _ _ _ (by rfl) rfl (by simp [Act.eval, Act.put]) (by simp [Act.eval, Act.put]) ?_; intro v1 w1 hQ hg hat; obtain ⟨A8, c8, e8, hc8⟩ := Kd.Q_slice hQ; subst e8; have hbx := (hg.block (B + 3) (blk_lt H5.out.bx) (fun e => by have := H5.out.ge _ (H5.out.hq.1 _ e.symm); omega)).trans H5.out.bx; have d8 := blk_cell hbx 8; have f8 := blk_frozen hbx 8; have HQ := Aside0.mk hQ; have HG := Aside0.mk hg; have HAT := Aside0.mk hat; clear hQ hg hat hbx hc8)
     all_goals go_wp2_with fail
     all_goals go_end0
     all_goals
      have hm : moreL F q s t = (upd F s u, q ++ [s]) := by unfold moreL; rw [← HU.out, if_neg HE.out]
      rw [hm]
      have hsz := H.out.size
      have e9 : (List.map encS (q ++ [s])).length = q.length + 1 := by simp
      rw [e9] at HQ HAT
      refine ⟨rfl, _, H5.out.push HQ.out HG.out, ?_, ?_, ?_⟩
      ·rw [World.size_setCell]
       exact Nat.le_trans HB4.out.1 HG.out.size
      ·intro k hk h1 h2 h3
       rw [Below.heap_setCell _ _ _ k (by show k ≠ B + 3; exact h2)]
       exact (HG.out.block k (Nat.lt_of_lt_of_le hk HB4.out.1) h3).trans (HB4.out.2 k hk h1)
      ·rcases HAT.out with h1 | ⟨b, h1, h2⟩
       ·exact .inl h1
       ·exact .inr ⟨b, h1, Nat.le_trans HB4.out.1 h2⟩
end Go.Proofs.YtclollnicbcooaaDoor.P
end

section
namespace Go.Proofs.YtclollnicbcooaaDoor.P
open Go.RowKit Go.Proofs.YtclollnicbcooaaDoorW.PrintWords Go.Proofs.YtclollnicbcooaaDoorW.PrintLast Go.Proofs.YtclollnicbcooaaDoorW.PrintMore
attribute [local go_sem] max2_int min2_int max_two min_two max_three min_three max_four min_four   -- for this text's walks alone
set_option linter.unusedVariables false
set_option linter.unusedSimpArgs false

theorem eqA37 (d : Nat) (w : World) (x0 y0 : Int) (x1 y1 : Int) :
  (Op.equalIn (d + 2) 37 (.agg #[.int .i64 x0, .int .i64 x1]) (.agg #[.int .i64 y0, .int .i64 y1])).run Tryd.prog w = .ok (x0 == y0 && (x1 == y1)) w := by
 refine eqA_of Tryd.underlying37 (by kernel_rfl) ?_
 refine eqf_cons (by rfl) (by go_simp; rfl) (by go_simp; rfl) (by go_simp) ?_
 exact eqf_last (by rfl) (by go_simp; rfl) (by go_simp; rfl) (by go_simp)
end Go.Proofs.YtclollnicbcooaaDoor.P
end

section
namespace Go.Proofs.YtclollnicbcooaaDoor.P
open Go.RowKit Go.Proofs.YtclollnicbcooaaDoorW.PrintWords Go.Proofs.YtclollnicbcooaaDoorW.PrintLast Go.Proofs.YtclollnicbcooaaDoorW.PrintMore
attribute [local go_sem] max2_int min2_int max_two min_two max_three min_three max_four min_four   -- for this text's walks alone
set_option linter.unusedVariables false
set_option linter.unusedSimpArgs false

/-! ### states_Step: function 20 -/
def states_Step.f (l0_0 : List (S82)) (l0_1 : List (S101)) (l0_2 : List ByteArray) (l0_3 : List (S64)) (a0_4 : Int) (l1 : List (S37)) (a2 : Int) : Option ((List (S37))) := (inst_Valid.f l0_0 l0_1 l0_2 l0_3 a0_4).bind fun t148 => (if t148 = true then ((states_closed.f l0_0 l0_1 l0_2 l0_3 a0_4 l1).bind fun t149 => ((states_step.f l0_0 l0_1 l0_2 l0_3 a0_4 t149 a2).bind fun t152 => (some t152))) else (some ([] : List (S37))))
/-! ### states_symbols: function 44 -/
mutual
def states_symbols.l0 : Nat → List Int → Int → Int → List (S82) → List (S101) → List ByteArray → List (S64) → Int → Option (List Int)
 | 0, _, _, _, _, _, _, _, _ => none
 | k + 1, x3, x8, x9, x156000, x156001, x156002, x156003, x156004 => if x9 < x8 then (if x3.length < 17592186044416 then (states_symbols.l0 k (x3 ++ [x9]) x8 (wrap64 (x9 + 1)) x156000 x156001 x156002 x156003 x156004) else (none)) else (states_symbols.l1 k x3 (x156002.length : Int) 0)
def states_symbols.l1 : Nat → List Int → Int → Int → Option (List Int)
 | 0, _, _, _ => none
 | k + 1, x3, x19, x20 => if x20 < x19 then (if x3.length < 17592186044416 then (states_symbols.l1 k (x3 ++ [wrap64 ((-1) - x20)]) x19 (wrap64 (x20 + 1))) else (none)) else (some x3)
end
def states_symbols.f (k : Nat) (l0_0 : List (S82)) (l0_1 : List (S101)) (l0_2 : List ByteArray) (l0_3 : List (S64)) (a0_4 : Int) : Option (List Int) := states_symbols.l0 k ([] : List Int) (l0_0.length : Int) 0 l0_0 l0_1 l0_2 l0_3 a0_4
set_option maxHeartbeats 8000000 in
set_option maxRecDepth 100000 in
theorem states_symbols.calls (k : Nat) (A0_0 : Option Addr) (c0_0 : Nat) (l0_0 : List (S82)) (A0_1 : Option Addr) (c0_1 : Nat) (l0_1 : List (S101)) (A0_2 : Option Addr) (c0_2 : Nat) (l0_2 : List ByteArray) (A0_3 : Option Addr) (c0_3 : Nat) (l0_3 : List (S64)) (a0_4 : Int) (r : List Int) (w : World) (hr0_0 : Kd.C k82 w A0_0 l0_0.length l0_0) (hc0_0 : l0_0.length ≤ c0_0) (hr0_1 : Kd.C k101 w A0_1 l0_1.length l0_1) (hc0_1 : l0_1.length ≤ c0_1) (hr0_2 : Kd.C Kd.string w A0_2 l0_2.length l0_2) (hc0_2 : l0_2.length ≤ c0_2) (hr0_3 : Kd.C k64 w A0_3 l0_3.length l0_3) (hc0_3 : l0_3.length ≤ c0_3) (h : states_symbols.f k l0_0 l0_1 l0_2 l0_3 a0_4 = some r) :
  Calls Tryd.prog 44 #[.agg #[.slice A0_0 l0_0.length c0_0, .slice A0_1 l0_1.length c0_1, .slice A0_2 l0_2.length c0_2, .slice A0_3 l0_3.length c0_3, .int .i64 a0_4]] w fun e w' => ∃ v0_ : Value, e = .returned (v0_) ∧ Kd.R (Kd.int .i64) 29 w' w.heap.size (fun _ => True) v0_ r ∧ Below w.heap.size w w' := by
 have hu27 := Tryd.underlying27
 have HR0_0 := Aside0.mk hr0_0
 have HC0_0 := Aside0.mk hc0_0
 clear hr0_0 hc0_0
 have HR0_1 := Aside0.mk hr0_1
 have HC0_1 := Aside0.mk hc0_1
 clear hr0_1 hc0_1
 have HR0_2 := Aside0.mk hr0_2
 have HC0_2 := Aside0.mk hc0_2
 clear hr0_2 hc0_2
 have HR0_3 := Aside0.mk hr0_3
 have HC0_3 := Aside0.mk hc0_3
 clear hr0_3 hc0_3
 have HB := Aside0.mk (Below.refl w.heap.size w)
 have H : (states_symbols.l0 k ([] : List Int) (l0_0.length : Int) 0 l0_0 l0_1 l0_2 l0_3 a0_4) = some r := h
 clear h
 have H' := Aside0.mk H
 clear H
 go_enter Tryd.func44, Tryd.ntmps44
 go_wp2_with (first | ((with_reducible refine gate_dst (N := 1) rfl ?_); refine box_event ?hg (N := 1) ?hd (cs := #[.slice A0_0 l0_0.length c0_0, .slice A0_1 l0_1.length c0_1, .slice A0_2 l0_2.length c0_2, .slice A0_3 l0_3.length c0_3, .int .i64 a0_4]) (t := 27) ?hr ?_; (case hd => rfl); (case hg => rfl); (case hr => first | (go_simp; done) | (go_simp; rfl)); intro gb155 hg w2 hbox hb; have n0_ := Aside0.mk (below_step (by repeat (first | (with_reducible first | exact HB.out | apply below_alloc | apply pw_below_drewN | apply below_drew1) | exact HB.out)) hb); have n1_ := Aside0.mk (hbox); have n2_ := Aside0.mk ((by rw [hg]; exact (below_size (by repeat (first | (with_reducible first | exact HB.out | apply below_alloc | apply pw_below_drewN | apply below_drew1) | exact HB.out))) : w.heap.size ≤ gb155)); have n3_ := Aside0.mk ((by rw [hg]; exact (below_size (by repeat (first | (with_reducible first | exact HB.out | apply below_alloc | apply pw_below_drewN | apply below_drew1) | exact HB.out))) : w.heap.size ≤ gb155)); clear HB; have HB := n0_; have BK155 := n1_; have GW155 := n2_; have GE155 := n3_; clear n0_ n1_ n2_ n3_; clear hb hbox hg; have hcz3_0 : w2.cell? ⟨gb155, 0, none⟩ = some (.slice A0_0 l0_0.length c0_0) := (blk_cell BK155.out 0).trans rfl; have hcz3_1 : w2.cell? ⟨gb155, 1, none⟩ = some (.slice A0_1 l0_1.length c0_1) := (blk_cell BK155.out 1).trans rfl; have hcz3_2 : w2.cell? ⟨gb155, 2, none⟩ = some (.slice A0_2 l0_2.length c0_2) := (blk_cell BK155.out 2).trans rfl; have hcz3_3 : w2.cell? ⟨gb155, 3, none⟩ = some (.slice A0_3 l0_3.length c0_3) := (blk_cell BK155.out 3).trans rfl; have hcz3_4 : w2.cell? ⟨gb155, 4, none⟩ = some (.int .i64 a0_4) := (blk_cell BK155.out 4).trans rfl; have hfz3_0 := blk_frozen BK155.out 0; have hfz3_1 := blk_frozen BK155.out 1; have hfz3_2 := blk_frozen BK155.out 2; have hfz3_3 := blk_frozen BK155.out 3; have hfz3_4 := blk_frozen BK155.out 4))
 go_loopg [3, 9] k (fun kq v3 v9 w' => ∃ (x3_1 : List Int) (x9_1 : Int), v9 = .int .i64 x9_1 ∧ Aside0 (states_symbols.l0 kq x3_1 (l0_0.length : Int) x9_1 l0_0 l0_1 l0_2 l0_3 a0_4 = some r) ∧ Aside0 (kq ≤ k) ∧ Aside0 (Kd.R (Kd.int .i64) 29 w' w.heap.size (fun _ => True) v3 x3_1) ∧ Aside0 (w'.heap[gb155]? = some (.cells #[(.slice A0_0 l0_0.length c0_0), (.slice A0_1 l0_1.length c0_1), (.slice A0_2 l0_2.length c0_2), (.slice A0_3 l0_3.length c0_3), .int .i64 a0_4] 27 (0, 0))) ∧ Aside0 (Below w.heap.size w w'))
 case atStart => exact ⟨(([] : List Int)), (0), (by first | rfl | (simp; done) | (simp [*]; done)), H', ⟨Nat.le_refl _⟩, ⟨by first | exact Kd.R_nil _ _ _ _ _ | exact Kd.N_nil _ _ _ _ _ | exact Kd.V_nil _ _ _ _ _ | exact Kd.Q_nil _ _ _ _ _ | exact Kd.S_nil _ _ _ _ _⟩, ⟨by (with_reducible repeat (first | refine blk_drewN ?_ _ | refine blk_drew ?_ | refine blk_alloc ?_ _)); exact BK155.out⟩, ⟨by repeat (first | (with_reducible first | exact HB.out | apply below_alloc | apply pw_below_drewN | apply below_drew1 | refine below_set ?_ GE155.out) | exact HB.out)⟩⟩
 case round =>
  clear H'
  try clear p2
  try clear hcz3_0
  try clear hcz3_1
  try clear hcz3_2
  try clear hcz3_3
  try clear hcz3_4
  try clear hfz3_0
  try clear hfz3_1
  try clear hfz3_2
  try clear hfz3_3
  try clear hfz3_4
  obtain ⟨x3_1, x9_1, rfl, HA, HK1, HO_3, BK155, HB⟩ := hrel
  cases gk with
  | zero => exact absurd HA.out (by simp [states_symbols.l0])
  | succ k1 =>
   have H := HA.out
   clear HA
   simp only [states_symbols.l0] at H
   by_cases c4 : x9_1 < (l0_0.length : Int)
   ·rw [if_pos c4] at H
    have c4b0 : decide (x9_1 < (l0_0.length : Int)) = true := decide_eq_true c4
    clear c4
    by_cases c5 : x3_1.length < 17592186044416
    ·rw [if_pos c5] at H
     have LMc5 := Aside0.mk c5
     clear c5
     obtain ⟨y156, hy156⟩ : ∃ y_ : List Int, y_ = (x3_1 ++ [x9_1]) := ⟨_, rfl⟩
     replace H : (states_symbols.l0 k1 y156 (l0_0.length : Int) (wrap64 (x9_1 + 1)) l0_0 l0_1 l0_2 l0_3 a0_4) = some r := by first | (rw [hy156]; with_reducible exact H) | (have H2_ := (Option.bind_some _ _).symm.trans H; rw [hy156]; with_reducible exact H2_) | (have H2_ := (Option.bind_some _ _).symm.trans H; with_reducible exact H2_) | with_reducible exact H | (rw [hy156]; exact H) | exact H
     have Ny156 := Aside0.mk hy156
     clear hy156
     have H' := Aside0.mk H
     clear H
     go_wp2_with (first | ((with_reducible refine gate_builtin (b := .append) (xs := #[.tmp 12, .tmp 14]) rfl ?_); at_builtin; refine Kd.R_append (Kd.int .i64) (w0 := w) w.heap.size rfl (.tmp 12) (.tmp 14) 62 29 (.int .i64 0) 8 rfl Tryd.underlying62 info29 rfl (by decide) (by omega) u3 x3_1 x9_1 [.int .i64 x9_1] (fun _ => True) (fun _ => False) rfl rfl ?aP (fun _ hk => hk.elim) ?aF ?aO ?aB ?aS ?aL ?_; (case aP => exact rfl); (case aB => exact (by repeat (first | (with_reducible first | exact HB.out | apply below_alloc | apply pw_below_drewN | apply below_drew1 | refine below_set ?_ GE155.out) | exact HB.out))); (case aF => exact (fun _ _ => trivial)); (case aO => exact (by (with_reducible repeat (first | apply Kd.R_alloc | apply Kd.R_drewN | apply Kd.R_drew)); exact HO_3.out)); (case aS => exact (below_size (by repeat (first | (with_reducible first | exact HB.out | apply below_alloc | apply pw_below_drewN | apply below_drew1 | refine below_set ?_ GE155.out) | exact HB.out)))); (case aL => have := LMc5.out; omega); intro v157 w6 ho hb hg hat; rw [← Ny156.out] at ho; have n0_ := Aside0.mk (blk_grown (g := gb155) (o := .cells #[.slice A0_0 l0_0.length c0_0, .slice A0_1 l0_1.length c0_1, .slice A0_2 l0_2.length c0_2, .slice A0_3 l0_3.length c0_3, .int .i64 a0_4] 27 (0, 0)) (by (with_reducible repeat (first | refine blk_drewN ?_ _ | refine blk_drew ?_ | refine blk_alloc ?_ _)); exact BK155.out) hg (Kd.R_ne HO_3.out BK155.out (by decide))); have n1_ := Aside0.mk (hb); have n2_ := Aside0.mk (ho); clear BK155; clear HB; clear HO_3; have BK155 := n0_; have HB := n1_; have HO158 := n2_; clear n0_ n1_ n2_; clear ho hb hg hat))
     go_roundg k1
     case measure => have := HK1.out; omega
     case rel => exact ⟨(y156), (wrap64 (x9_1 + 1)), (by first | rfl | (simp; done) | (simp [*]; done)), H', ⟨by have := HK1.out; omega⟩, ⟨by (with_reducible repeat (first | apply Kd.R_alloc | apply Kd.R_drewN | apply Kd.R_drew)); exact HO158.out⟩, ⟨by (with_reducible repeat (first | refine blk_drewN ?_ _ | refine blk_drew ?_ | refine blk_alloc ?_ _)); exact BK155.out⟩, ⟨by repeat (first | (with_reducible first | exact HB.out | apply below_alloc | apply pw_below_drewN | apply below_drew1 | refine below_set ?_ GE155.out) | exact HB.out)⟩⟩
    ·rw [if_neg c5] at H
     exact absurd H (by simp)
   ·rw [if_neg c4] at H
    have c4b0 : decide (x9_1 < (l0_0.length : Int)) = false := decide_eq_false c4
    clear c4
    have H' := Aside0.mk H
    clear H
    have hcz7_0 : wr.cell? ⟨gb155, 0, none⟩ = some (.slice A0_0 l0_0.length c0_0) := (blk_cell BK155.out 0).trans rfl
    have hcz7_1 : wr.cell? ⟨gb155, 1, none⟩ = some (.slice A0_1 l0_1.length c0_1) := (blk_cell BK155.out 1).trans rfl
    have hcz7_2 : wr.cell? ⟨gb155, 2, none⟩ = some (.slice A0_2 l0_2.length c0_2) := (blk_cell BK155.out 2).trans rfl
    have hcz7_3 : wr.cell? ⟨gb155, 3, none⟩ = some (.slice A0_3 l0_3.length c0_3) := (blk_cell BK155.out 3).trans rfl
    have hcz7_4 : wr.cell? ⟨gb155, 4, none⟩ = some (.int .i64 a0_4) := (blk_cell BK155.out 4).trans rfl
    have hfz7_0 := blk_frozen BK155.out 0
    have hfz7_1 := blk_frozen BK155.out 1
    have hfz7_2 := blk_frozen BK155.out 2
    have hfz7_3 := blk_frozen BK155.out 3
    have hfz7_4 := blk_frozen BK155.out 4
    go_wp2
    go_loopg [3, 20] k1 (fun kq v3 v20 w' => ∃ (x3_2 : List Int) (x20_2 : Int), v20 = .int .i64 x20_2 ∧ Aside0 (states_symbols.l1 kq x3_2 (l0_2.length : Int) x20_2 = some r) ∧ Aside0 (kq ≤ k1) ∧ Aside0 (Kd.R (Kd.int .i64) 29 w' w.heap.size (fun _ => True) v3 x3_2) ∧ Aside0 (w'.heap[gb155]? = some (.cells #[(.slice A0_0 l0_0.length c0_0), (.slice A0_1 l0_1.length c0_1), (.slice A0_2 l0_2.length c0_2), (.slice A0_3 l0_3.length c0_3), .int .i64 a0_4] 27 (0, 0))) ∧ Aside0 (Below w.heap.size w w'))
    case atStart => exact ⟨(x3_1), (0), (by first | rfl | (simp; done) | (simp [*]; done)), H', ⟨Nat.le_refl _⟩, ⟨by (with_reducible repeat (first | apply Kd.R_alloc | apply Kd.R_drewN | apply Kd.R_drew)); exact HO_3.out⟩, ⟨by (with_reducible repeat (first | refine blk_drewN ?_ _ | refine blk_drew ?_ | refine blk_alloc ?_ _)); exact BK155.out⟩, ⟨by repeat (first | (with_reducible first | exact HB.out | apply below_alloc | apply pw_below_drewN | apply below_drew1 | refine below_set ?_ GE155.out) | exact HB.out)⟩⟩
    case round =>
     clear H'
     try clear p2
     try clear c4
     try clear c4b0
     try clear c5
     try clear p6
     try clear hcz3_0
     try clear hcz3_1
     try clear hcz3_2
     try clear hcz3_3
     try clear hcz3_4
     try clear hcz7_0
     try clear hcz7_1
     try clear hcz7_2
     try clear hcz7_3
     try clear hcz7_4
     try clear hfz3_0
     try clear hfz3_1
     try clear hfz3_2
     try clear hfz3_3
     try clear hfz3_4
     try clear hfz7_0
     try clear hfz7_1
     try clear hfz7_2
     try clear hfz7_3
     try clear hfz7_4
     try clear p2
     obtain ⟨x3_2, x20_2, rfl, HA, HK2, HO_3, BK155, HB⟩ := hrel
     cases gk with
     | zero => exact absurd HA.out (by simp [states_symbols.l1])
     | succ k2 =>
      have H := HA.out
      clear HA
      simp only [states_symbols.l1] at H
      by_cases c8 : x20_2 < (l0_2.length : Int)
      ·rw [if_pos c8] at H
       have c8b0 : decide (x20_2 < (l0_2.length : Int)) = true := decide_eq_true c8
       clear c8
       by_cases c9 : x3_2.length < 17592186044416
       ·rw [if_pos c9] at H
        have LMc9 := Aside0.mk c9
        clear c9
        obtain ⟨y159, hy159⟩ : ∃ y_ : List Int, y_ = (x3_2 ++ [wrap64 ((-1) - x20_2)]) := ⟨_, rfl⟩
        replace H : (states_symbols.l1 k2 y159 (l0_2.length : Int) (wrap64 (x20_2 + 1))) = some r := by first | (rw [hy159]; with_reducible exact H) | (have H2_ := (Option.bind_some _ _).symm.trans H; rw [hy159]; with_reducible exact H2_) | (have H2_ := (Option.bind_some _ _).symm.trans H; with_reducible exact H2_) | with_reducible exact H | (rw [hy159]; exact H) | exact H
        have Ny159 := Aside0.mk hy159
        clear hy159
        have H' := Aside0.mk H
        clear H
        go_wp2_with (first | ((with_reducible refine gate_builtin (b := .append) (xs := #[.tmp 23, .tmp 26]) rfl ?_); at_builtin; refine Kd.R_append (Kd.int .i64) (w0 := w) w.heap.size rfl (.tmp 23) (.tmp 26) 62 29 (.int .i64 0) 8 rfl Tryd.underlying62 info29 rfl (by decide) (by omega) u3 x3_2 (wrap64 ((-1) - x20_2)) [.int .i64 (wrap64 ((-1) - x20_2))] (fun _ => True) (fun _ => False) rfl rfl ?aP (fun _ hk => hk.elim) ?aF ?aO ?aB ?aS ?aL ?_; (case aP => exact rfl); (case aB => exact (by repeat (first | (with_reducible first | exact HB.out | apply below_alloc | apply pw_below_drewN | apply below_drew1 | refine below_set ?_ GE155.out) | exact HB.out))); (case aF => exact (fun _ _ => trivial)); (case aO => exact (by (with_reducible repeat (first | apply Kd.R_alloc | apply Kd.R_drewN | apply Kd.R_drew)); exact HO_3.out)); (case aS => exact (below_size (by repeat (first | (with_reducible first | exact HB.out | apply below_alloc | apply pw_below_drewN | apply below_drew1 | refine below_set ?_ GE155.out) | exact HB.out)))); (case aL => have := LMc9.out; omega); intro v160 w10 ho hb hg hat; rw [← Ny159.out] at ho; have n0_ := Aside0.mk (blk_grown (g := gb155) (o := .cells #[.slice A0_0 l0_0.length c0_0, .slice A0_1 l0_1.length c0_1, .slice A0_2 l0_2.length c0_2, .slice A0_3 l0_3.length c0_3, .int .i64 a0_4] 27 (0, 0)) (by (with_reducible repeat (first | refine blk_drewN ?_ _ | refine blk_drew ?_ | refine blk_alloc ?_ _)); exact BK155.out) hg (Kd.R_ne HO_3.out BK155.out (by decide))); have n1_ := Aside0.mk (hb); have n2_ := Aside0.mk (ho); clear BK155; clear HB; clear HO_3; have BK155 := n0_; have HB := n1_; have HO161 := n2_; clear n0_ n1_ n2_; clear ho hb hg hat))
        go_roundg k2
        case measure => have := HK1.out; have := HK2.out; omega
        case rel => exact ⟨(y159), (wrap64 (x20_2 + 1)), (by first | rfl | (simp; done) | (simp [*]; done)), H', ⟨by have := HK1.out; have := HK2.out; omega⟩, ⟨by (with_reducible repeat (first | apply Kd.R_alloc | apply Kd.R_drewN | apply Kd.R_drew)); exact HO161.out⟩, ⟨by (with_reducible repeat (first | refine blk_drewN ?_ _ | refine blk_drew ?_ | refine blk_alloc ?_ _)); exact BK155.out⟩, ⟨by repeat (first | (with_reducible first | exact HB.out | apply below_alloc | apply pw_below_drewN | apply below_drew1 | refine below_set ?_ GE155.out) | exact HB.out)⟩⟩
       ·rw [if_neg c9] at H
        exact absurd H (by simp)
      ·rw [if_neg c8] at H
       have c8b0 : decide (x20_2 < (l0_2.length : Int)) = false := decide_eq_false c8
       clear c8
       obtain rfl := Option.some.inj H
       go_wp2
       go_ret
       exact ⟨_, by first | rfl | (simp [errW_none, errW_some] <;> rfl) | (simp [*, errW_none, errW_some] <;> rfl), by (with_reducible repeat (first | apply Kd.R_alloc | apply Kd.R_drewN | apply Kd.R_drew)); exact HO_3.out, by repeat (first | (with_reducible first | exact HB.out | apply below_alloc | apply pw_below_drewN | apply below_drew1 | refine below_set ?_ GE155.out) | exact HB.out)⟩

end Go.Proofs.YtclollnicbcooaaDoor.P
end

section
set_option linter.unusedVariables false
set_option linter.unusedSimpArgs false
namespace Go.Proofs.YtclollnicbcooaaDoor.P
open Go.RowKit Go.Lib Go.Sort Go.Proofs.YtclollnicbcooaaDoorW.PrintWords Go.Proofs.YtclollnicbcooaaDoorW.PrintLast Go.Proofs.YtclollnicbcooaaDoorW.PrintMore St Base

def GTab (w : World) : Prop := Lib.TabIs Tryd.prog w "internal/strconv.uint64pow10" .u64 Lib.pow10Tab
theorem GTab.below {w w1 : World} (h : GTab w) (hb : RowKit.Below w.heap.size w w1) : GTab w1 := Lib.tabBelow_of_tabIs h w1 hb
theorem itoa_calls (n : Int) (h0 : -9223372036854775808 ≤ n) (h1 : n ≤ 9223372036854775807) (w : World) (hG : GTab w) :
  Calls Tryd.prog 43 #[.int .i64 n] w fun e w' => e = .returned (.string ⟨(itoa n).toArray⟩) ∧ RowKit.Below w.heap.size w w' := by
 refine (Any.strconv_Itoa Tryd.itoaL n h0 h1 w hG).mono ?_
 rintro e w' ⟨rfl, k, os, rfl⟩
 exact ⟨rfl, below_grow w.heap.size w (Nat.le_refl _) k os⟩

def keyS (l : List Itm) : ByteArray := ⟨(keyL l).toArray⟩
theorem keyS_inj {l m : List Itm} (h : keyS l = keyS m) : l = m := by
 unfold keyS at h
 injection h with h
 exact keyL_inj l m (by have := congrArg Array.toList h; simpa using this)
theorem bytes_app (a b : Array UInt8) : (⟨a⟩ ++ ⟨b⟩ : ByteArray) = ⟨a ++ b⟩ := by
 apply ByteArray.ext
 simp
theorem keyS_snoc (l : List Itm) (x : Itm) : keyS l ++ ((((⟨(itoa x.1).toArray⟩ ++ ⟨#[46]⟩ : ByteArray) ++ ⟨(itoa x.2).toArray⟩ : ByteArray) ++ ⟨#[32]⟩ : ByteArray)) = keyS (l ++ [x]) := by
 unfold keyS
 rw [keyL_app, bytes_app, bytes_app, bytes_app, bytes_app]
 simp [keyL, pieceL]
end Go.Proofs.YtclollnicbcooaaDoor.P
end

section
set_option linter.unusedVariables false
set_option linter.unusedSimpArgs false
namespace Go.Proofs.YtclollnicbcooaaDoor.P
open Go.RowKit Go.Lib Go.Sort Go.Proofs.YtclollnicbcooaaDoorW.PrintWords Go.Proofs.YtclollnicbcooaaDoorW.PrintLast Go.Proofs.YtclollnicbcooaaDoorW.PrintMore St Base

theorem info28 : (Tryd.prog.info? 28).map (fun i => (i.zero, i.size, i.bytes)) = some (some (.slice none 0 0), 1, 24) := by kernel_rfl
theorem keyed9 : Maps.Keyed Tryd.prog 9 := Maps.string_keyed Tryd.underlying9
theorem key9 (s : ByteArray) (h : s.size ≤ maxLen) : ∃ x, keyOf Tryd.prog 9 (.string s) = some x := by
 unfold keyOf
 rw [Tryd.underlying9]
 simp only [mapKey, Tryd.underlying9]
 rw [if_pos h]
 exact ⟨_, rfl⟩
theorem dec_len : ∀ (k u : Nat), u < 10 ^ (k + 1) → (decDigits u).length ≤ k + 1
 | 0, u, h => by rw [dec_small u (by omega)]; simp
 | k + 1, u, h => by
  by_cases hu : u < 10
  ·rw [dec_small u hu]; simp
  ·rw [dec_step u hu, List.length_append, List.length_singleton]
   have := dec_len k (u / 10) (by rw [Nat.pow_succ] at h; omega)
   omega
theorem itoa_len (n : Int) (h : -9223372036854775808 ≤ n ∧ n ≤ 9223372036854775807) : (itoa n).length ≤ 20 := by
 unfold itoa
 split
 ·have := dec_len 18 n.natAbs (by omega)
  simp only [List.length_cons]; omega
 ·have := dec_len 18 n.toNat (by omega)
  omega
theorem keyL_len : ∀ l : List Itm, (∀ x ∈ l, rngI x) → (keyL l).length ≤ l.length * 42
 | [], _ => by simp [keyL]
 | x :: l, h => by
  have h1 := keyL_len l (fun y hy => h y (List.mem_cons_of_mem _ hy))
  have h2 := h x (List.mem_cons_self ..)
  have h3 := itoa_len x.1 h2.1
  have h4 := itoa_len x.2 h2.2
  unfold keyL pieceL
  simp only [List.length_append, List.length_cons, List.length_nil]
  omega
theorem keyS_size {l : List Itm} (h : ∀ x ∈ l, rngI x) (hs : l.length ≤ 1000000) : (keyS l).size ≤ maxLen := by
 have := keyL_len l h
 show (keyL l).toArray.size ≤ maxLen
 rw [List.size_toArray]
 unfold maxLen
 omega
/-- The rows' numbers, as the map has them. -/
def numK (K : List (List Itm)) : List (Value × Value) := K.zipIdx.map fun p => (.string (keyS p.1), .int .i64 (p.2 : Int))
theorem numK_snoc (K : List (List Itm)) (l : List Itm) : numK (K ++ [l]) = numK K ++ [(.string (keyS l), .int .i64 (K.length : Int))] := by
 unfold numK
 rw [List.zipIdx_append]
 simp
theorem numK_mem {K : List (List Itm)} {p : Value × Value} (h : p ∈ numK K) : ∃ (i : Nat) (l : List Itm), K[i]? = some l ∧ p = (.string (keyS l), .int .i64 (i : Int)) := by
 unfold numK at h
 obtain ⟨⟨l, i⟩, hm, rfl⟩ := List.mem_map.1 h
 have := List.mem_zipIdx hm
 simp only [Nat.zero_add, Nat.sub_zero] at this
 obtain ⟨_, h2, h3⟩ := this
 exact ⟨i, l, (List.getElem?_eq_getElem h2).trans (congrArg some h3.symm), rfl⟩
theorem numK_has {K : List (List Itm)} {i : Nat} {l : List Itm} (h : K[i]? = some l) : ((.string (keyS l), .int .i64 (i : Int)) : Value × Value) ∈ numK K := by
 unfold numK
 exact List.mem_map.2 ⟨(l, i), List.mem_of_getElem? (by rw [List.getElem?_zipIdx, h, Nat.zero_add]; rfl), rfl⟩
theorem look_has {W : World} {r i : Nat} {K : List (List Itm)} {l : List Itm} (hz : (keyS l).size ≤ maxLen) (h : Mp Tryd.prog 9 W r (numK K)) (hd : K.Nodup) (hi : K[i]? = some l) : (Instr.lookup 87 (.map (some r)) (.string (keyS l)) true).run Tryd.prog W = .ok (.tuple #[.int .i64 (i : Int), .bool true]) W := by
 refine h.find (et := 3) Tryd.underlying87 keyed9 (key9 _ hz).choose_spec (numK_has hi) (fun p hp he => ?_) true
 obtain ⟨j, m, hj, rfl⟩ := numK_mem hp
 injection he with he
 obtain rfl := keyS_inj he
 obtain ⟨h1, h2⟩ := List.getElem?_eq_some_iff.1 hi
 obtain ⟨h3, h4⟩ := List.getElem?_eq_some_iff.1 hj
 have : i = j := (List.getElem_inj hd).1 (h2.trans h4.symm)
 rw [this]
theorem look_not {W : World} {r : Nat} {K : List (List Itm)} {l : List Itm} (hz : (keyS l).size ≤ maxLen) (h : Mp Tryd.prog 9 W r (numK K)) (hn : l ∉ K) : (Instr.lookup 87 (.map (some r)) (.string (keyS l)) true).run Tryd.prog W = .ok (.tuple #[.int .i64 0, .bool false]) W := by
 refine h.miss (et := 3) Tryd.underlying87 keyed9 (key9 _ hz).choose_spec (Tryd.zeroValue3 W) (fun p hp he => ?_) true
 obtain ⟨j, m, hj, rfl⟩ := numK_mem hp
 injection he with he
 obtain rfl := keyS_inj he
 exact hn (List.mem_of_getElem? hj)
theorem look_put {W : World} {r : Nat} {K : List (List Itm)} {l : List Itm} (hz : (keyS l).size ≤ maxLen) (h : Mp Tryd.prog 9 W r (numK K)) (hn : l ∉ K) :
  (Instr.mapUpdate 87 (.map (some r)) (.string (keyS l)) (.int .i64 (K.length : Int))).run Tryd.prog W = .ok () (Mp.put W r (.string (keyS l)) (.int .i64 (K.length : Int))) ∧ Mp Tryd.prog 9 (Mp.put W r (.string (keyS l)) (.int .i64 (K.length : Int))) r (numK (K ++ [l])) := by
 refine ⟨h.store (et := 3) Tryd.underlying87 keyed9 (key9 _ hz).choose_spec (fun p hp he => ?_) _, ?_⟩
 ·obtain ⟨j, m, hj, rfl⟩ := numK_mem hp
  injection he with he
  obtain rfl := keyS_inj he
  exact hn (List.mem_of_getElem? hj)
 ·rw [numK_snoc]
  exact h.put_is (key9 _ hz).choose_spec _

theorem numb_cases (K : List (List Itm)) (l : List Itm) (hn : l ≠ []) : (∃ j : Nat, K[j]? = some l ∧ numb K l = ((j : Int), K)) ∨ (l ∉ K ∧ numb K l = ((K.length : Int), K ++ [l])) := by
 unfold numb
 rw [if_neg hn]
 split
 ·rename_i j hf
  obtain ⟨hj, hp, _⟩ := List.findIdx?_eq_some_iff_getElem.1 hf
  exact .inl ⟨j, by rw [List.getElem?_eq_getElem hj]; exact congrArg some (of_decide_eq_true hp), rfl⟩
 ·rename_i hf
  have hh := List.findIdx?_eq_none_iff.1 hf
  exact .inr ⟨fun hm => by have := hh l hm; simp at this, rfl⟩
/-- What Build has in memory: the grammar, the result, the automaton, the map, the map's variable; behind them the rows. -/
structure Bd (w : World) (B : Nat) (G : Array Value) (Km K : List (List Itm)) (N : List (List Int)) (vK vN : Value) (okK okN : Nat → Prop) (W : World) : Prop where
 hb : RowKit.Below w.heap.size w W
 bg : W.heap[w.heap.size]? = some (.cells G 27 (0, 0))
 br : W.heap[w.heap.size + 1]? = some (.cells #[.slice none 0 0, .slice none 0 0] 49 (0, 0))
 ba : W.heap[B]? = some (.cells #[vK, vN] 49 (0, 0))
 mp : Mp Tryd.prog 9 W (B + 1) (numK Km)
 bn : W.heap[B + 2]? = some (.cells #[.map (some (B + 1))] 87 (0, 0))
 ks : Kd.S (Kd.slice 37 k37) 28 W (B + 3) (fun k => B + 3 ≤ k ∧ okK k) vK (K.map (·.map ofI))
 ns : Kd.S (Kd.slice 3 (Kd.int .i64)) 58 W (B + 3) (fun k => B + 3 ≤ k ∧ okN k) vN N
 nd : Km.Nodup
 hB : w.heap.size + 2 ≤ B
section
variable {w : World} {B : Nat} {G : Array Value} {Km K : List (List Itm)} {N : List (List Int)} {vK vN : Value} {okK okN : Nat → Prop} {W W1 : World}
theorem Bd.size (h : Bd w B G Km K N vK vN okK okN W) : B + 3 ≤ W.heap.size := blk_lt h.bn
theorem Bd.below (h : Bd w B G Km K N vK vN okK okN W) (hb : RowKit.Below W.heap.size W W1) : Bd w B G Km K N vK vN okK okN W1 where
 hb := below_step h.hb hb
 bg := blk_below h.bg hb
 br := blk_below h.br hb
 ba := blk_below h.ba hb
 mp := h.mp.same (hb.block _ h.mp.lt)
 bn := blk_below h.bn hb
 ks := Kd.S_below h.ks hb
 ns := Kd.S_below h.ns hb
 nd := h.nd
 hB := h.hB
theorem Bd.any (h : Bd w B G Km K N vK vN okK okN W) {ok' okN' : Nat → Prop} (hk : ∀ k, okK k → ok' k) (hn : ∀ k, okN k → okN' k) : Bd w B G Km K N vK vN ok' okN' W :=
 ⟨h.hb, h.bg, h.br, h.ba, h.mp, h.bn, Kd.S_mono h.ks (fun k hk' => ⟨hk'.1, hk k hk'.2⟩), Kd.S_mono h.ns (fun k hk' => ⟨hk'.1, hn k hk'.2⟩), h.nd, h.hB⟩
/-- A key more in the map. -/
theorem Bd.put (h : Bd w B G Km K N vK vN okK okN W) {Km' : List (List Itm)} {k v : Value} (hm : Mp Tryd.prog 9 (Mp.put W (B + 1) k v) (B + 1) (numK Km')) (hd : Km'.Nodup) : Bd w B G Km' K N vK vN okK okN (Mp.put W (B + 1) k v) := by
 obtain ⟨hs, hk⟩ := Mp.put_heap W (B + 1) k v
 have hB := h.hB
 have hw : (Mp.put W (B + 1) k v).os = W.os ∧ (Mp.put W (B + 1) k v).tape = W.tape ∧ (Mp.put W (B + 1) k v).output = W.output := by
  unfold Mp.put
  split <;> exact ⟨rfl, rfl, rfl⟩
 refine ⟨⟨hw.1.trans h.hb.os, hw.2.1.trans h.hb.tape, hw.2.2.trans h.hb.output, by rw [hs]; exact h.hb.size, fun i hi => (hk i (by omega)).trans (h.hb.block i hi)⟩, (hk _ (by omega)).trans h.bg, (hk _ (by omega)).trans h.br, (hk _ (by omega)).trans h.ba, hm, (hk _ (by omega)).trans h.bn, ?_, ?_, hd, hB⟩
 ·exact Kd.S_step h.ks (fun i hi hlt => hk i (by omega))
 ·exact Kd.S_step h.ns (fun i hi hlt => hk i (by omega))
/-- A row more. -/
theorem Bd.app (h : Bd w B G Km K N vK vN okK okN W) {K' : List (List Itm)} {v1 : Value} (hs : Kd.S (Kd.slice 37 k37) 28 W1 (B + 3) (fun k => B + 3 ≤ k) v1 (K'.map (·.map ofI))) (hg : W.grownBy W1 vK.ownBlock) : Bd w B G Km K' N v1 vN (fun _ => True) okN (W1.setCell ⟨B, 0, none⟩ v1) := by
 have hbase := Kd.S_base h.ks
 have hB := h.hB
 have hkeep : ∀ k, k < B + 3 → k < W.heap.size → W1.heap[k]? = W.heap[k]? := fun k h1 h2 => hg.block k h2 (fun e => by have := hbase k e.symm; omega)
 have hsz := h.size
 have hfar : ∀ k, k ≠ B → (W1.setCell ⟨B, 0, none⟩ v1).heap[k]? = W1.heap[k]? := fun k hk => Below.heap_setCell W1 ⟨B, 0, none⟩ v1 k hk
 refine ⟨below_set (below_grown h.hb hg (fun k hk => by have := hbase k hk; omega)) (by show w.heap.size ≤ B; omega), ?_, ?_, ?_, ?_, ?_, ?_, ?_, h.nd, hB⟩
 ·exact ((hfar _ (by omega)).trans (hkeep _ (by omega) (by omega))).trans h.bg
 ·exact ((hfar _ (by omega)).trans (hkeep _ (by omega) (by omega))).trans h.br
 ·exact blk_put ((hkeep _ (by omega) (by omega)).trans h.ba) 0 _ rfl
 ·exact h.mp.same ((hfar _ (by omega)).trans (hkeep _ (by omega) (by omega)))
 ·exact ((hfar _ (by omega)).trans (hkeep _ (by omega) (by omega))).trans h.bn
 ·exact Kd.S_mono (Kd.S_far hs (fun k hk => by show k ≠ B; omega) _) (fun k hk => ⟨hk, trivial⟩)
 ·exact Kd.S_far (Kd.S_over' h.ns (Kd.S_typed h.ks) (by decide) hg) (fun k hk => by show k ≠ B; omega) _
end

set_option maxHeartbeats 8000000 in
set_option maxRecDepth 100000 in
theorem number_calls {w W : World} {B : Nat} {G : Array Value} {K : List (List Itm)} {N : List (List Int)} {vK vN vl : Value} {l : List Itm} {okN : Nat → Prop} (hG : GTab w) (h : Bd w B G K K N vK vN (fun k => some k ≠ vl.ownBlock) okN W)
  (hl : Kd.R k37 37 W (B + 3) (fun k => B + 3 ≤ k) vl (l.map ofI)) (hr : ∀ x ∈ l, rngI x) (hs : l.length ≤ 1000000) (hK : K.length ≤ 3000) :
  Calls Tryd.prog 42 #[vl, .pointer (some ⟨B + 2, 0, none⟩), .pointer (some ⟨B, 0, none⟩)] W fun e w' => e = .returned (.int .i64 (numb K l).1) ∧ ∃ vK', Bd w B G (numb K l).2 (numb K l).2 N vK' vN (fun _ => True) okN w' ∧ W.heap.size ≤ w'.heap.size ∧ ∀ k, k < W.heap.size → B + 3 ≤ k → some k ≠ vK.ownBlock → w'.heap[k]? = W.heap[k]? := by
 obtain ⟨A, c, e⟩ := Kd.R_slice hl
 subst e
 rw [List.length_map] at *
 have hrd := Kd.R_reads' hl
 rw [List.length_map] at hrd
 have HL := Aside0.mk hl
 have HRD := Aside0.mk hrd.2.2
 have H := Aside0.mk h
 have HG := Aside0.mk hG
 have HRG := Aside0.mk hr
 have HK := Aside0.mk hK
 clear hl hrd h hG hr hK
 have hu28 := Tryd.underlying28
 have hu37 := Tryd.underlying37
 by_cases hnil : l = []
 ·subst hnil
  have hnb : numb K [] = (-1, K) := by unfold numb; rw [if_pos rfl]
  have HNB := Aside0.mk hnb
  clear hnb
  simp only [List.length_nil] at *
  go_enter Tryd.func42, Tryd.ntmps42
  go_wp2
  go_ret
  rw [HNB.out]
  refine ⟨rfl, vK, H.out.any (fun _ _ => trivial) (fun _ h => h), Nat.le_refl _, fun _ _ _ _ => rfl⟩
 ·have hlen0 : (l.length : Int) ≠ 0 := by
   intro e
   exact hnil (List.eq_nil_of_length_eq_zero (by omega))
  have hlen : ((l.length : Int) == 0) = false := by simpa using hlen0
  have hlen2 : decide ((l.length : Int) = 0) = false := decide_eq_false hlen0
  have HNIL := Aside0.mk hnil
  clear hnil
  go_enter Tryd.func42, Tryd.ntmps42
  go_wp2
  go_loopw [5, 15] (fun v5 v15 wr => ∃ i : Nat, v15 = .int .i64 i ∧ i ≤ l.length ∧ v5 = .string (keyS (l.take i)) ∧ Aside0 (RowKit.Below W.heap.size W wr)) (fun _ v15 _ => l.length - (intOf v15).toNat)
  case atStart => exact ⟨0, rfl, Nat.zero_le _, rfl, ⟨RowKit.Below.refl _ _⟩⟩
  case round =>
   obtain ⟨i, rfl, hi, rfl, HB⟩ := hrel
   by_cases hlt : i < l.length
   ·have hltb : decide (i < l.length) = true := decide_eq_true hlt
    obtain ⟨ad, rfl, hx0, hx1⟩ := at_T37 (Kd.C_below HRD.out HB.out) (i : Int) (by omega) (by omega)
    rw [Int.toNat_natCast] at hx0 hx1
    obtain ⟨x, hx⟩ : ∃ x, l[i] = x := ⟨_, rfl⟩
    have hxe : rd_T37 (l.map ofI) i = ofI x := by rw [← hx]; unfold rd_T37; simp [List.getD, hlt]
    rw [hxe] at hx0 hx1
    have hxr : rngI x := by rw [← hx]; exact HRG.out _ (List.getElem_mem hlt)
    have HSN := Aside0.mk (show keyS (l.take (i + 1)) = keyS (l.take i ++ [x]) by rw [List.take_add_one, List.getElem?_eq_getElem hlt, hx]; rfl)
    unfold rngI at hxr
    have HXR := Aside0.mk hxr
    replace hx0 : wr.cell? (ad.add (i * 2)) = some (.int .i64 x.1) := hx0
    replace hx1 : wr.cell? ⟨(ad.add (i * 2)).block, (ad.add (i * 2)).off + 1, none⟩ = some (.int .i64 x.2) := hx1
    clear hxr hxe hx
    go_upto_region 7 with fail
    have BX := Aside0.mk (blk_new wr (Obj.cells #[.int .i64 x.1, .int .i64 x.2] 37))
    have HB1 := Aside0.mk (below_alloc HB.out (Obj.cells #[.int .i64 x.1, .int .i64 x.2] 37))
    clear hx0 hx1 HB
    generalize wr.alloc (Obj.cells #[.int .i64 x.1, .int .i64 x.2] 37) = w1 at *
    generalize wr.heap.size = xb at *
    have y0 : w1.cell? ⟨xb, 0, none⟩ = some (.int .i64 x.1) := blk_cell BX.out 0
    have y1 : w1.cell? ⟨xb, 1, none⟩ = some (.int .i64 x.2) := blk_cell BX.out 1
    obtain ⟨sa, hsa⟩ : ∃ s : ByteArray, s = ⟨(itoa x.1).toArray⟩ := ⟨_, rfl⟩
    obtain ⟨sb, hsb⟩ : ∃ s : ByteArray, s = ⟨(itoa x.2).toArray⟩ := ⟨_, rfl⟩
    obtain ⟨sk, hsk⟩ : ∃ s : ByteArray, s = keyS (l.take i) := ⟨_, rfl⟩
    have hza : sa.size ≤ 20 := by rw [hsa]; show (itoa x.1).toArray.size ≤ 20; rw [List.size_toArray]; exact itoa_len _ HXR.out.1
    have hzb : sb.size ≤ 20 := by rw [hsb]; show (itoa x.2).toArray.size ≤ 20; rw [List.size_toArray]; exact itoa_len _ HXR.out.2
    have hzk : sk.size ≤ 42000000 := by
     rw [hsk]
     have h1 := keyL_len (l.take i) (fun y hy => HRG.out y (List.mem_of_mem_take hy))
     show (keyL (l.take i)).toArray.size ≤ _
     rw [List.size_toArray]
     have : (l.take i).length ≤ 1000000 := by rw [List.length_take]; omega
     omega
    obtain ⟨s1, hs1⟩ : ∃ s : ByteArray, s = sa ++ ⟨#[46]⟩ := ⟨_, rfl⟩
    have hz1 : s1.size ≤ 21 := by rw [hs1, ByteArray.size_append]; show sa.size + 1 ≤ 21; omega
    obtain ⟨s2, hs2⟩ : ∃ s : ByteArray, s = s1 ++ sb := ⟨_, rfl⟩
    have hz2 : s2.size ≤ 41 := by rw [hs2, ByteArray.size_append]; omega
    obtain ⟨s3, hs3⟩ : ∃ s : ByteArray, s = s2 ++ ⟨#[32]⟩ := ⟨_, rfl⟩
    have hz3 : s3.size ≤ 42 := by rw [hs3, ByteArray.size_append]; show s2.size + 1 ≤ 42; omega
    obtain ⟨s4, hs4⟩ : ∃ s : ByteArray, s = sk ++ s3 := ⟨_, rfl⟩
    have e1 : ∀ W, (Op.stringOp .add sa ⟨#[46]⟩).run Tryd.prog W = .ok (.string s1) W := fun W => by rw [hs1]; exact run_string_add_sum _ _ _ (by show sa.size + 1 ≤ _; omega)
    have e2 : ∀ W, (Op.stringOp .add s1 sb).run Tryd.prog W = .ok (.string s2) W := fun W => by rw [hs2]; exact run_string_add_sum _ _ _ (by omega)
    have e3 : ∀ W, (Op.stringOp .add s2 ⟨#[32]⟩).run Tryd.prog W = .ok (.string s3) W := fun W => by rw [hs3]; exact run_string_add_sum _ _ _ (by show s2.size + 1 ≤ _; omega)
    have e4 : ∀ W, (Op.stringOp .add sk s3).run Tryd.prog W = .ok (.string s4) W := fun W => by rw [hs4]; exact run_string_add_sum _ _ _ (by omega)
    have HS4 := Aside0.mk (show s4 = keyS (l.take (i + 1)) by rw [hs4, hs3, hs2, hs1, hsa, hsb, hsk, HSN.out]; exact keyS_snoc _ _)
    have hI1 := itoa_calls x.1 HXR.out.1.1 HXR.out.1.2
    have hI2 := itoa_calls x.2 HXR.out.2.1 HXR.out.2.2
    rw [← hsa] at hI1
    rw [← hsb] at hI2
    rw [← hsk]
    have HI1 := Aside0.mk hI1
    have HI2 := Aside0.mk hI2
    clear hI1 hI2 hza hzb hzk hz1 hz2 hz3 hsa hsb hsk hs1 hs2 hs3 hs4
    go_region_with (first
     | (go_at_call 43; (with_reducible refine (HI1.out _ ?g1).mono ?_); (case g1 => exact GTab.below HG.out (below_step H.out.hb (by repeat (first | exact HB1.out | apply below_drew1 | apply pw_below_drewN)))); rintro e W1 ⟨rfl, hb⟩; have HB2 := Aside0.mk (below_step (by repeat (first | exact HB1.out | apply below_drew1 | apply pw_below_drewN)) hb); have BX2 := Aside0.mk (blk_below (g := xb) (o := .cells #[.int .i64 x.1, .int .i64 x.2] 37 (0, 0)) (by repeat (first | exact BX.out | refine blk_drew ?_ | refine blk_drewN ?_ _)) hb); have t0 := blk_cell BX2.out 0; have t1 := blk_cell BX2.out 1; clear hb)
     | (go_at_call 43; (with_reducible refine (HI2.out _ ?g1).mono ?_); (case g1 => exact GTab.below HG.out (below_step H.out.hb (by repeat (first | exact HB2.out | apply below_drew1 | apply pw_below_drewN)))); rintro e W2 ⟨rfl, hb⟩; have HB3 := Aside0.mk (below_step (by repeat (first | exact HB2.out | apply below_drew1 | apply pw_below_drewN)) hb); clear hb))
    all_goals go_wp2_with fail
    all_goals go_roundw
    all_goals first
     | exact ⟨i + 1, rfl, by omega, congrArg Value.string HS4.out, HB3⟩
     | (simp [intOf]; omega)
   ·have hltb : decide (i < l.length) = false := decide_eq_false hlt
    have hil : i = l.length := by omega
    subst hil
    rw [List.take_length]
    have hz := keyS_size HRG.out hs
    have H2 := Aside0.mk (H.out.below HB.out)
    have HL2 := Aside0.mk (Kd.R_below HL.out HB.out)
    have b0 : wr.cell? ⟨B + 2, 0, none⟩ = some (.map (some (B + 1))) := blk_cell H2.out.bn 0
    rcases numb_cases K l HNIL.out with ⟨j, hkj, hnb⟩ | ⟨hnin, hnb⟩
    ·have hlk := look_has hz H2.out.mp H2.out.nd hkj
     have HNB := Aside0.mk hnb
     clear hnb hkj hz
     go_wp2
     go_ret
     rw [HNB.out]
     exact ⟨rfl, vK, H2.out.any (fun _ _ => trivial) (fun _ h => h), HB.out.size, fun k h1 _ _ => HB.out.block k h1⟩
    ·have hlk := look_not hz H2.out.mp hnin
     obtain ⟨hmu, hmp⟩ := look_put hz H2.out.mp hnin
     obtain ⟨AK, cK, eK⟩ := Kd.S_slice H2.out.ks
     subst eK
     rw [List.length_map] at *
     have a0 : wr.cell? ⟨B, 0, none⟩ = some (.slice AK K.length cK) := blk_cell H2.out.ba 0
     have HNB := Aside0.mk hnb
     have HNIN := Aside0.mk hnin
     have HMP := Aside0.mk hmp
     clear hnb hnin hmp hz
     go_upto_region 13 with fail
     have hnd : (K ++ [l]).Nodup := by
      rw [List.nodup_append]
      refine ⟨H2.out.nd, by simp, fun a ha b hb e => ?_⟩
      rw [List.mem_singleton] at hb
      subst hb; subst e
      exact HNIN.out ha
     have H5 := Aside0.mk (H2.out.put HMP.out hnd)
     have hph := Mp.put_heap wr (B + 1) (.string (keyS l)) (.int .i64 (K.length : Int))
     have HL5 := Aside0.mk (Kd.R_step HL2.out (fun k hk hlt => hph.2 k (by omega)))
     have HP5 := Aside0.mk hph
     clear hnd hph hlk hmu a0 b0
     generalize Mp.put wr (B + 1) (.string (keyS l)) (.int .i64 (K.length : Int)) = W5 at *
     have a0 : W5.cell? ⟨B, 0, none⟩ = some (.slice AK K.length cK) := blk_cell H5.out.ba 0
     have f0 := blk_frozen H5.out.ba 0
     have hown : ∀ k, some k = (Value.slice A l.length c).ownBlock → some k ≠ (Value.slice AK K.length cK).ownBlock := fun k e e' => by
      obtain ⟨c1, h1⟩ := Kd.R_typed HL5.out k e.symm
      obtain ⟨c2, h2⟩ := Kd.S_typed H5.out.ks k e'.symm
      rw [h1] at h2
      cases h2
     have HOW := Aside0.mk hown
     clear hown
     go_wp2_with (first | ((with_reducible refine gate_builtin (b := .append) (xs := #[.tmp 46, .tmp 48]) rfl ?_); at_builtin; refine Kd.S_append (Kd.slice 37 k37) (w0 := W5) (B + 3) rfl (.tmp 46) (.tmp 48) 46 28 (.slice none 0 0) 24 rfl Tryd.underlying46 info28 rfl (by decide) (by omega) (.slice AK K.length cK) (K.map (·.map ofI)) (l.map ofI) [.slice A l.length c] (fun k => B + 3 ≤ k) (fun k => some k = (Value.slice A l.length c).ownBlock ∧ B + 3 ≤ k) rfl rfl ⟨_, rfl, Kd.R_tight2 rfl HL5.out⟩ (fun k hk => ⟨hk.2, HOW.out k hk.1⟩) (fun k hk => Nat.le_trans H5.out.size hk) (Kd.S_mono H5.out.ks (fun k hk => ⟨hk.1, fun h2 => hk.2 h2.1⟩)) (RowKit.Below.refl _ _) H5.out.size ?aL ?_; (case aL => have := HK.out; rw [List.length_map]; omega); intro v6 w6 ho hb hg hat; obtain ⟨A6, n6, e6⟩ := Kd.S_slice ho; have e7 : (K.map (·.map ofI) ++ [l.map ofI]).length = K.length + 1 := (by simp); rw [e7] at e6; subst e6; clear e7; have HS6 := Aside0.mk ho; have HG6 := Aside0.mk hg; have c6 : w6.cell? ⟨B, 0, none⟩ = some (.slice AK K.length cK) := blk_cell ((hg.block _ (blk_lt H5.out.ba) (fun e => by have := Kd.S_base H5.out.ks _ e.symm; omega)).trans H5.out.ba) 0; have f6 := blk_frozen ((hg.block _ (blk_lt H5.out.ba) (fun e => by have := Kd.S_base H5.out.ks _ e.symm; omega)).trans H5.out.ba) 0; clear ho hb hg hat))
     go_ret
     rw [HNB.out]
     refine ⟨rfl, _, Bd.app H5.out (by rw [List.map_append]; exact HS6.out) HG6.out, ?_, fun k h1 h2 h3 => ?_⟩
     ·rw [World.size_setCell]
      exact Nat.le_trans HB.out.size (Nat.le_trans (Nat.le_of_eq HP5.out.1.symm) HG6.out.size)
     ·refine (Below.heap_setCell w6 ⟨B, 0, none⟩ _ k (by show k ≠ B; omega)).trans ?_
      have h4 : k < wr.heap.size := Nat.lt_of_lt_of_le h1 HB.out.size
      exact ((HG6.out.block k (by rw [HP5.out.1]; exact h4) (fun e => h3 (e.trans (by cases AK <;> rfl)))).trans (HP5.out.2 k (by omega))).trans (HB.out.block k h1)
end Go.Proofs.YtclollnicbcooaaDoor.P
end

section
set_option linter.unusedVariables false
set_option linter.unusedSimpArgs false
namespace Go.Proofs.YtclollnicbcooaaDoor.P
open Go.RowKit Go.Lib Go.Sort Go.Proofs.YtclollnicbcooaaDoorW.PrintWords Go.Proofs.YtclollnicbcooaaDoorW.PrintLast Go.Proofs.YtclollnicbcooaaDoorW.PrintMore St Base

theorem nodup_len : ∀ (l m : List Itm), l.Nodup → (∀ x ∈ l, x ∈ m) → l.length ≤ m.length
 | [], m, _, _ => Nat.zero_le _
 | x :: l, m, hd, h => by
  rw [List.nodup_cons] at hd
  have hx := h x (List.mem_cons_self ..)
  have h1 := nodup_len l (m.erase x) hd.2 (fun y hy => by
   have hne : y ≠ x := fun e => hd.1 (e ▸ hy)
   exact (List.mem_erase_of_ne hne).2 (h y (List.mem_cons_of_mem _ hy)))
  have h2 := List.length_erase_of_mem hx
  have h3 : 0 < m.length := List.length_pos_of_mem hx
  rw [List.length_cons]; omega
theorem risen_nodup (l : List Itm) : (risen l).Nodup := List.Pairwise.imp (fun h e => by rw [e] at h; exact lt_irr _ h) (risen_is l).up

/-- One step of the automaton: closed, behind a symbol, rising. -/
def Sg (g : Gr) (c : List Itm) (s : Int) : List Itm := risen (stepL g (risen (closedL g c)) s)
theorem isI_rng {l2 : List ByteArray} {l3 : List S64} {st : Int} (h : Fits l2 l3 st) {x : Itm} (hx : isI (gr st l3) x = true) : -1 ≤ x.1 ∧ x.1 < 120 ∧ 0 ≤ x.2 ∧ x.2 ≤ 12 := by
 have hA := allI_has (gr st l3) x hx
 unfold isI at hx
 cases hr : rightL (gr st l3) x.1 with
 | none => rw [hr] at hx; cases hx
 | some r =>
  rw [hr] at hx
  simp only [decide_eq_true_eq] at hx
  have hf := h.few
  unfold rightL at hr
  rw [gr_len] at hr
  split at hr
  ·injection hr with hr
   rw [← hr] at hx
   simp only [List.length_cons, List.length_nil] at hx
   omega
  ·split at hr
   ·rename_i h1 h2
    rw [gr_at st l3 x.1 h2.1 h2.2] at hr
    injection hr with hr
    have : (rd_T64 l3 x.1).f2.length ≤ 12 := h.short _ (by unfold rd_T64; rw [List.getD_eq_getElem?_getD, List.getElem?_eq_getElem (by omega)]; exact List.getElem_mem (by omega))
    rw [← hr] at hx
    simp only at hx
    omega
   ·cases hr
theorem closed_small {l2 : List ByteArray} {l3 : List S64} {st : Int} (h : Fits l2 l3 st) (c : List Itm) : (risen (closedL (gr st l3) c)).length ≤ 1562 :=
 Nat.le_trans (nodup_len _ _ (risen_nodup _) (fun x hx => allI_has _ x (cl_is _ _ _ ((closedL_rise h c).mem x |>.1 hx)))) (allI_len h)
theorem Sg_small {l2 : List ByteArray} {l3 : List S64} {st : Int} (h : Fits l2 l3 st) (c : List Itm) (s : Int) : (Sg (gr st l3) c s).length ≤ 1562 ∧ ∀ x ∈ Sg (gr st l3) c s, rngI x := by
 have hm : ∀ x ∈ Sg (gr st l3) c s, ∃ y ∈ risen (closedL (gr st l3) c), x = (y.1, y.2 + 1) := fun x hx => by
  obtain ⟨y, h1, h2, h3⟩ := (stepL_mem _ _ _ _).1 (((risen_is _).mem x).1 hx)
  exact ⟨y, h1, h3⟩
 refine ⟨?_, fun x hx => ?_⟩
 ·have h1 : ((Sg (gr st l3) c s).map fun x => ((x.1, x.2 - 1) : Itm)).Nodup := by
   refine List.Pairwise.map _ (fun x y hne e => hne ?_) (risen_nodup _)
   have e1 := congrArg Prod.fst e
   have e2 := congrArg Prod.snd e
   exact Prod.ext e1 (by simp only at e2; omega)
  have h2 := nodup_len _ _ h1 (fun x hx => by
   obtain ⟨y, hy, rfl⟩ := List.mem_map.1 hx
   obtain ⟨z, hz, rfl⟩ := hm y hy
   have : (((z.1, z.2 + 1) : Itm).1, ((z.1, z.2 + 1) : Itm).2 - 1) = z := Prod.ext rfl (by show z.2 + 1 - 1 = z.2; omega)
   rw [this]; exact hz)
  rw [List.length_map] at h2
  exact Nat.le_trans h2 (closed_small h c)
 ·obtain ⟨y, hy, rfl⟩ := hm x hx
  have := isI_rng h (cl_is _ _ _ ((closedL_rise h c).mem y |>.1 hy))
  unfold rngI
  simp only
  omega

/-- All symbols: the terminals, the sorts. -/
def symsL (T S : Nat) : List Int := (List.range T).map (fun (i : Nat) => (i : Int)) ++ (List.range S).map (fun (i : Nat) => -1 - (i : Int))
theorem symsL_len (T S : Nat) : (symsL T S).length = T + S := by unfold symsL; simp
theorem sy1 : ∀ (d k S j : Nat) (x : List Int), S - j ≤ d → j ≤ S → d < k → S ≤ 1000 → x.length + d < 10000 → states_symbols.l1 k x (S : Int) (j : Int) = some (x ++ ((List.range S).drop j).map (fun (i : Nat) => -1 - (i : Int))) := by
 intro d
 induction d with
 | zero =>
  intro k S j x h1 h2 h3 h4 h5
  obtain ⟨k, rfl⟩ : ∃ m, k = m + 1 := ⟨k - 1, by omega⟩
  rw [states_symbols.l1, if_neg (by omega)]
  rw [List.drop_eq_nil_of_le (by simp; omega)]
  simp
 | succ d ih =>
  intro k S j x h1 h2 h3 h4 h5
  obtain ⟨k, rfl⟩ : ∃ m, k = m + 1 := ⟨k - 1, by omega⟩
  rw [states_symbols.l1]
  by_cases hj : (j : Int) < (S : Int)
  ·rw [if_pos hj, if_pos (by omega), IntWalk.wrap64_in _ (by omega), IntWalk.wrap64_in _ (by omega)]
   have := ih k S (j + 1) (x ++ [-1 - (j : Int)]) (by omega) (by omega) (by omega) h4 (by rw [List.length_append, List.length_singleton]; omega)
   rw [show ((j : Int) + 1) = ((j + 1 : Nat) : Int) by omega, this]
   rw [List.drop_eq_getElem_cons (i := j) (l := List.range S) (by simp; omega)]
   simp
  ·rw [if_neg hj]
   rw [List.drop_eq_nil_of_le (by simp; omega)]
   simp
theorem sy0 (l0 : List S82) (l1 : List S101) (l2 : List ByteArray) (l3 : List S64) (st : Int) (hT : l0.length ≤ 1000) (hS : l2.length ≤ 1000) : ∀ (d k j : Nat) (x : List Int), l0.length - j ≤ d → j ≤ l0.length → d + l2.length + 1 < k → x.length + d < 5000 → states_symbols.l0 k x (l0.length : Int) (j : Int) l0 l1 l2 l3 st = some (x ++ ((List.range l0.length).drop j).map (fun (i : Nat) => (i : Int)) ++ (List.range l2.length).map (fun (i : Nat) => -1 - (i : Int))) := by
 intro d
 induction d with
 | zero =>
  intro k j x h1 h2 h3 h5
  obtain ⟨k, rfl⟩ : ∃ m, k = m + 1 := ⟨k - 1, by omega⟩
  rw [states_symbols.l0, if_neg (by omega)]
  rw [List.drop_eq_nil_of_le (by simp; omega)]
  have := sy1 l2.length k l2.length 0 x (by omega) (by omega) (by omega) hS (by omega)
  simpa using this
 | succ d ih =>
  intro k j x h1 h2 h3 h5
  obtain ⟨k, rfl⟩ : ∃ m, k = m + 1 := ⟨k - 1, by omega⟩
  rw [states_symbols.l0]
  by_cases hj : (j : Int) < (l0.length : Int)
  ·rw [if_pos hj, if_pos (by omega), IntWalk.wrap64_in _ (by omega)]
   have := ih k (j + 1) (x ++ [(j : Int)]) (by omega) (by omega) (by omega) (by rw [List.length_append, List.length_singleton]; omega)
   rw [show ((j : Int) + 1) = ((j + 1 : Nat) : Int) by omega, this]
   rw [List.drop_eq_getElem_cons (i := j) (l := List.range l0.length) (by simp; omega)]
   simp
  ·rw [if_neg hj]
   rw [List.drop_eq_nil_of_le (by simp; omega)]
   have := sy1 l2.length k l2.length 0 x (by omega) (by omega) (by omega) hS (by omega)
   simpa using this
theorem symbols_is (l0 : List S82) (l1 : List S101) (l2 : List ByteArray) (l3 : List S64) (st : Int) (hT : l0.length ≤ 60) (hS : l2.length ≤ 60) : states_symbols.f 300 l0 l1 l2 l3 st = some (symsL l0.length l2.length) := by
 unfold states_symbols.f symsL
 have := sy0 l0 l1 l2 l3 st (by omega) (by omega) l0.length 300 0 [] (by omega) (by omega) (by omega) (by simp; omega)
 simpa using this
end Go.Proofs.YtclollnicbcooaaDoor.P
end

section
set_option linter.unusedVariables false
set_option linter.unusedSimpArgs false
namespace Go.Proofs.YtclollnicbcooaaDoor.P
open Go.RowKit Go.Lib Go.Sort Go.Proofs.YtclollnicbcooaaDoorW.PrintWords Go.Proofs.YtclollnicbcooaaDoorW.PrintLast Go.Proofs.YtclollnicbcooaaDoorW.PrintMore St Base
attribute [local go_sem] Oper.semAt_some

def builtL (T S : Nat) (g : Gr) : Option (Option (List (List Itm) × List (List Int))) := buildL (Sg g) (symsL T S) 2000 2003 0 [[(-1, 0)]] []
def outB : Option (List (List Itm) × List (List Int)) → List (List S37) × List (List Int) × Int
 | none => ([], [], 4)
 | some (K, N) => (K.map (·.map ofI), N, 0)
def states_Build.f (l0 : List S82) (l1 : List S101) (l2 : List ByteArray) (l3 : List S64) (st : Int) : Option (List (List S37) × List (List Int) × Int) :=
 if validB l0 l1 l2 l3 st = true then (if l3.all okP = true then (builtL l0.length l2.length (gr st l3)).map outB else none) else some ([], [], 1)

/-- Between two rounds of the outer loop. -/
structure Bx (T S : Nat) (g : Gr) (R : Option (List (List Itm) × List (List Int))) (n : Nat) (K : List (List Itm)) (N : List (List Int)) : Prop where
 run : buildL (Sg g) (symsL T S) 2000 n N.length K N = some R
 few : K.length ≤ 2000
 small : ∀ c ∈ K, c.length ≤ 1562 ∧ ∀ x ∈ c, rngI x
 rows : N.length ≤ K.length
 n3 : N.length + n ≤ 2003
theorem Bx.start {T S : Nat} {g : Gr} {R : Option (List (List Itm) × List (List Int))} (h : builtL T S g = some R) : Bx T S g R 2003 [[(-1, 0)]] [] where
 run := h
 few := by simp
 small := fun c hc => by
  rw [List.mem_singleton] at hc
  subst hc
  refine ⟨by simp, fun x hx => ?_⟩
  rw [List.mem_singleton] at hx
  subst hx
  unfold rngI
  simp only
  omega
 rows := by simp
 n3 := by simp
/-- Within a round: the first j symbols are done. -/
structure Rx (f : Int → List Itm) (syms : List Int) (res : List Int × List (List Itm)) (j : Nat) (nums : List Int) (K : List (List Itm)) : Prop where
 run1 : nums ++ (rowL f (syms.drop j) K).1 = res.1
 run2 : (rowL f (syms.drop j) K).2 = res.2
 few : K.length ≤ 2000 + j
 small : ∀ c ∈ K, c.length ≤ 1562 ∧ ∀ x ∈ c, rngI x
 le : j ≤ syms.length
 len : nums.length = j
theorem numb_small {K : List (List Itm)} {l : List Itm} (hK : ∀ c ∈ K, c.length ≤ 1562 ∧ ∀ x ∈ c, rngI x) (hl : l.length ≤ 1562 ∧ ∀ x ∈ l, rngI x) : (∀ c ∈ (numb K l).2, c.length ≤ 1562 ∧ ∀ x ∈ c, rngI x) ∧ (numb K l).2.length ≤ K.length + 1 := by
 by_cases h : l = []
 ·have e : numb K l = (-1, K) := by unfold numb; rw [if_pos h]
  rw [e]
  exact ⟨hK, Nat.le_succ _⟩
 ·rcases numb_cases K l h with ⟨j, _, e⟩ | ⟨_, e⟩
  ·rw [e]; exact ⟨hK, Nat.le_succ _⟩
  ·rw [e]
   refine ⟨fun c hc => ?_, by simp⟩
   rcases List.mem_append.1 hc with h1 | h1
   ·exact hK c h1
   ·rw [List.mem_singleton] at h1
    subst h1; exact hl
theorem Rx.next {f : Int → List Itm} {syms : List Int} {res : List Int × List (List Itm)} {j : Nat} {nums : List Int} {K : List (List Itm)} (h : Rx f syms res j nums K) (hj : j < syms.length) {s : Int} (hs : Go.Proofs.YtclollnicbcooaaDoorW.PrintWords.rd syms j = s) (hf : (f s).length ≤ 1562 ∧ ∀ x ∈ f s, rngI x) :
  Rx f syms res (j + 1) (nums ++ [(numb K (f s)).1]) (numb K (f s)).2 := by
 have e : syms.drop j = s :: syms.drop (j + 1) := by
  rw [List.drop_eq_getElem_cons hj]
  congr 1
  rw [← hs]
  unfold Go.Proofs.YtclollnicbcooaaDoorW.PrintWords.rd
  rw [Int.toNat_natCast, List.getD_eq_getElem?_getD, List.getElem?_eq_getElem hj]
  rfl
 obtain ⟨h1, h2⟩ := numb_small h.small hf
 refine ⟨?_, ?_, by have := h.few; omega, h1, hj, by rw [List.length_append, List.length_singleton, h.len]⟩
 ·have := h.run1
  rw [e, rowL] at this
  rw [← this]
  simp
 ·have := h.run2
  rw [e, rowL] at this
  exact this
theorem Rx.done {f : Int → List Itm} {syms : List Int} {res : List Int × List (List Itm)} {j : Nat} {nums : List Int} {K : List (List Itm)} (h : Rx f syms res j nums K) (hj : j = syms.length) : nums = res.1 ∧ K = res.2 := by
 have h1 := h.run1
 have h2 := h.run2
 rw [hj, List.drop_length] at h1 h2
 rw [rowL] at h1 h2
 rw [List.append_nil] at h1
 exact ⟨h1, h2⟩
theorem Rx.start {T S : Nat} {g : Gr} {R : Option (List (List Itm) × List (List Int))} {n : Nat} {K : List (List Itm)} {N : List (List Int)} (h : Bx T S g R n K N) (f : Int → List Itm) (syms : List Int) : Rx f syms (rowL f syms K) 0 [] K where
 run1 := by simp
 run2 := by simp
 few := h.few
 small := h.small
 le := Nat.zero_le _
 len := rfl
theorem Bx.on {T S : Nat} {g : Gr} {R : Option (List (List Itm) × List (List Int))} {n : Nat} {K : List (List Itm)} {N : List (List Int)} {c : List Itm} (h : Bx T S g R (n + 1) K N) (hc : K[N.length]? = some c) {K' : List (List Itm)} {nums : List Int} (hr : nums = (rowL (Sg g c) (symsL T S) K).1 ∧ K' = (rowL (Sg g c) (symsL T S) K).2) (hs : ∀ c ∈ K', c.length ≤ 1562 ∧ ∀ x ∈ c, rngI x) :
  (2000 < K'.length → R = none) ∧ (¬ 2000 < K'.length → Bx T S g R n K' (N ++ [nums])) := by
 have hr1 := h.run
 rw [buildL, hc] at hr1
 simp only at hr1
 rw [← hr.1, ← hr.2] at hr1
 have hn := h.n3
 constructor
 ·intro hm
  rw [if_pos hm] at hr1
  exact (Option.some.inj hr1).symm
 ·intro hm
  rw [if_neg hm] at hr1
  obtain ⟨M, e, _⟩ := rowL_is (Sg g c) (symsL T S) K
  obtain ⟨hlt, _⟩ := List.getElem?_eq_some_iff.1 hc
  have hl : K.length ≤ K'.length := by rw [hr.2, e, List.length_append]; omega
  refine ⟨?_, by omega, hs, ?_, ?_⟩
  ·rw [List.length_append, List.length_singleton]; exact hr1
  ·rw [List.length_append, List.length_singleton]; omega
  ·rw [List.length_append, List.length_singleton]; omega
theorem Bx.fine {T S : Nat} {g : Gr} {R : Option (List (List Itm) × List (List Int))} {n : Nat} {K : List (List Itm)} {N : List (List Int)} (h : Bx T S g R (n + 1) K N) (hc : K[N.length]? = none) : R = some (K, N) := by
 have hr1 := h.run
 rw [buildL, hc] at hr1
 exact (Option.some.inj hr1).symm
theorem Bx.pos {T S : Nat} {g : Gr} {R : Option (List (List Itm) × List (List Int))} {n : Nat} {K : List (List Itm)} {N : List (List Int)} (h : Bx T S g R n K N) : ∃ m, n = m + 1 := by
 cases n with
 | zero => have := h.run; cases this
 | succ m => exact ⟨m, rfl⟩

theorem Bd.start {w W : World} {G : Array Value} (hb : RowKit.Below w.heap.size w W) (bg : W.heap[w.heap.size]? = some (.cells G 27 (0, 0))) (br : W.heap[w.heap.size + 1]? = some (.cells #[.slice none 0 0, .slice none 0 0] 49 (0, 0))) :
  Bd w W.heap.size G [] [] [] (.slice none 0 0) (.slice none 0 0) (fun _ => True) (fun _ => True) (((W.alloc (Obj.cells #[.slice none 0 0, .slice none 0 0] 49)).alloc (Obj.map #[] 0)).alloc (Obj.cells #[.map (some (W.heap.size + 1))] 87)) where
 hb := below_alloc (below_alloc (below_alloc hb _) _) _
 bg := blk_alloc (blk_alloc (blk_alloc bg _) _) _
 br := blk_alloc (blk_alloc (blk_alloc br _) _) _
 ba := blk_alloc (blk_alloc (blk_new W _) _) _
 mp := by
  have h := Mp.new Tryd.prog 9 (W.alloc (Obj.cells #[.slice none 0 0, .slice none 0 0] 49))
  rw [World.size_alloc] at h
  exact h.same (Below.block (below_alloc (RowKit.Below.refl _ _) _) _ h.lt)
 bn := by
  have h := blk_new ((W.alloc (Obj.cells #[.slice none 0 0, .slice none 0 0] 49)).alloc (Obj.map #[] 0)) (Obj.cells #[.map (some (W.heap.size + 1))] 87)
  rw [World.size_alloc, World.size_alloc] at h
  exact h
 ks := Kd.S_nil _ _ _ _ _
 ns := Kd.S_nil _ _ _ _ _
 nd := List.nodup_nil
 hB := blk_lt br
/-- A row of one item that a call makes. -/
theorem one_row (W : World) (B : Nat) (hB : B + 3 ≤ W.heap.size) : Kd.R k37 37 (W.alloc (Obj.cells #[.int .i64 (-1), .int .i64 0] 37)) (B + 3) (fun k => B + 3 ≤ k) (.slice (some ⟨W.heap.size, 0, none⟩) 1 1) ([((-1, 0) : Itm)].map ofI) := by
 have h := R_of_own2 (W := W.alloc (Obj.cells #[.int .i64 (-1), .int .i64 0] 37)) (base := B + 3) (ok := fun k => B + 3 ≤ k) (v := .slice (some ⟨W.heap.size, 0, none⟩) 1 1) (l := [((-1, 0) : Itm)]) ?_ ?_
 ·exact h
 ·refine ⟨rfl, .inr ⟨W.heap.size, 1, _, rfl, hB, blk_new W _, ?_⟩⟩
  exact ⟨by decide, by decide, rfl, by simp [flatC, encI]⟩
 ·intro k hk
  injection hk with hk
  subst hk
  exact hB
section
variable {w : World} {B Bn : Nat} {G : Array Value} {Km K : List (List Itm)} {N : List (List Int)} {vK vN : Value} {okK okN : Nat → Prop} {W W1 : World}
/-- A row of numbers more. -/
theorem Bd.appN (h : Bd w B G Km K N vK vN okK okN W) {N' : List (List Int)} {v1 : Value} (hs : Kd.S (Kd.slice 3 (Kd.int .i64)) 58 W1 (B + 3) (fun k => B + 3 ≤ k) v1 N') (hg : W.grownBy W1 vN.ownBlock) : Bd w B G Km K N' vK v1 (fun _ => True) (fun _ => True) (W1.setCell ⟨B, 1, none⟩ v1) := by
 have hbase := Kd.S_base h.ns
 have hB := h.hB
 have hkeep : ∀ k, k < B + 3 → k < W.heap.size → W1.heap[k]? = W.heap[k]? := fun k h1 h2 => hg.block k h2 (fun e => by have := hbase k e.symm; omega)
 have hsz := h.size
 have hfar : ∀ k, k ≠ B → (W1.setCell ⟨B, 1, none⟩ v1).heap[k]? = W1.heap[k]? := fun k hk => Below.heap_setCell W1 ⟨B, 1, none⟩ v1 k hk
 refine ⟨below_set (below_grown h.hb hg (fun k hk => by have := hbase k hk; omega)) (by show w.heap.size ≤ B; omega), ?_, ?_, ?_, ?_, ?_, ?_, ?_, h.nd, hB⟩
 ·exact ((hfar _ (by omega)).trans (hkeep _ (by omega) (by omega))).trans h.bg
 ·exact ((hfar _ (by omega)).trans (hkeep _ (by omega) (by omega))).trans h.br
 ·exact blk_put ((hkeep _ (by omega) (by omega)).trans h.ba) 1 _ rfl
 ·exact h.mp.same ((hfar _ (by omega)).trans (hkeep _ (by omega) (by omega)))
 ·exact ((hfar _ (by omega)).trans (hkeep _ (by omega) (by omega))).trans h.bn
 ·exact Kd.S_mono (Kd.S_far (Kd.S_over' h.ks (Kd.S_typed h.ns) (by decide) hg) (fun k hk => by have := hk.1; show k ≠ B; omega) _) (fun k hk => ⟨hk.1, trivial⟩)
 ·exact Kd.S_mono (Kd.S_far hs (fun k hk => by show k ≠ B; omega) _) (fun k hk => ⟨hk, trivial⟩)
/-- Another row of numbers grows. -/
theorem Bd.other (h : Bd w B G Km K N vK vN okK (fun k => k < Bn) W) {v : Value} (hty : ∀ k, v.ownBlock = some k → ∃ cells, W.heap[k]? = some (.cells cells 3 (0, 0))) (hbs : ∀ k, v.ownBlock = some k → Bn ≤ k) (hBn : B + 3 ≤ Bn) (hg : W.grownBy W1 v.ownBlock) : Bd w B G Km K N vK vN okK (fun k => k < Bn) W1 := by
 have hB := h.hB
 have hsz := h.size
 have hkeep : ∀ k, k < B + 3 → W1.heap[k]? = W.heap[k]? := fun k h1 => hg.block k (by omega) (fun e => by have := hbs k e.symm; omega)
 refine ⟨below_grown h.hb hg (fun k hk => by have := hbs k hk; omega), ?_, ?_, ?_, ?_, ?_, ?_, ?_, h.nd, hB⟩
 ·exact (hkeep _ (by omega)).trans h.bg
 ·exact (hkeep _ (by omega)).trans h.br
 ·exact (hkeep _ (by omega)).trans h.ba
 ·exact h.mp.same (hkeep _ (by omega))
 ·exact (hkeep _ (by omega)).trans h.bn
 ·exact Kd.S_over' h.ks hty (by decide) hg
 ·exact Kd.S_grown h.ns hg (fun k hk e => by have := hbs k e.symm; have := hk.2; omega)
theorem Bd.later (h : Bd w B G Km K N vK vN okK okN W) : Bd w B G Km K N vK vN okK (fun k => k < W.heap.size) W :=
 ⟨h.hb, h.bg, h.br, h.ba, h.mp, h.bn, h.ks, Kd.S_mono (Kd.S_bound h.ns) (fun k hk => ⟨hk.1.1, hk.2.2.1⟩), h.nd, h.hB⟩
theorem Bd.apart (h : Bd w B G Km K N vK vN okK okN W) (hb : RowKit.Below W.heap.size W W1) {v : Value} (hbase : ∀ k, v.ownBlock = some k → W.heap.size ≤ k) : Bd w B G Km K N vK vN (fun k => some k ≠ v.ownBlock) okN W1 := by
 have h1 := h.below hb
 exact ⟨h1.hb, h1.bg, h1.br, h1.ba, h1.mp, h1.bn, Kd.S_mono (Kd.S_elder' h.ks hbase hb) (fun k hk => ⟨hk.1.1, hk.2⟩), h1.ns, h1.nd, h1.hB⟩
theorem R_up {α : Type} {d : Kd α} {e b : Nat} {ok : Nat → Prop} {v : Value} {xs : List α} (h : d.R e W b ok v xs) (hb : B + 3 ≤ b) : d.R e W (B + 3) (fun k => B + 3 ≤ k) v xs :=
 Kd.R_mono (Kd.R_lower (Kd.R_bound h) hb) (fun k hk => Nat.le_trans hb hk.2.1)
theorem R_numb {α : Type} {d : Kd α} {e b : Nat} {ok : Nat → Prop} {v : Value} {xs : List α} (h : d.R e W b ok v xs) (hK : ∀ k, vK.ownBlock = some k → ∃ cells, W.heap[k]? = some (.cells cells 28 (0, 0))) (ht : ∀ q, q ∈ e :: d.E → q ≠ 28) (hb : B + 3 ≤ b) (hk : ∀ k, k < W.heap.size → B + 3 ≤ k → some k ≠ vK.ownBlock → W1.heap[k]? = W.heap[k]?) : d.R e W1 b ok v xs := by
 refine Kd.R_mono (Kd.R_move (Kd.R_bound h) (fun k hh => ?_)) (fun k hh => hh.1)
 obtain ⟨_, h1, h2, q, hq, cells, hc⟩ := hh
 refine hk k h2 (by omega) (fun e' => ?_)
 obtain ⟨cells', hc'⟩ := hK k e'.symm
 rw [hc] at hc'
 injection hc' with hc'
 injection hc' with _ hc'
 exact ht q hq hc'
/-- One of the rows of items. -/
theorem kernel_at (h : Bd w B G Km K N vK vN okK okN W) {i : Nat} {c : List Itm} (hc : K[i]? = some c) : ∃ (ad : Addr) (n : Nat) (A : Option Addr) (cc : Nat), vK = .slice (some ad) K.length n ∧ W.cell? (ad.add i) = some (.slice A c.length cc) ∧ c.length ≤ cc ∧ Kd.C k37 W A c.length (c.map ofI) := by
 obtain ⟨A0, n, e, hn, hC⟩ := Kd.S_reads h.ks
 obtain ⟨hlt, _⟩ := List.getElem?_eq_some_iff.1 hc
 rw [List.length_map] at hC e
 obtain ⟨ad, cs, e1, hcl, hK, hcc⟩ := Kd.C_get hC [] (i : Int) (by omega) (by omega)
 have e3 : (K.map (·.map ofI)).getD (i : Int).toNat [] = c.map ofI := by
  rw [Int.toNat_natCast, List.getD_eq_getElem?_getD, List.getElem?_map, hc]
  rfl
 rw [e3] at hK
 obtain ⟨A, cc, e2, hle, hR⟩ := hK
 rw [List.length_map] at e2 hle hR
 have h3 := hcc 0 (.slice A c.length cc) (by rw [e2]; rfl)
 refine ⟨ad, n, A, cc, by rw [e, e1], ?_, hle, hR⟩
 rw [← h3]
 congr 2
 first | rfl | (show i = (i : Int).toNat * 1 + 0; omega) | simp
end
theorem closed_is {l0 : List S82} {l1 : List S101} {l2 : List ByteArray} {l3 : List S64} {st : Int} (hv : validB l0 l1 l2 l3 st = true) (hp : l3.all okP = true) {c : List Itm} (hc : c.length ≤ 1562 ∧ ∀ x ∈ c, rngI x) : states_closed.f l0 l1 l2 l3 st (c.map ofI) = some ((risen (closedL (gr st l3) c)).map ofI) := by
 unfold states_closed.f
 rw [if_pos, map_toI_ofI]
 refine ⟨hv, hp, by rw [List.length_map]; omega, List.all_eq_true.2 (fun x hx => ?_)⟩
 obtain ⟨y, hy, rfl⟩ := List.mem_map.1 hx
 have := hc.2 y hy
 unfold okI
 exact decide_eq_true this
theorem step_is {l0 : List S82} {l1 : List S101} {l2 : List ByteArray} {l3 : List S64} {st : Int} (hv : validB l0 l1 l2 l3 st = true) (c : List Itm) (s : Int) : states_step.f l0 l1 l2 l3 st ((risen (closedL (gr st l3) c)).map ofI) s = some ((Sg (gr st l3) c s).map ofI) := by
 unfold states_step.f
 rw [if_pos, map_toI_ofI]
 ·rfl
 ·refine ⟨hv, ?_⟩
  rw [List.length_map]
  have := closed_small (fits_of hv) c
  omega

theorem terms_few {l0 : List S82} {l1 : List S101} {l2 : List ByteArray} {l3 : List S64} {st : Int} (h : validB l0 l1 l2 l3 st = true) : l0.length ≤ 60 := by
 unfold validB at h
 simp only [Bool.and_eq_true, Bool.not_eq_true', decide_eq_false_iff_not, inB, decide_eq_true_eq] at h
 omega
set_option maxHeartbeats 4000000 in
set_option maxRecDepth 100000 in
theorem build_bad (A0 : Option Addr) (c0 : Nat) (l0 : List S82) (A1 : Option Addr) (c1 : Nat) (l1 : List S101) (A2 : Option Addr) (c2 : Nat) (l2 : List ByteArray) (A3 : Option Addr) (c3 : Nat) (l3 : List S64) (st : Int) (w : World)
  (hr0 : Kd.C k82 w A0 l0.length l0) (hc0 : l0.length ≤ c0) (hr1 : Kd.C k101 w A1 l1.length l1) (hc1 : l1.length ≤ c1) (hr2 : Kd.C Kd.string w A2 l2.length l2) (hc2 : l2.length ≤ c2) (hr3 : Kd.C k64 w A3 l3.length l3) (hc3 : l3.length ≤ c3) (hv : validB l0 l1 l2 l3 st = false) :
  Calls Tryd.prog 23 #[.agg #[.slice A0 l0.length c0, .slice A1 l1.length c1, .slice A2 l2.length c2, .slice A3 l3.length c3, .int .i64 st]] w fun e w' => e = .returned (.tuple #[.agg #[.slice none 0 0, .slice none 0 0], .int .i64 1]) ∧ RowKit.Below w.heap.size w w' := by
 have HR0 := Aside0.mk hr0
 have HR1 := Aside0.mk hr1
 have HR2 := Aside0.mk hr2
 have HR3 := Aside0.mk hr3
 have HC0 := Aside0.mk hc0
 have HC1 := Aside0.mk hc1
 have HC2 := Aside0.mk hc2
 have HC3 := Aside0.mk hc3
 have HV := Aside0.mk (show inst_Valid.f l0 l1 l2 l3 st = some false by unfold inst_Valid.f; rw [hv])
 clear hr0 hr1 hr2 hr3 hc0 hc1 hc2 hc3 hv
 have hu27 := Tryd.underlying27
 have hu49 := Tryd.underlying49
 go_enter Tryd.func23, Tryd.ntmps23
 go_upto_region 1 with fail
 have BG := Aside0.mk (blk_alloc (blk_new w (Obj.cells #[.slice A0 l0.length c0, .slice A1 l1.length c1, .slice A2 l2.length c2, .slice A3 l3.length c3, .int .i64 st] 27)) (Obj.cells #[.slice none 0 0, .slice none 0 0] 49))
 have BR := Aside0.mk (show ((w.alloc (Obj.cells #[.slice A0 l0.length c0, .slice A1 l1.length c1, .slice A2 l2.length c2, .slice A3 l3.length c3, .int .i64 st] 27)).alloc (Obj.cells #[.slice none 0 0, .slice none 0 0] 49)).heap[w.heap.size + 1]? = some (.cells #[.slice none 0 0, .slice none 0 0] 49 (0, 0)) by have h := blk_new (w.alloc (Obj.cells #[.slice A0 l0.length c0, .slice A1 l1.length c1, .slice A2 l2.length c2, .slice A3 l3.length c3, .int .i64 st] 27)) (Obj.cells #[.slice none 0 0, .slice none 0 0] 49); rw [World.size_alloc] at h; exact h)
 have HB := Aside0.mk (below_alloc (below_alloc (RowKit.Below.refl w.heap.size w) (Obj.cells #[.slice A0 l0.length c0, .slice A1 l1.length c1, .slice A2 l2.length c2, .slice A3 l3.length c3, .int .i64 st] 27)) (Obj.cells #[.slice none 0 0, .slice none 0 0] 49))
 generalize (w.alloc (Obj.cells #[.slice A0 l0.length c0, .slice A1 l1.length c1, .slice A2 l2.length c2, .slice A3 l3.length c3, .int .i64 st] 27)).alloc (Obj.cells #[.slice none 0 0, .slice none 0 0] 49) = w1 at *
 obtain ⟨z0, z1, z2, z3, z4⟩ := five5 BG.out
 go_upto_region 2 with (go_at_call 34; (with_reducible refine (inst_Valid.calls _ _ l0 _ _ l1 _ _ l2 _ _ l3 st false w1 (Kd.C_below HR0.out HB.out) HC0.out (Kd.C_below HR1.out HB.out) HC1.out (Kd.C_below HR2.out HB.out) HC2.out (Kd.C_below HR3.out HB.out) HC3.out HV.out).mono ?_); rintro e w2 ⟨rfl, hb⟩; have HB2 := Aside0.mk (below_step HB.out hb); have BR2 := Aside0.mk (blk_below BR.out hb); clear hb)
 clear z0 z1 z2 z3 z4
 have y0 : w2.cell? ⟨w.heap.size + 1, 0, none⟩ = some (.slice none 0 0) := blk_cell BR2.out 0
 have y1 : w2.cell? ⟨w.heap.size + 1, 1, none⟩ = some (.slice none 0 0) := blk_cell BR2.out 1
 have f2 := blk_frozen BR2.out 0
 have f3 := blk_frozen BR2.out 1
 go_wp2
 refine bodyPost_ret (results_ct rfl _ _ (w.heap.size + 1) 49 #[.slice none 0 0, .slice none 0 0] (0, 0) _ rfl (blk_put (blk_put BR2.out 0 _ rfl) 1 _ rfl) Tryd.underlying49 rfl (by kernel_rfl)) rfl ⟨rfl, ?_⟩
 exact below_set (below_set HB2.out (Nat.le_succ _)) (Nat.le_succ _)
set_option maxHeartbeats 16000000 in
set_option maxRecDepth 100000 in
theorem build_good (A0 : Option Addr) (c0 : Nat) (l0 : List S82) (A1 : Option Addr) (c1 : Nat) (l1 : List S101) (A2 : Option Addr) (c2 : Nat) (l2 : List ByteArray) (A3 : Option Addr) (c3 : Nat) (l3 : List S64) (st : Int) (R : Option (List (List Itm) × List (List Int))) (w : World) (hG : GTab w)
  (hr0 : Kd.C k82 w A0 l0.length l0) (hc0 : l0.length ≤ c0) (hr1 : Kd.C k101 w A1 l1.length l1) (hc1 : l1.length ≤ c1) (hr2 : Kd.C Kd.string w A2 l2.length l2) (hc2 : l2.length ≤ c2) (hr3 : Kd.C k64 w A3 l3.length l3) (hc3 : l3.length ≤ c3) (hv : validB l0 l1 l2 l3 st = true) (hp : l3.all okP = true) (h : builtL l0.length l2.length (gr st l3) = some R) :
  Calls Tryd.prog 23 #[.agg #[.slice A0 l0.length c0, .slice A1 l1.length c1, .slice A2 l2.length c2, .slice A3 l3.length c3, .int .i64 st]] w fun e w' => ∃ v0_ v1_ : Value, e = .returned (.tuple #[.agg #[v0_, v1_], .int .i64 (outB R).2.2]) ∧ Kd.S (Kd.slice 37 k37) 28 w' w.heap.size (fun _ => True) v0_ (outB R).1 ∧ Kd.S (Kd.slice 3 (Kd.int .i64)) 58 w' w.heap.size (fun _ => True) v1_ (outB R).2.1 ∧ RowKit.Below w.heap.size w w' := by
 have HR0 := Aside0.mk hr0
 have HR1 := Aside0.mk hr1
 have HR2 := Aside0.mk hr2
 have HR3 := Aside0.mk hr3
 have HC0 := Aside0.mk hc0
 have HC1 := Aside0.mk hc1
 have HC2 := Aside0.mk hc2
 have HC3 := Aside0.mk hc3
 have HG := Aside0.mk hG
 have HVB := Aside0.mk hv
 have HPB := Aside0.mk hp
 have HX := Aside0.mk (Bx.start h)
 have HV := Aside0.mk (show inst_Valid.f l0 l1 l2 l3 st = some true by unfold inst_Valid.f; rw [hv])
 clear hr0 hr1 hr2 hr3 hc0 hc1 hc2 hc3 hv hG hp h
 have hu27 := Tryd.underlying27
 have hu28 := Tryd.underlying28
 have hu37 := Tryd.underlying37
 have hu49 := Tryd.underlying49
 have hmm := @run_makeMap Tryd.prog
 have hmf : ∀ (fn : Fn) (first cap : Array Value) (w : World), (Instr.makeFunc fn first cap).run Tryd.prog w = .ok (.func fn first cap) w := fun _ _ _ _ => rfl
 go_enter Tryd.func23, Tryd.ntmps23
 go_upto_region 1 with fail
 have BG := Aside0.mk (blk_alloc (blk_new w (Obj.cells #[.slice A0 l0.length c0, .slice A1 l1.length c1, .slice A2 l2.length c2, .slice A3 l3.length c3, .int .i64 st] 27)) (Obj.cells #[.slice none 0 0, .slice none 0 0] 49))
 have BR := Aside0.mk (show ((w.alloc (Obj.cells #[.slice A0 l0.length c0, .slice A1 l1.length c1, .slice A2 l2.length c2, .slice A3 l3.length c3, .int .i64 st] 27)).alloc (Obj.cells #[.slice none 0 0, .slice none 0 0] 49)).heap[w.heap.size + 1]? = some (.cells #[.slice none 0 0, .slice none 0 0] 49 (0, 0)) by have h := blk_new (w.alloc (Obj.cells #[.slice A0 l0.length c0, .slice A1 l1.length c1, .slice A2 l2.length c2, .slice A3 l3.length c3, .int .i64 st] 27)) (Obj.cells #[.slice none 0 0, .slice none 0 0] 49); rw [World.size_alloc] at h; exact h)
 have HB := Aside0.mk (below_alloc (below_alloc (RowKit.Below.refl w.heap.size w) (Obj.cells #[.slice A0 l0.length c0, .slice A1 l1.length c1, .slice A2 l2.length c2, .slice A3 l3.length c3, .int .i64 st] 27)) (Obj.cells #[.slice none 0 0, .slice none 0 0] 49))
 generalize (w.alloc (Obj.cells #[.slice A0 l0.length c0, .slice A1 l1.length c1, .slice A2 l2.length c2, .slice A3 l3.length c3, .int .i64 st] 27)).alloc (Obj.cells #[.slice none 0 0, .slice none 0 0] 49) = w1 at *
 obtain ⟨z0, z1, z2, z3, z4⟩ := five5 BG.out
 go_upto_region 3 with (go_at_call 34; (with_reducible refine (inst_Valid.calls _ _ l0 _ _ l1 _ _ l2 _ _ l3 st true w1 (Kd.C_below HR0.out HB.out) HC0.out (Kd.C_below HR1.out HB.out) HC1.out (Kd.C_below HR2.out HB.out) HC2.out (Kd.C_below HR3.out HB.out) HC3.out HV.out).mono ?_); rintro e w2 ⟨rfl, hb⟩; have HB2 := Aside0.mk (below_step HB.out hb); have BG2 := Aside0.mk (blk_below BG.out hb); have BR2 := Aside0.mk (blk_below BR.out hb); clear hb)
 clear z0 z1 z2 z3 z4 HB BG BR
 have H0 := Aside0.mk (Bd.start HB2.out BG2.out BR2.out)
 have HS3 := Aside0.mk (show (((w2.alloc (Obj.cells #[.slice none 0 0, .slice none 0 0] 49)).alloc (Obj.map #[] 0)).alloc (Obj.cells #[.map (some (w2.heap.size + 1))] 87)).heap.size = w2.heap.size + 3 by simp)
 go_upto_region 6 with fail
 rw [show w2.heap.size + 1 + 1 = w2.heap.size + 2 from rfl]
 generalize ((w2.alloc (Obj.cells #[.slice none 0 0, .slice none 0 0] 49)).alloc (Obj.map #[] 0)).alloc (Obj.cells #[.map (some (w2.heap.size + 1))] 87) = W3 at *
 generalize w2.heap.size = B at *
 have hsz3 := HS3.out
 have hnum := number_calls (w := w) (W := W3.alloc (Obj.cells #[.int .i64 (-1), .int .i64 0] 37)) (B := B) (G := #[.slice A0 l0.length c0, .slice A1 l1.length c1, .slice A2 l2.length c2, .slice A3 l3.length c3, .int .i64 st]) (K := []) (N := []) (vK := .slice none 0 0) (vN := .slice none 0 0) (vl := .slice (some ⟨W3.heap.size, 0, none⟩) 1 1) (l := [((-1, 0) : Itm)]) (okN := fun _ => True) HG.out (Bd.apart H0.out (below_alloc (RowKit.Below.refl _ _) _) (fun k hk => by injection hk with hk; exact Nat.le_of_eq hk)) (one_row W3 B (by omega)) (HX.out.small _ (List.mem_singleton.2 rfl)).2 (by simp) (by simp)
 rw [show numb [] [((-1, 0) : Itm)] = (0, [[(-1, 0)]]) from rfl, hsz3] at hnum
 clear BG2 BR2 HB2 H0 HS3
 go_upto_region 7 with (go_at_call 42; (with_reducible refine hnum.mono ?_); rintro e w4 ⟨rfl, vK4, hd, hsz, hk⟩; have H4 := Aside0.mk hd; clear hd hsz hk)
 clear hnum hsz3
 go_wp2_with fail
 refine wp_loop_num (fun n a W => ∃ (vK vN : Value) (K : List (List Itm)) (N : List (List Int)) (u8 u9 u10 u11 u12 u13 u14 u15 u16 u17 u18 u19 u20 u21 u22 u23 u24 u25 u26 u27 u28 u29 u30 u31 u32 u33 u34 u35 u36 u37 u38 u39 u40 u41 u42 u43 u44 u45 u46 u47 u48 u49 u50 u51 u52 u53 u54 u55 u56 u57 u58 u59 u60 u61 u62 u63 u64 : Value), a = { tmps := #[.agg #[.slice A0 l0.length c0, .slice A1 l1.length c1, .slice A2 l2.length c2, .slice A3 l3.length c3, .int .i64 st], .pointer (some ⟨w.heap.size, 0, none⟩), .pointer (some ⟨w.heap.size + 1, 0, none⟩), .int .i64 0, .pointer (some ⟨B, 0, none⟩), .pointer (some ⟨B + 2, 0, none⟩), .func (.func 42) #[] #[.pointer (some ⟨B + 2, 0, none⟩), .pointer (some ⟨B, 0, none⟩)], .int .i64 N.length, u8, u9, u10, u11, u12, u13, u14, u15, u16, u17, u18, u19, u20, u21, u22, u23, u24, u25, u26, u27, u28, u29, u30, u31, u32, u33, u34, u35, u36, u37, u38, u39, u40, u41, u42, u43, u44, u45, u46, u47, u48, u49, u50, u51, u52, u53, u54, u55, u56, u57, u58, u59, u60, u61, u62, u63, u64], defers := [] } ∧ Aside0 (Bx l0.length l2.length (gr st l3) R n K N) ∧ Aside0 (Bd w B #[.slice A0 l0.length c0, .slice A1 l1.length c1, .slice A2 l2.length c2, .slice A3 l3.length c3, .int .i64 st] K K N vK vN (fun _ => True) (fun _ => True) W)) 2003 ⟨_, _, _, _, _, _, _, _, _, _, _, _, _, _, _, _, _, _, _, _, _, _, _, _, _, _, _, _, _, _, _, _, _, _, _, _, _, _, _, _, _, _, _, _, _, _, _, _, _, _, _, _, _, _, _, _, _, _, _, _, _, rfl, HX, H4⟩ ?_
 clear HX H4
 rintro n a W ⟨vK, vN, K, N, u8, u9, u10, u11, u12, u13, u14, u15, u16, u17, u18, u19, u20, u21, u22, u23, u24, u25, u26, u27, u28, u29, u30, u31, u32, u33, u34, u35, u36, u37, u38, u39, u40, u41, u42, u43, u44, u45, u46, u47, u48, u49, u50, u51, u52, u53, u54, u55, u56, u57, u58, u59, u60, u61, u62, u63, u64, rfl, HX, HI⟩
 obtain ⟨n, rfl⟩ := HX.out.pos
 obtain ⟨AK, cK, eK⟩ := Kd.S_slice HI.out.ks
 obtain ⟨AN, cN, eN⟩ := Kd.S_slice HI.out.ns
 subst eK
 subst eN
 rw [List.length_map] at HI
 have a0 : W.cell? ⟨B, 0, none⟩ = some (.slice AK K.length cK) := blk_cell HI.out.ba 0
 cases hc : K[N.length]? with
 | none =>
  have hle := List.getElem?_eq_none_iff.1 hc
  have hltb : decide (N.length < K.length) = false := decide_eq_false (by omega)
  have HRR := Aside0.mk (HX.out.fine hc)
  have a1 : W.cell? ⟨B, 1, none⟩ = some (.slice AN N.length cN) := blk_cell HI.out.ba 1
  have y0 : W.cell? ⟨w.heap.size + 1, 0, none⟩ = some (.slice none 0 0) := blk_cell HI.out.br 0
  have y1 : W.cell? ⟨w.heap.size + 1, 1, none⟩ = some (.slice none 0 0) := blk_cell HI.out.br 1
  have f2 := blk_frozen HI.out.br 0
  have f3 := blk_frozen HI.out.br 1
  clear hle hc
  go_wp2
  refine bodyPost_ret (results_ct rfl _ _ (w.heap.size + 1) 49 #[.slice AK K.length cK, .slice AN N.length cN] (0, 0) _ rfl (blk_put (blk_put HI.out.br 0 _ rfl) 1 _ rfl) Tryd.underlying49 rfl (by kernel_rfl)) rfl ?_
  rw [HRR.out]
  have hB := HI.out.hB
  refine ⟨_, _, rfl, ?_, ?_, ?_⟩
  ·exact Kd.S_mono (Kd.S_lower (Kd.S_far (Kd.S_far HI.out.ks (fun k hk => by have := hk.1; show k ≠ w.heap.size + 1; omega) _) (fun k hk => by have := hk.1; show k ≠ w.heap.size + 1; omega) _) (by omega)) (fun _ _ => trivial)
  ·exact Kd.S_mono (Kd.S_lower (Kd.S_far (Kd.S_far HI.out.ns (fun k hk => by have := hk.1; show k ≠ w.heap.size + 1; omega) _) (fun k hk => by have := hk.1; show k ≠ w.heap.size + 1; omega) _) (by omega)) (fun _ _ => trivial)
  ·exact below_set (below_set HI.out.hb (Nat.le_succ _)) (Nat.le_succ _)
 | some c =>
  obtain ⟨ad, nK, A, cc, eK2, hcell, hcc, hC⟩ := kernel_at HI.out hc
  injection eK2 with e1 e2 e3
  subst e1
  subst e3
  obtain ⟨hlt, -⟩ := List.getElem?_eq_some_iff.1 hc
  have hltb : decide (N.length < K.length) = true := decide_eq_true (by omega)
  have hsm := HX.out.small c (List.mem_of_getElem? hc)
  obtain ⟨all, hall⟩ : ∃ all, all = risen (closedL (gr st l3) c) := ⟨_, rfl⟩
  have hcl := closed_is HVB.out HPB.out hsm
  rw [← hall] at hcl
  have HALL := Aside0.mk hall
  have HCALL : Aside0 (∀ W', RowKit.Below W.heap.size W W' → Calls Tryd.prog 38 #[.agg #[.slice A0 l0.length c0, .slice A1 l1.length c1, .slice A2 l2.length c2, .slice A3 l3.length c3, .int .i64 st], .slice A c.length cc] W' fun e w' => ∃ A8 c8, e = .returned (.slice A8 all.length c8) ∧ Aside0 (Kd.R k37 37 w' (B + 3) (fun k => B + 3 ≤ k) (.slice A8 all.length c8) (all.map ofI)) ∧ Aside0 (RowKit.Below W.heap.size W w')) := ⟨fun W' hb => by
   have hq := states_closed.calls A0 c0 l0 A1 c1 l1 A2 c2 l2 A3 c3 l3 st A cc (c.map ofI) (all.map ofI) W' (Kd.C_below HR0.out (below_step HI.out.hb hb)) HC0.out (Kd.C_below HR1.out (below_step HI.out.hb hb)) HC1.out (Kd.C_below HR2.out (below_step HI.out.hb hb)) HC2.out (Kd.C_below HR3.out (below_step HI.out.hb hb)) HC3.out (by rw [List.length_map]; exact Kd.C_below hC hb) (by rw [List.length_map]; exact hcc) hcl
   rw [List.length_map] at hq
   refine hq.mono ?_
   rintro e w' ⟨v, rfl, hR, hb2⟩
   obtain ⟨A8, c8, rfl⟩ := Kd.R_slice hR
   rw [List.length_map] at hR ⊢
   exact ⟨A8, c8, rfl, ⟨R_up hR (Nat.le_trans HI.out.size hb.size)⟩, ⟨below_step hb hb2⟩⟩⟩
  obtain ⟨z0, z1, z2, z3, z4⟩ := five5 HI.out.bg
  have HCC := Aside0.mk hc
  have HSM := Aside0.mk hsm
  clear hcl hall hC hcc hc hsm e2
  go_upto_region 10 with fail
  obtain ⟨K9, hK9⟩ : ∃ K9 : Act → World → Prop, K9 = (fun a W' => ∃ (A8 : Option Addr) (c8 : Nat) (u9 u10 u11 u12 u13 u14 u15 u16 u17 u18 u19 u20 u21 u22 u23 u24 u25 u26 u27 u28 u29 u30 u31 u32 u33 u34 u35 u36 u37 u38 u39 u40 u41 u42 u43 u44 u45 u46 u47 u48 u49 u50 u51 u52 u53 u54 u55 u56 u57 u58 u59 u60 u61 u62 u63 u64 : Value), a = { tmps := #[.agg #[.slice A0 l0.length c0, .slice A1 l1.length c1, .slice A2 l2.length c2, .slice A3 l3.length c3, .int .i64 st], .pointer (some ⟨w.heap.size, 0, none⟩), .pointer (some ⟨w.heap.size + 1, 0, none⟩), .int .i64 0, .pointer (some ⟨B, 0, none⟩), .pointer (some ⟨B + 2, 0, none⟩), .func (.func 42) #[] #[.pointer (some ⟨B + 2, 0, none⟩), .pointer (some ⟨B, 0, none⟩)], .int .i64 N.length, .slice A8 all.length c8, u9, u10, u11, u12, u13, u14, u15, u16, u17, u18, u19, u20, u21, u22, u23, u24, u25, u26, u27, u28, u29, u30, u31, u32, u33, u34, u35, u36, u37, u38, u39, u40, u41, u42, u43, u44, u45, u46, u47, u48, u49, u50, u51, u52, u53, u54, u55, u56, u57, u58, u59, u60, u61, u62, u63, u64], defers := [] } ∧ Aside0 (RowKit.Below W.heap.size W W') ∧ Aside0 (Kd.R k37 37 W' (B + 3) (fun k => B + 3 ≤ k) (.slice A8 all.length c8) (all.map ofI))) := ⟨_, rfl⟩
  have HK9 := Aside0.mk hK9
  clear hK9
  refine Code.wp_mono (Q := Exit.then K9 (fun _ _ _ => False)) ?post ?reg
  case reg =>
   go_region_with (go_at_call 38; (with_reducible refine (HCALL.out _ (by repeat (first | exact RowKit.Below.refl _ _ | apply below_drew1 | apply pw_below_drewN))).mono ?_); rintro e w5 ⟨A8, c8, rfl, HR8, HB8⟩)
   all_goals (show K9 _ _; rw [HK9.out]; exact ⟨_, _, _, _, _, _, _, _, _, _, _, _, _, _, _, _, _, _, _, _, _, _, _, _, _, _, _, _, _, _, _, _, _, _, _, _, _, _, _, _, _, _, _, _, _, _, _, _, _, _, _, _, _, _, _, _, _, _, rfl, ⟨by repeat (first | exact HB8.out | apply below_drew1 | apply pw_below_drewN)⟩, ⟨by repeat (first | exact HR8.out | apply Kd.R_drew | refine Kd.R_drewN ?_ _)⟩⟩)
  case post =>
   clear z0 z1 z2 z3 z4 hcell HCALL a0 hlt hltb
   intro e a' W1 he
   cases e with
   | normal =>
    replace he : K9 a' W1 := he
    rw [HK9.out] at he
    obtain ⟨A8, c8, u9, u10, u11, u12, u13, u14, u15, u16, u17, u18, u19, u20, u21, u22, u23, u24, u25, u26, u27, u28, u29, u30, u31, u32, u33, u34, u35, u36, u37, u38, u39, u40, u41, u42, u43, u44, u45, u46, u47, u48, u49, u50, u51, u52, u53, u54, u55, u56, u57, u58, u59, u60, u61, u62, u63, u64, rfl, HB9, HA9⟩ := he
    clear HK9
    have HI9 := Aside0.mk (HI.out.below HB9.out)
    clear HI HB9
    obtain ⟨z0, z1, z2, z3, z4⟩ := five5 HI9.out.bg
    obtain ⟨syms, hsyms⟩ : ∃ s, s = symsL l0.length l2.length := ⟨_, rfl⟩
    have hsy := symbols_is l0 l1 l2 l3 st (terms_few HVB.out) (fits_of HVB.out).sorts
    have hsl : syms.length ≤ 120 := by rw [hsyms, symsL_len]; have := terms_few HVB.out; have := (fits_of HVB.out).sorts; omega
    rw [← hsyms] at hsy
    have HSY := Aside0.mk hsyms
    have HSL := Aside0.mk hsl
    clear hsyms hsl
    go_wp2_with (go_at_call 44; (with_reducible refine (states_symbols.calls 300 _ _ l0 _ _ l1 _ _ l2 _ _ l3 st syms W1 (Kd.C_below HR0.out HI9.out.hb) HC0.out (Kd.C_below HR1.out HI9.out.hb) HC1.out (Kd.C_below HR2.out HI9.out.hb) HC2.out (Kd.C_below HR3.out HI9.out.hb) HC3.out hsy).mono ?_); rintro e w10 ⟨v7, rfl, hR7, hb7⟩; obtain ⟨A7, c7, e7⟩ := Kd.R_slice hR7; subst e7; have HS10 := Aside0.mk (R_up hR7 HI9.out.size); have HB10 := Aside0.mk hb7; clear hR7 hb7)
    clear z0 z1 z2 z3 z4 hsy
    have HJ10 := Aside0.mk (Bd.later (HI9.out.below HB10.out))
    have HA10 := Aside0.mk (Kd.R_below HA9.out HB10.out)
    have HBn := Aside0.mk HJ10.out.size
    obtain ⟨Bn, hBn⟩ : ∃ b, b = w10.heap.size := ⟨_, rfl⟩
    have HLE := Aside0.mk (Nat.le_of_eq hBn)
    rw [← hBn] at HBn HJ10
    clear HI9 HA9 HB10 hBn
    refine wp_loop_num (fun n2 a W' => ∃ (j : Nat) (v9 vK' : Value) (nums : List Int) (K' : List (List Itm)) (u10 u11 u12 u13 u14 u15 u16 u17 u18 u19 u20 u21 u22 u23 u24 u25 u26 u27 u28 u29 u30 u31 u32 u33 u34 u35 u36 u40 u41 u42 u43 u44 u45 u46 u47 u48 u49 u50 u51 u52 u53 u54 u55 u56 u57 u58 u59 u60 u61 u62 u63 u64 : Value), a = { tmps := #[.agg #[.slice A0 l0.length c0, .slice A1 l1.length c1, .slice A2 l2.length c2, .slice A3 l3.length c3, .int .i64 st], .pointer (some ⟨w.heap.size, 0, none⟩), .pointer (some ⟨w.heap.size + 1, 0, none⟩), .int .i64 0, .pointer (some ⟨B, 0, none⟩), .pointer (some ⟨B + 2, 0, none⟩), .func (.func 42) #[] #[.pointer (some ⟨B + 2, 0, none⟩), .pointer (some ⟨B, 0, none⟩)], .int .i64 N.length, .slice A8 all.length c8, v9, u10, u11, u12, u13, u14, u15, u16, u17, u18, u19, u20, u21, u22, u23, u24, u25, u26, u27, u28, u29, u30, u31, u32, u33, u34, u35, u36, .slice A7 syms.length c7, .int .i64 syms.length, .int .i64 j, u40, u41, u42, u43, u44, u45, u46, u47, u48, u49, u50, u51, u52, u53, u54, u55, u56, u57, u58, u59, u60, u61, u62, u63, u64], defers := [] } ∧ n2 = syms.length - j ∧ Aside0 (Rx (Sg (gr st l3) c) syms (rowL (Sg (gr st l3) c) syms K) j nums K') ∧ Aside0 (Bd w B #[.slice A0 l0.length c0, .slice A1 l1.length c1, .slice A2 l2.length c2, .slice A3 l3.length c3, .int .i64 st] K' K' N vK' (.slice AN N.length cN) (fun _ => True) (fun k => k < Bn) W') ∧ Aside0 (Kd.R k37 37 W' (B + 3) (fun k => B + 3 ≤ k) (.slice A8 all.length c8) (all.map ofI)) ∧ Aside0 (Kd.R (Kd.int .i64) 29 W' (B + 3) (fun k => B + 3 ≤ k) (.slice A7 syms.length c7) syms) ∧ Aside0 (Kd.R (Kd.int .i64) 3 W' Bn (fun k => Bn ≤ k) v9 nums) ∧ Aside0 (Bn ≤ W'.heap.size)) syms.length ⟨0, _, _, [], K, _, _, _, _, _, _, _, _, _, _, _, _, _, _, _, _, _, _, _, _, _, _, _, _, _, _, _, _, _, _, _, _, _, _, _, _, _, _, _, _, _, _, _, _, _, _, _, _, _, _, _, _, rfl, by omega, ⟨Rx.start HX.out _ _⟩, HJ10, HA10, HS10, ⟨Kd.R_nil _ _ _ _ _⟩, HLE⟩ ?_
    clear HJ10 HA10 HS10 HLE
    rintro n2 a W' ⟨j, v9, vK', nums, K', u10, u11, u12, u13, u14, u15, u16, u17, u18, u19, u20, u21, u22, u23, u24, u25, u26, u27, u28, u29, u30, u31, u32, u33, u34, u35, u36, u40, u41, u42, u43, u44, u45, u46, u47, u48, u49, u50, u51, u52, u53, u54, u55, u56, u57, u58, u59, u60, u61, u62, u63, u64, rfl, hn2, HRX, HJ, HA, HS, HN, HBN⟩
    by_cases hj : j < syms.length
    ·have hjb : decide (j < syms.length) = true := decide_eq_true (by omega)
     obtain ⟨ad7, e7, hx⟩ := Kd.at_int (Kd.R_reads' HS.out).2.2 (j : Int) (by omega) (by omega)
     subst e7
     rw [Int.toNat_natCast] at hx
     obtain ⟨s, hs⟩ : ∃ s, rd syms j = s := ⟨_, rfl⟩
     rw [hs] at hx
     obtain ⟨ls, hls⟩ : ∃ ls, ls = Sg (gr st l3) c s := ⟨_, rfl⟩
     have hsm2 : ls.length ≤ 1562 ∧ ∀ x ∈ ls, rngI x := by rw [hls]; exact Sg_small (fits_of HVB.out) c s
     have HLS := Aside0.mk hls
     have HSM2 := Aside0.mk hsm2
     have HRN := Aside0.mk (hls ▸ Rx.next HRX.out hj hs (by rw [← hls]; exact hsm2))
     have hst := step_is HVB.out c s
     rw [← HALL.out, ← hls] at hst
     have HSTEP : Aside0 (Calls Tryd.prog 41 #[.agg #[.slice A0 l0.length c0, .slice A1 l1.length c1, .slice A2 l2.length c2, .slice A3 l3.length c3, .int .i64 st], .slice A8 all.length c8, .int .i64 s] W' fun e w' => ∃ v0 : Value, e = .returned v0 ∧ Kd.R k37 37 w' W'.heap.size (fun _ => True) v0 (ls.map ofI) ∧ RowKit.Below W'.heap.size W' w') := ⟨by
      have hRA := Kd.R_reads' HA.out
      rw [List.length_map] at hRA
      have hq := states_step.calls A0 c0 l0 A1 c1 l1 A2 c2 l2 A3 c3 l3 st A8 c8 (all.map ofI) s (ls.map ofI) W' (Kd.C_below HR0.out HJ.out.hb) HC0.out (Kd.C_below HR1.out HJ.out.hb) HC1.out (Kd.C_below HR2.out HJ.out.hb) HC2.out (Kd.C_below HR3.out HJ.out.hb) HC3.out (by rw [List.length_map]; exact hRA.2.2) (by rw [List.length_map]; exact hRA.2.1) hst
      rw [List.length_map] at hq
      exact hq⟩
     obtain ⟨z0, z1, z2, z3, z4⟩ := five5 HJ.out.bg
     have hjw : IntKind.i64.wrap ((j : Int) + 1) = ((j + 1 : Nat) : Int) := by
      have := HSL.out
      rw [IntWalk.i64_in _ (by omega)]
      rfl
     have HK := Aside0.mk (show K'.length ≤ 3000 by have := HRX.out.few; have := HSL.out; omega)
     have HNL := Aside0.mk (show nums.length ≤ 120 by have := HRX.out.len; have := HSL.out; omega)
     clear hst hls hsm2 hs
     go_upto_region 16 with (first
      | (go_at_call 41; (with_reducible refine HSTEP.out.mono ?_); rintro e w11 ⟨v11, rfl, hR11, hb11⟩; have HNUM := Aside0.mk (number_calls (okN := fun k => k < Bn) HG.out (Bd.apart HJ.out hb11 (fun k hk => Kd.R_base hR11 k hk)) (R_up hR11 HJ.out.size) HSM2.out.2 (Nat.le_trans HSM2.out.1 (by omega)) HK.out); have HA11 := Aside0.mk (Kd.R_below HA.out hb11); have HS11 := Aside0.mk (Kd.R_below HS.out hb11); have HN11 := Aside0.mk (Kd.R_below HN.out hb11); have HB11 := Aside0.mk (Nat.le_trans HBN.out hb11.size); have HT11 := Aside0.mk (Kd.S_typed (Kd.S_below HJ.out.ks hb11)); clear hR11 hb11)
      | (go_at_call 42; (with_reducible refine HNUM.out.mono ?_); rintro e w12 ⟨rfl, vK2, hd, hsz, hkp⟩; have HJ12 := Aside0.mk hd; have HA12 := Aside0.mk (R_numb HA11.out HT11.out (by decide) (Nat.le_refl _) hkp); have HS12 := Aside0.mk (R_numb HS11.out HT11.out (by decide) (Nat.le_refl _) hkp); have HN12 := Aside0.mk (R_numb HN11.out HT11.out (by decide) HBn.out hkp); have HB12 := Aside0.mk (Nat.le_trans HB11.out hsz); clear hd hsz hkp)
      | ((with_reducible refine gate_builtin (b := .append) (xs := #[.tmp 43, .tmp 50]) rfl ?_); at_builtin; refine Kd.R_append (Kd.int .i64) (w0 := w12) Bn rfl (.tmp 43) (.tmp 50) 58 3 (.int .i64 0) 8 rfl Tryd.underlying58 info3 rfl (by decide) (by omega) v9 nums (numb K' ls).1 [.int .i64 (numb K' ls).1] (fun k => Bn ≤ k) (fun _ => False) rfl rfl rfl (fun _ hk => hk.elim) (fun k hk => Nat.le_trans HB12.out hk) HN12.out (RowKit.Below.refl _ _) HB12.out ?aL ?_; (case aL => have := HNL.out; omega); intro v13 w13 ho hb hg hat; have HN13 := Aside0.mk ho; have HJ13 := Aside0.mk (Bd.other HJ12.out (Kd.R_typed HN12.out) (Kd.R_base HN12.out) HBn.out hg); have HA13 := Aside0.mk (Kd.R_over' HA12.out (Kd.R_typed HN12.out) (by decide) hg); have HS13 := Aside0.mk (Kd.R_over' HS12.out (Kd.R_typed HN12.out) (by decide) hg); have HB13 := Aside0.mk (Nat.le_trans HB12.out hg.size); clear ho hb hg hat))
     go_wp2_with fail
     exact ⟨syms.length - (j + 1), by omega, j + 1, v13, vK2, _, _, _, _, _, _, _, _, _, _, _, _, _, _, _, _, _, _, _, _, _, _, _, _, _, _, _, _, _, _, _, _, _, _, _, _, _, _, _, _, _, _, _, _, _, _, _, _, _, _, _, _, _, _, rfl, rfl, HRN, HJ13, HA13, HS13, HN13, HB13⟩
    ·have hjb : decide (j < syms.length) = false := decide_eq_false (by omega)
     have hjl : j = syms.length := by have := HRX.out.le; omega
     have HDN := Aside0.mk (HRX.out.done hjl)
     have HSM3 := Aside0.mk HRX.out.small
     clear hjl
     obtain ⟨A9, c9, e9⟩ := Kd.R_slice HN.out
     subst e9
     obtain ⟨AK2, cK2, eK2⟩ := Kd.S_slice HJ.out.ks
     subst eK2
     rw [List.length_map] at HJ
     have a1 : W'.cell? ⟨B, 1, none⟩ = some (.slice AN N.length cN) := blk_cell HJ.out.ba 1
     have HN9 := Aside0.mk (R_up HN.out HBn.out)
     have HOW : Aside0 (∀ k, some k = (Value.slice A9 nums.length c9).ownBlock → some k ≠ (Value.slice AN N.length cN).ownBlock) := ⟨fun k e e' => by
      obtain ⟨q1, h1⟩ := Kd.R_typed HN.out k e.symm
      obtain ⟨q2, h2⟩ := Kd.S_typed HJ.out.ns k e'.symm
      rw [h1] at h2
      cases h2⟩
     have HNS := Aside0.mk (Kd.S_mono HJ.out.ns (ok' := fun k => B + 3 ≤ k ∧ ¬ (some k = (Value.slice A9 nums.length c9).ownBlock ∧ B + 3 ≤ k)) (fun k hk => ⟨hk.1, fun h2 => by have := Kd.R_base HN.out k h2.1.symm; have := hk.2; omega⟩))
     have HNL := Aside0.mk (show N.length ≤ 3000 by have := HX.out.n3; omega)
     go_upto_region 18 with (first | ((with_reducible refine gate_builtin (b := .append) (xs := #[.tmp 54, .tmp 56]) rfl ?_); at_builtin; refine Kd.S_append (Kd.slice 3 (Kd.int .i64)) (w0 := W') (B + 3) rfl (.tmp 54) (.tmp 56) 47 58 (.slice none 0 0) 24 rfl Tryd.underlying47 info58 rfl (by decide) (by omega) (.slice AN N.length cN) N nums [.slice A9 nums.length c9] (fun k => B + 3 ≤ k) (fun k => some k = (Value.slice A9 nums.length c9).ownBlock ∧ B + 3 ≤ k) rfl rfl ⟨_, rfl, Kd.R_tight2 rfl HN9.out⟩ (fun k hk => ⟨hk.2, HOW.out k hk.1⟩) (fun k hk => Nat.le_trans HJ.out.size hk) HNS.out (RowKit.Below.refl _ _) HJ.out.size ?aL ?_; (case aL => have := HNL.out; omega); intro v14 w14 ho hb hg hat; obtain ⟨A14, c14, e14⟩ := Kd.S_slice ho; have e15 : (N ++ [nums]).length = N.length + 1 := (by simp); rw [e15] at e14; subst e14; clear e15; have HJ15 := Aside0.mk (Bd.appN HJ.out ho hg); have c6 : w14.cell? ⟨B, 1, none⟩ = some (.slice AN N.length cN) := blk_cell ((hg.block _ (blk_lt HJ.out.ba) (fun e => by have := Kd.S_base HJ.out.ns _ e.symm; omega)).trans HJ.out.ba) 1; have f6 := blk_frozen ((hg.block _ (blk_lt HJ.out.ba) (fun e => by have := Kd.S_base HJ.out.ns _ e.symm; omega)).trans HJ.out.ba) 1; clear ho hb hg hat))
     clear a1
     generalize w14.setCell ⟨B, 1, none⟩ (.slice A14 (N.length + 1) c14) = W15 at *
     clear HS HA HN HJ HN9 HOW HNS c6 f6
     have a0 : W15.cell? ⟨B, 0, none⟩ = some (.slice AK2 K'.length cK2) := blk_cell HJ15.out.ba 0
     have HON := Aside0.mk (HX.out.on HCC.out (K' := K') (nums := nums) (by have := HDN.out; rw [HSY.out] at this; exact this) HSM3.out)
     by_cases hmany : 2000 < K'.length
     ·have hmb : decide (2000 < K'.length) = true := decide_eq_true hmany
      have HRR := Aside0.mk (HON.out.1 hmany)
      have y0 : W15.cell? ⟨w.heap.size + 1, 0, none⟩ = some (.slice none 0 0) := blk_cell HJ15.out.br 0
      have y1 : W15.cell? ⟨w.heap.size + 1, 1, none⟩ = some (.slice none 0 0) := blk_cell HJ15.out.br 1
      have f2 := blk_frozen HJ15.out.br 0
      have f3 := blk_frozen HJ15.out.br 1
      go_wp2
      refine bodyPost_ret (results_ct rfl _ _ (w.heap.size + 1) 49 #[.slice none 0 0, .slice none 0 0] (0, 0) _ rfl (blk_put (blk_put HJ15.out.br 0 _ rfl) 1 _ rfl) Tryd.underlying49 rfl (by kernel_rfl)) rfl ?_
      rw [HRR.out]
      exact ⟨_, _, rfl, Kd.S_nil _ _ _ _ _, Kd.S_nil _ _ _ _ _, below_set (below_set HJ15.out.hb (Nat.le_succ _)) (Nat.le_succ _)⟩
     ·have hmb : decide (2000 < K'.length) = false := decide_eq_false hmany
      have HBX := Aside0.mk (HON.out.2 hmany)
      have hN1 : IntKind.i64.wrap ((N.length : Int) + 1) = (((N ++ [nums]).length : Nat) : Int) := by
       have := HNL.out
       rw [List.length_append, List.length_singleton, IntWalk.i64_in _ (by omega)]
       rfl
      go_wp2_with fail
      exact ⟨n, Nat.lt_succ_self n, _, _, K', N ++ [nums], by rw [List.length_append, List.length_singleton]; rfl, HBX, HJ15⟩
   | _ => exact he.elim

theorem states_Build.calls (A0 : Option Addr) (c0 : Nat) (l0 : List S82) (A1 : Option Addr) (c1 : Nat) (l1 : List S101) (A2 : Option Addr) (c2 : Nat) (l2 : List ByteArray) (A3 : Option Addr) (c3 : Nat) (l3 : List S64) (st : Int) (r1 : List (List S37)) (r2 : List (List Int)) (r3 : Int) (w : World) (hG : GTab w)
  (hr0 : Kd.C k82 w A0 l0.length l0) (hc0 : l0.length ≤ c0) (hr1 : Kd.C k101 w A1 l1.length l1) (hc1 : l1.length ≤ c1) (hr2 : Kd.C Kd.string w A2 l2.length l2) (hc2 : l2.length ≤ c2) (hr3 : Kd.C k64 w A3 l3.length l3) (hc3 : l3.length ≤ c3) (h : states_Build.f l0 l1 l2 l3 st = some (r1, r2, r3)) :
  Calls Tryd.prog 23 #[.agg #[.slice A0 l0.length c0, .slice A1 l1.length c1, .slice A2 l2.length c2, .slice A3 l3.length c3, .int .i64 st]] w fun e w' => ∃ v0_ v1_ : Value, e = .returned (.tuple #[.agg #[v0_, v1_], .int .i64 r3]) ∧ Kd.S (Kd.slice 37 k37) 28 w' w.heap.size (fun _ => True) v0_ r1 ∧ Kd.S (Kd.slice 3 (Kd.int .i64)) 58 w' w.heap.size (fun _ => True) v1_ r2 ∧ Below w.heap.size w w' := by
 unfold states_Build.f at h
 cases hv : validB l0 l1 l2 l3 st with
 | false =>
  rw [hv, if_neg (by decide)] at h
  have h := Option.some.inj h
  obtain ⟨rfl, h2⟩ := Prod.mk.inj h
  obtain ⟨rfl, rfl⟩ := Prod.mk.inj h2
  refine (build_bad A0 c0 l0 A1 c1 l1 A2 c2 l2 A3 c3 l3 st w hr0 hc0 hr1 hc1 hr2 hc2 hr3 hc3 hv).mono ?_
  rintro e w' ⟨rfl, hb⟩
  exact ⟨_, _, rfl, Kd.S_nil _ _ _ _ _, Kd.S_nil _ _ _ _ _, hb⟩
 | true =>
  rw [hv, if_pos rfl] at h
  split at h
  ·rename_i hp
   obtain ⟨R, hR, hO⟩ := Option.map_eq_some_iff.1 h
   have hz := build_good A0 c0 l0 A1 c1 l1 A2 c2 l2 A3 c3 l3 st R w hG hr0 hc0 hr1 hc1 hr2 hc2 hr3 hc3 hv hp hR
   rw [hO] at hz
   exact hz
  ·cases h

end Go.Proofs.YtclollnicbcooaaDoor.P
end
