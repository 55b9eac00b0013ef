/- Texts of this claim put together: Lw, Lv, Open, Types, LkQ, Px8, SRefV, Px9, Px10, Px2, Px11, Px12, Px13, Px14, Rf, Rf2, SFew, Pw, Pk, Pg, LkR, LkS, Lp0, Lwk, PureLookEmpty, Glob. -/
import Derived.Test.YtclollnicbcooaaDoorEa2
import Derived.Test.YtclollnicbcooaaDoorEa3
import Derived.Test.YtclollnicbcooaaDoorEa0
import Derived.Deep.Slices
import Derived.OpenShut
import Derived.ShutString
import Derived.ProofKit
import Derived.Test.YtclollnicbcooaaDoorEa1
import Derived.IntWalk
import Derived.Test.YtclollnicbcooaaDoorRows
import Derived.Lib.LaidTab
import Derived.Lib.LaidU8
import Derived.LaidLaws
import Derived.Handed
section
set_option linter.unusedVariables false
set_option linter.unusedSimpArgs false
namespace Go.Proofs.YtclollnicbcooaaDoor.P
open Go.RowKit Go.Lib Go.Sort Go.Proofs.YtclollnicbcooaaDoorW.PrintWords Go.Proofs.YtclollnicbcooaaDoorW.PrintLast Go.Proofs.YtclollnicbcooaaDoorW.PrintMore St Base
attribute [local go_sem] Oper.semAt_some

theorem e_range : ∀ p ∈ e3, ∀ s ∈ p.f2, -9223372036854775808 ≤ s ∧ s ≤ 9223372036854775807 := by
 intro p hp s hs
 unfold e3 at hp
 have := List.mem_singleton.1 hp
 subst this
 have := List.mem_singleton.1 hs
 omega
theorem e_row0 : risen (closedL (gr 0 e3) [(-1, 0)]) = [(-1, 0), (0, 0)] := by
 rw [risen_c]
 kernel_rfl
theorem e_row1 : risen (closedL (gr 0 e3) [(0, 1)]) = [(0, 1)] := by
 rw [risen_c]
 kernel_rfl
theorem e_sg : Sg (gr 0 e3) [(-1, 0)] 0 = [(0, 1)] := by
 rw [Sg_c]
 kernel_rfl
theorem e_follow : wR e0 e2 e3 0 = [9223372036854775808] := by kernel_rfl
theorem e_close1 : states_Close.f e0 [] e2 e3 0 [⟨0, 1⟩] = some [⟨0, 1⟩] := by
 unfold states_Close.f inst_Valid.f states_closed.f
 rw [e_valid, Option.bind_some, if_pos rfl, if_pos ⟨rfl, e_okP, Nat.le_of_ble_eq_true rfl, rfl⟩, risen_c]
 kernel_rfl
theorem e_close2 : states_Close.f e0 [] e2 e3 0 [⟨0, 0⟩] = some [⟨0, 0⟩] := by
 unfold states_Close.f inst_Valid.f states_closed.f
 rw [e_valid, Option.bind_some, if_pos rfl, if_pos ⟨rfl, e_okP, Nat.le_of_ble_eq_true rfl, rfl⟩, risen_c]
 kernel_rfl
theorem done_one (k : Nat) (hk : 3 ≤ k) : look_Done.f k e0 [] e2 e3 0 [⟨0, 1⟩] [9223372036854775808] = some [0] := by
 obtain ⟨k, rfl⟩ : ∃ j, k = j + 3 := ⟨k - 3, by omega⟩
 have h1 : states_Behind.f e0 [] e2 e3 0 0 1 = some (0, false) := by kernel_rfl
 have h2 := e_close1
 unfold look_Done.f
 rw [look_Done.l0, if_pos (by decide), if_pos (by decide), if_pos (by decide)]
 show ((states_Behind.f e0 [] e2 e3 0 0 1).bind fun bt => ((states_Close.f e0 [] e2 e3 0 [⟨0, 1⟩]).bind fun t => _)) = _
 rw [h1, Option.bind_some, h2, Option.bind_some]
 kernel_rfl
theorem done_two (k : Nat) (hk : 4 ≤ k) (a b : Int) : look_Done.f k e0 [] e2 e3 0 [⟨-1, 0⟩, ⟨0, 0⟩] [a, b] = some [] := by
 obtain ⟨k, rfl⟩ : ∃ j, k = j + 4 := ⟨k - 4, by omega⟩
 have h1 : states_Behind.f e0 [] e2 e3 0 (-1) 0 = some (-1, true) := by kernel_rfl
 have h3 : states_Behind.f e0 [] e2 e3 0 0 0 = some (0, true) := by kernel_rfl
 have h2 := e_close
 have h4 := e_close2
 have w1 : wrap64 (0 + 1) = 1 := by unfold wrap64; omega
 unfold look_Done.f
 show look_Done.l0 (k + 4) [] 2 0 e0 [] e2 e3 0 [⟨-1, 0⟩, ⟨0, 0⟩] [a, b] = _
 rw [look_Done.l0, if_pos (by decide), if_pos (by decide), if_pos (by decide)]
 show ((states_Behind.f e0 [] e2 e3 0 (-1) 0).bind fun bt => ((states_Close.f e0 [] e2 e3 0 [⟨-1, 0⟩]).bind fun t => _)) = _
 rw [h1, Option.bind_some, h2, Option.bind_some, if_pos rfl, w1]
 rw [look_Done.l0, if_pos (by decide), if_pos (by decide), if_pos (by decide)]
 show ((states_Behind.f e0 [] e2 e3 0 0 0).bind fun bt => ((states_Close.f e0 [] e2 e3 0 [⟨0, 0⟩]).bind fun t => _)) = _
 rw [h3, Option.bind_some, h4, Option.bind_some]
 kernel_rfl
/-- Rows as the example wants them. -/
def workRows (R : List S74) : Prop := R.length = 3 ∧ (rd_T74 R 0).f0.map toI = [(-1, 0), (0, 0)] ∧ (rd_T74 R 0).f1.length = 2 ∧ (rd_T74 R 1).f0.map toI = [(0, 1)] ∧ (rd_T74 R 1).f1 = [9223372036854775808]
instance (R : List S74) : Decidable (workRows R) := by unfold workRows; infer_instance
def syntagmlaw15_works.f (k : Nat) : Option Bool := (look_All.f k e0 [] e2 e3 0).bind fun b => if 10 ≤ k ∧ b.2 = 0 ∧ workRows b.1 then some true else none
theorem toI_of {l : List S37} {m : List Itm} (h : l.map toI = m) : l = m.map ofI := by rw [← h, map_ofI_toI]
theorem all_e {n : Nat} {W : World} (h : Ge n W) (hG : GTab W) {k : Nat} {R : List S74} (hA : look_All.f k e0 [] e2 e3 0 = some (R, 0)) : Calls Tryd.prog 28 #[aE n] W fun e w' => ∃ A c, e = .returned (.tuple #[.slice A R.length c, .int .i64 0]) ∧ (R.length ≤ c ∧ Kd.C k74 w' A R.length R) ∧ Below W.heap.size W w' := by
 refine (look_All.calls k _ 1 e0 none 0 [] _ 1 e2 _ 1 e3 0 R 0 W hG h.r0 (Nat.le_refl _) (Kd.C_nil _ _) (Nat.le_refl _) h.r1 (Nat.le_refl _) h.r3 (Nat.le_refl _) hA).mono ?_
 rintro e w' ⟨v0, rfl, h0, hb⟩
 obtain ⟨A, c, rfl, l0, r0⟩ := Kd.S_reads h0
 exact ⟨A, c, rfl, ⟨l0, r0⟩, hb⟩
theorem done_e {n : Nat} {W : World} (h : Ge n W) {k : Nat} {A A' : Option Addr} {c c' : Nat} {l : List S37} {m r : List Int} (h0 : Kd.C k37 W A l.length l) (hc : l.length ≤ c) (h1 : Kd.C (Kd.int .u64) W A' m.length m) (hc1 : m.length ≤ c') (hq : look_Done.f k e0 [] e2 e3 0 l m = some r) : Calls Tryd.prog 46 #[aE n, .agg #[.slice A l.length c, .slice A' m.length c']] W fun e w' => ∃ A c, e = .returned (.slice A r.length c) ∧ (r.length ≤ c ∧ Kd.C (Kd.int .i64) w' A r.length r) ∧ Below W.heap.size W w' := by
 refine (look_Done.calls k _ 1 e0 none 0 [] _ 1 e2 _ 1 e3 0 A c l A' c' m r W h.r0 (Nat.le_refl _) (Kd.C_nil _ _) (Nat.le_refl _) h.r1 (Nat.le_refl _) h.r3 (Nat.le_refl _) h0 hc h1 hc1 hq).mono ?_
 rintro e w' ⟨v0, rfl, h0, hb⟩
 obtain ⟨A, c, rfl, l0, r0⟩ := Kd.R_reads h0
 exact ⟨A, c, rfl, ⟨l0, r0⟩, hb⟩
theorem ahead_e {n : Nat} {W : World} (h : Ge n W) (hG : GTab W) {k : Nat} {R : List S74} {A A' : Option Addr} {c c' : Nat} (h0 : 3 ≤ c ∧ Kd.C (Kd.slice 37 k37) W A 3 kE) (h1 : 3 ≤ c' ∧ Kd.C (Kd.slice 3 (Kd.int .i64)) W A' 3 nE) (hq : look_All.f k e0 [] e2 e3 0 = some (R, 0)) (h3 : R.length = 3) : Calls Tryd.prog 47 #[aE n, .agg #[.slice A 3 c, .slice A' 3 c']] W fun e w' => ∃ A c, e = .returned (.slice A 3 c) ∧ Below W.heap.size W w' := by
 have hA : look_Ahead.f k e0 [] e2 e3 0 kE nE = some R := by
  unfold look_All.f at hq
  unfold look_Ahead.f
  rw [e_build, Option.bind_some] at hq ⊢
  rw [if_pos rfl] at hq
  rw [if_pos ⟨rfl, rfl, rfl⟩]
  obtain ⟨x, hx, hx2⟩ := Option.map_eq_some_iff.1 hq
  injection hx2 with hx2 _
  rw [← hx2]
  exact hx
 refine (look_Ahead.calls k _ 1 e0 none 0 [] _ 1 e2 _ 1 e3 0 A c kE A' c' nE R W hG h.r0 (Nat.le_refl _) (Kd.C_nil _ _) (Nat.le_refl _) h.r1 (Nat.le_refl _) h.r3 (Nat.le_refl _) h0.2 h0.1 h1.2 h1.1 hA).mono ?_
 rintro e w' ⟨v0, rfl, h0, hb⟩
 obtain ⟨A, c, rfl, l0, r0⟩ := Kd.S_reads h0
 exact ⟨A, c, by rw [h3], hb⟩
set_option maxHeartbeats 8000000 in
set_option maxRecDepth 100000 in
theorem looks_walk (k : Nat) (R : List S74) (w : World) (hG : GTab w) (hA : look_All.f k e0 [] e2 e3 0 = some (R, 0)) (hk : 10 ≤ k) (hR : workRows R) : Calls Tryd.prog 27 #[] w fun e w' => e = .returned (.bool true) ∧ Below w.heap.size w w' := by
 have hu82 := Tryd.underlying82
 have hu64 := Tryd.underlying64
 have hu27 := Tryd.underlying27
 have hu49 := Tryd.underlying49
 have hu37 := Tryd.underlying37
 have hu74 := Tryd.underlying74
 have HG := Aside0.mk hG
 have HA := Aside0.mk hA
 have HK := Aside0.mk hk
 obtain ⟨hR3, hR0, hR1, hR2, hR4⟩ := hR
 have HR3 := Aside0.mk hR3
 have HR0 := Aside0.mk (toI_of hR0)
 obtain ⟨va, vb, hab⟩ : ∃ a b, (rd_T74 R 0).f1 = [a, b] := by
  match h : (rd_T74 R 0).f1, hR1 with
  | [a, b], _ => exact ⟨a, b, rfl⟩
 have HR1 := Aside0.mk hab
 have HR2 := Aside0.mk (toI_of hR2)
 have HR4 := Aside0.mk hR4
 clear hG hA hk hR0 hR1 hR2 hR3 hR4 hab
 go_enter Tryd.func27, Tryd.ntmps27
 go_upto_region 2 with fail
 have GE1 := Aside0.mk (Ge.start w)
 have HB1 := Aside0.mk (below_alloc (below_alloc (below_alloc (below_alloc (below_alloc (Below.refl w.heap.size w) (Obj.cells #[.string ⟨#[97]⟩, .string ⟨#[]⟩, .bool false, .int .i64 0] 82)) (Obj.cells #[.string ⟨#[83]⟩] 9)) (Obj.cells #[.int .i64 0] 29)) (Obj.cells #[.string ⟨#[112]⟩, .int .i64 0, .slice (some ⟨w.heap.size + 1 + 1, 0, none⟩) 1 1, .int .i64 0] 64)) (Obj.cells #[.slice (some ⟨w.heap.size, 0, none⟩) 1 1, .slice none 0 0, .slice (some ⟨w.heap.size + 1, 0, none⟩) 1 1, .slice (some ⟨w.heap.size + 1 + 1 + 1, 0, none⟩) 1 1, .int .i64 0] 27))
 generalize ((((w.alloc (Obj.cells #[.string ⟨#[97]⟩, .string ⟨#[]⟩, .bool false, .int .i64 0] 82)).alloc (Obj.cells #[.string ⟨#[83]⟩] 9)).alloc (Obj.cells #[.int .i64 0] 29)).alloc (Obj.cells #[.string ⟨#[112]⟩, .int .i64 0, .slice (some ⟨w.heap.size + 1 + 1, 0, none⟩) 1 1, .int .i64 0] 64)).alloc (Obj.cells #[.slice (some ⟨w.heap.size, 0, none⟩) 1 1, .slice none 0 0, .slice (some ⟨w.heap.size + 1, 0, none⟩) 1 1, .slice (some ⟨w.heap.size + 1 + 1 + 1, 0, none⟩) 1 1, .int .i64 0] 27) = W1 at *
 obtain ⟨n, hn⟩ : ∃ n, n = w.heap.size := ⟨_, rfl⟩
 obtain ⟨y0, y1, y2, y3, y4⟩ := five5 GE1.out.c4
 go_upto_region 3 with (go_at_call 28; (with_reducible refine (all_e GE1.out (GTab.below HG.out HB1.out) HA.out).mono ?_); rintro e w2 ⟨A, c, rfl, hk, hb⟩; have HB2 := Aside0.mk (below_step HB1.out hb); have GE2 := Aside0.mk (Ge.below GE1.out hb); have HL2 := Aside0.mk hk; clear hk hb)
 clear y0 y1 y2 y3 y4
 rw [HR3.out] at HL2 ⊢
 obtain ⟨ad, P0, p0, P1, p1, rfl, x0, x1, xl0, xC0, xl1, xC1⟩ := at_T74 HL2.out.2 0 (by omega) (by omega)
 obtain ⟨ad', Q0, q0, Q1, q1, ee, z0, z1, zl0, zC0, zl1, zC1⟩ := at_T74 HL2.out.2 1 (by omega) (by omega)
 injection ee with ee
 subst ee
 rw [HR0.out] at x0 xl0 xC0
 rw [HR1.out] at x1 xl1 xC1
 rw [HR2.out] at z0 zl0 zC0
 rw [HR4.out] at z1 zl1 zC1
 have x0' : w2.cell? ad = some (.slice P0 2 p0) := by
  have e : ad.add ((0 : Int).toNat * 2) = ad := add_none ad
  rw [e] at x0; exact x0
 have x1' : w2.cell? ⟨ad.block, ad.off + 1, none⟩ = some (.slice P1 2 p1) := by
  have e : ad.add ((0 : Int).toNat * 2) = ad := add_none ad
  rw [e] at x1; exact x1
 have ea : ad.add ((1 : Int).toNat * 2) = ⟨ad.block, ad.off + 2, none⟩ := by
  have h0 := add_field ad 0 2 (by omega)
  have h1 : ad.add 0 = ad := add_none ad
  rw [h1] at h0
  exact h0
 rw [ea] at z0 z1
 have z0' : w2.cell? ⟨ad.block, ad.off + 2, none⟩ = some (.slice Q0 1 q0) := z0
 have z1' : w2.cell? ⟨ad.block, ad.off + 3, none⟩ = some (.slice Q1 1 q1) := z1
 obtain ⟨aq, cs, eq1, _, hcK, hcell⟩ := Kd.C_get zC1 0 (0 : Int) (by omega) (by decide)
 have z2 : w2.cell? aq = some (.int .u64 9223372036854775808) := by
  have e : aq.add ((0 : Int).toNat * 1 + 0) = aq := add_none aq
  have hcs : cs = [.int .u64 9223372036854775808] := hcK
  have := hcell 0 (.int .u64 9223372036854775808) (by rw [hcs]; rfl)
  rw [← e]; exact this
 subst eq1
 have XX := Aside0.mk (And.intro x0' (And.intro x1' (And.intro z0' (And.intro z1' z2))))
 have XC0 := Aside0.mk xC0
 have XC1 := Aside0.mk xC1
 have ZC0 := Aside0.mk zC0
 have ZC1 := Aside0.mk zC1
 have XL := Aside0.mk (show 2 ≤ p0 ∧ 2 ≤ p1 ∧ 1 ≤ q0 ∧ 1 ≤ q1 from ⟨xl0, xl1, zl0, zl1⟩)
 clear x0 x1 z0 z1 x0' x1' z0' z1' z2 xC0 xC1 zC0 zC1 xl0 xl1 zl0 zl1 hcell hcK
 obtain ⟨y0, y1, y2, y3, y4⟩ := five5 GE2.out.c4
 obtain ⟨x0, x1, z0, z1, z2⟩ := XX.out
 go_upto_region 5 with fail
 have HX := Aside0.mk fun (W' : World) (hb : RowKit.Below w2.heap.size w2 W') => show W'.cell? ad = some (.slice P0 2 p0) ∧ W'.cell? ⟨ad.block, ad.off + 1, none⟩ = some (.slice P1 2 p1) ∧ W'.cell? ⟨ad.block, ad.off + 2, none⟩ = some (.slice Q0 1 q0) ∧ W'.cell? ⟨ad.block, ad.off + 3, none⟩ = some (.slice (some aq) 1 q1) ∧ W'.cell? aq = some (.int .u64 9223372036854775808) from
  ⟨(hb.cell (World.block_lt_of_cell? _ _ XX.out.1)).trans XX.out.1, (hb.cell (World.block_lt_of_cell? _ _ XX.out.2.1)).trans XX.out.2.1, (hb.cell (World.block_lt_of_cell? _ _ XX.out.2.2.1)).trans XX.out.2.2.1, (hb.cell (World.block_lt_of_cell? _ _ XX.out.2.2.2.1)).trans XX.out.2.2.2.1, (hb.cell (World.block_lt_of_cell? _ _ XX.out.2.2.2.2)).trans XX.out.2.2.2.2⟩
 have HD5 := Aside0.mk fun (W' : World) (hb : RowKit.Below w2.heap.size w2 W') => done_e (Ge.below GE2.out hb) (Kd.C_below ZC0.out hb) XL.out.2.2.1 (Kd.C_below ZC1.out hb) XL.out.2.2.2 (done_one k (by have := HK.out; omega))
 go_region_held3 (fun w' => w'.cell? ⟨w.heap.size + 1 + 1 + 1 + 1, 0, none⟩ = some (.slice (some ⟨w.heap.size, 0, none⟩) 1 1) ∧ w'.cell? ⟨w.heap.size + 1 + 1 + 1 + 1, 1, none⟩ = some (.slice none 0 0) ∧ w'.cell? ⟨w.heap.size + 1 + 1 + 1 + 1, 2, none⟩ = some (.slice (some ⟨w.heap.size + 1, 0, none⟩) 1 1) ∧ w'.cell? ⟨w.heap.size + 1 + 1 + 1 + 1, 3, none⟩ = some (.slice (some ⟨w.heap.size + 1 + 1 + 1, 0, none⟩) 1 1) ∧ w'.cell? ⟨w.heap.size + 1 + 1 + 1 + 1, 4, none⟩ = some (.int .i64 0) ∧ w'.cell? ⟨ad.block, ad.off + 2, none⟩ = some (.slice Q0 1 q0) ∧ w'.cell? ⟨ad.block, ad.off + 3, none⟩ = some (.slice (some aq) 1 q1)) (go_keep)
  (first | (go_at_call 46; refine (HD5.out _ (by repeat (first | exact RowKit.Below.refl _ _ | apply below_drew1))).mono ?_; rintro e w3 ⟨A3, c3, rfl, h3, hb3⟩; have hbb := below_step (w := w2) (by repeat (first | exact RowKit.Below.refl _ _ | apply below_drew1)) hb3; have GE3 := Aside0.mk (Ge.below GE2.out hbb); obtain ⟨y0, y1, y2, y3, y4⟩ := five5 GE3.out.c4; obtain ⟨x0, x1, z0, z1, z2⟩ := HX.out w3 hbb; have HB3 := Aside0.mk hbb; have HD3 := Aside0.mk h3; clear hb3 hbb h3))
 have HB4 := Aside0.mk (below_step HB2.out HB3.out)
 go_upto_region 7 with (go_at_call 23; (with_reducible refine (build_e GE3.out (GTab.below HG.out HB4.out)).mono ?_); rintro e w4 ⟨A4, c4, A5, c5, rfl, hk4, hn4, hb4⟩; have HBB4 := Aside0.mk hb4; have HK4 := Aside0.mk hk4; have HN4 := Aside0.mk hn4; clear hk4 hn4 hb4)
 clear y0 y1 y2 y3 y4 x0 x1 z0 z1 z2
 have BA := Aside0.mk (blk_new w4 (Obj.cells #[.slice A4 3 c4, .slice A5 3 c5] 49))
 have HA4 := Aside0.mk (below_step HBB4.out (below_alloc (RowKit.Below.refl w4.heap.size w4) (Obj.cells #[.slice A4 3 c4, .slice A5 3 c5] 49)))
 have HK5 := Aside0.mk (And.intro HK4.out.1 (Kd.C_below HK4.out.2 (below_alloc (RowKit.Below.refl w4.heap.size w4) (Obj.cells #[.slice A4 3 c4, .slice A5 3 c5] 49))))
 have HN5 := Aside0.mk (And.intro HN4.out.1 (Kd.C_below HN4.out.2 (below_alloc (RowKit.Below.refl w4.heap.size w4) (Obj.cells #[.slice A4 3 c4, .slice A5 3 c5] 49))))
 generalize w4.alloc (Obj.cells #[.slice A4 3 c4, .slice A5 3 c5] 49) = w5 at *
 generalize w4.heap.size = ab at *
 have HB5 := Aside0.mk (below_step HB3.out HA4.out)
 have HBW := Aside0.mk (below_step HB2.out HB5.out)
 have GE5 := Aside0.mk (Ge.below GE3.out HA4.out)
 obtain ⟨adn, cs3, ed3, _, hcK3, hcell3⟩ := Kd.C_get HD3.out.2 0 (0 : Int) (by omega) (by decide)
 have d0 : w5.cell? adn = some (.int .i64 0) := by
  have e : adn.add ((0 : Int).toNat * 1 + 0) = adn := add_none adn
  have hcs : cs3 = [.int .i64 0] := hcK3
  have := hcell3 0 (.int .i64 0) (by rw [hcs]; rfl)
  have h2 : w3.cell? adn = some (.int .i64 0) := by rw [← e]; exact this
  exact (HA4.out.cell (World.block_lt_of_cell? _ _ h2)).trans h2
 subst ed3
 have hR3 := HR3.out
 have HDD := Aside0.mk d0
 clear hcK3 hcell3 d0
 have HQ := Aside0.mk fun (W' : World) (hb : RowKit.Below w5.heap.size w5 W') => And.intro (Ge.below GE5.out hb) (And.intro (HX.out W' (below_step HB5.out hb)) (And.intro (blk_below BA.out hb) ((hb.cell (World.block_lt_of_cell? _ _ HDD.out)).trans HDD.out)))
 have HAH := Aside0.mk fun (W' : World) (hb : RowKit.Below w5.heap.size w5 W') => ahead_e (Ge.below GE5.out hb) (GTab.below HG.out (below_step HBW.out hb)) (And.intro HK5.out.1 (Kd.C_below HK5.out.2 hb)) (And.intro HN5.out.1 (Kd.C_below HN5.out.2 hb)) HA.out HR3.out
 have HDO := Aside0.mk fun (W' : World) (hb : RowKit.Below w5.heap.size w5 W') => done_e (Ge.below GE5.out hb) (Kd.C_below XC0.out (below_step HB5.out hb)) XL.out.1 (Kd.C_below XC1.out (below_step HB5.out hb)) XL.out.2.1 (done_two k (by have := HK.out; omega) va vb)
 obtain ⟨hGE, ⟨x0, x1, z0, z1, z2⟩, hBA, d0⟩ := HQ.out w5 (RowKit.Below.refl _ _)
 obtain ⟨y0, y1, y2, y3, y4⟩ := five5 hGE.c4
 have a0 : w5.cell? ⟨ab, 0, none⟩ = some (.slice A4 3 c4) := blk_cell hBA 0
 have a1 : w5.cell? ⟨ab, 1, none⟩ = some (.slice A5 3 c5) := blk_cell hBA 1
 clear hGE hBA hR3
 go_region_held3 (fun w' => w'.cell? ⟨w.heap.size + 1 + 1 + 1 + 1, 0, none⟩ = some (.slice (some ⟨w.heap.size, 0, none⟩) 1 1) ∧ w'.cell? ⟨w.heap.size + 1 + 1 + 1 + 1, 1, none⟩ = some (.slice none 0 0) ∧ w'.cell? ⟨w.heap.size + 1 + 1 + 1 + 1, 2, none⟩ = some (.slice (some ⟨w.heap.size + 1, 0, none⟩) 1 1) ∧ w'.cell? ⟨w.heap.size + 1 + 1 + 1 + 1, 3, none⟩ = some (.slice (some ⟨w.heap.size + 1 + 1 + 1, 0, none⟩) 1 1) ∧ w'.cell? ⟨w.heap.size + 1 + 1 + 1 + 1, 4, none⟩ = some (.int .i64 0) ∧ w'.cell? ad = some (.slice P0 2 p0) ∧ w'.cell? ⟨ad.block, ad.off + 1, none⟩ = some (.slice P1 2 p1) ∧ w'.cell? ⟨ad.block, ad.off + 3, none⟩ = some (.slice (some aq) 1 q1) ∧ w'.cell? aq = some (.int .u64 9223372036854775808) ∧ w'.cell? adn = some (.int .i64 0) ∧ w'.cell? ⟨ab, 0, none⟩ = some (.slice A4 3 c4) ∧ w'.cell? ⟨ab, 1, none⟩ = some (.slice A5 3 c5)) (go_keep)
  (first | (go_at_call 47; refine (HAH.out _ (by repeat (first | exact RowKit.Below.refl _ _ | apply below_drew1))).mono ?_; rintro e w6 ⟨A6, c6, rfl, hb6⟩; have hbb := below_step (w := w5) (by repeat (first | exact RowKit.Below.refl _ _ | apply below_drew1)) hb6; have HB6 := Aside0.mk hbb; obtain ⟨hGE, ⟨x0, x1, z0, z1, z2⟩, hBA, d0⟩ := HQ.out w6 hbb; obtain ⟨y0, y1, y2, y3, y4⟩ := five5 hGE.c4; have a0 := blk_cell hBA 0; have a1 := blk_cell hBA 1; clear hGE hBA hbb hb6) | (go_at_call 46; refine (HDO.out _ (by repeat (first | exact HB6.out | exact RowKit.Below.refl _ _ | apply below_drew1))).mono ?_; rintro e w7 ⟨A7, c7, rfl, h7, hb7⟩; have hbb := below_step (w := w5) (by repeat (first | exact HB6.out | exact RowKit.Below.refl _ _ | apply below_drew1)) hb7; have HB7 := Aside0.mk hbb; obtain ⟨hGE, ⟨x0, x1, z0, z1, z2⟩, hBA, d0⟩ := HQ.out w7 hbb; obtain ⟨y0, y1, y2, y3, y4⟩ := five5 hGE.c4; have a0 := blk_cell hBA 0; have a1 := blk_cell hBA 1; clear hGE hBA hbb hb7 h7))
 go_wp2_with fail
 go_ret
 exact ⟨rfl, below_step HBW.out HB7.out⟩
theorem syntagmlaw15_works.calls (k : Nat) (r : Bool) (w : World) (hG : GTab w) (hT : r = true) (h : syntagmlaw15_works.f k = some r) :
  Calls Tryd.prog 27 #[] w fun e w' => e = .returned (.bool r) ∧ Below w.heap.size w w' := by
 unfold syntagmlaw15_works.f at h
 obtain ⟨⟨R, e⟩, hb, h⟩ := Option.bind_eq_some_iff.1 h
 split at h
 ·rename_i hq
  subst hT
  obtain ⟨hk, he, hR⟩ := hq
  simp only at he hR
  subst he
  exact looks_walk k R w hG hb hk hR
 ·cases h
end Go.Proofs.YtclollnicbcooaaDoor.P
end

section
namespace Go.Proofs.YtclollnicbcooaaDoor.P
open Go.RowKit Go.Proofs.YtclollnicbcooaaDoorW.PrintWords Go.Proofs.YtclollnicbcooaaDoorW.PrintLast Go.Proofs.YtclollnicbcooaaDoorW.PrintMore
attribute [local go_sem] max2_int min2_int max_two min_two max_three min_three max_four min_four   -- for this text's walks alone
set_option linter.unusedVariables false
set_option linter.unusedSimpArgs false

/-! ### syntagmlaw15_LookEmpty: function 9 -/
mutual
def syntagmlaw15_LookEmpty.l0 : Nat → Bool → List (S74) → List Bool → Int → Option (Bool)
 | 0, _, _, _, _ => none
 | k + 1, x3, x5, x7, x8 => if x8 < (x7.length : Int) then (if 0 ≤ x8 then (if rdOf false x7 x8 = true then (syntagmlaw15_LookEmpty.l0 k x3 x5 x7 (wrap64 (x8 + 1))) else (some x3)) else (none)) else (syntagmlaw15_LookEmpty.l1 k x3 x5 0)
def syntagmlaw15_LookEmpty.l1 : Nat → Bool → List (S74) → Int → Option (Bool)
 | 0, _, _, _ => none
 | k + 1, x3, x5, x9 => if x9 < (x5.length : Int) then (syntagmlaw15_LookEmpty.l2 k x3 x5 x9 0) else (some x3)
def syntagmlaw15_LookEmpty.l2 : Nat → Bool → List (S74) → Int → Int → Option (Bool)
 | 0, _, _, _, _ => none
 | k + 1, x3, x5, x9, x10 => if 0 ≤ x9 then (if x9 < (x5.length : Int) then (if x10 < (((rd_T74 x5 x9).f1).length : Int) then (if 0 ≤ x10 then (if (rd ((rd_T74 x5 x9).f1) x10) = 0 then (some false) else (syntagmlaw15_LookEmpty.l2 k x3 x5 x9 (wrap64 (x10 + 1)))) else (none)) else (syntagmlaw15_LookEmpty.l1 k x3 x5 (wrap64 (x9 + 1)))) else (none)) else (none)
end
def syntagmlaw15_LookEmpty.f (k : Nat) (l0_0 : List (S82)) (l0_1 : List (S101)) (l0_2 : List ByteArray) (l0_3 : List (S64)) (a0_4 : Int) : Option (Bool) := (syntagmlaw15_works.f k).bind fun t256 => (if t256 = true then ((syntagmlaw14_Little.f k l0_0 l0_1 l0_2 l0_3 a0_4).bind fun t257 => (if t257 = true then ((look_All.f k l0_0 l0_1 l0_2 l0_3 a0_4).bind fun bt258 => (if bt258.2 = 0 then ((sets_Lives.f k l0_0 l0_1 l0_2 l0_3 a0_4).bind fun t262 => (syntagmlaw15_LookEmpty.l0 k t256 bt258.1 t262 0)) else (some t256))) else (some t256))) else (some false))
set_option maxHeartbeats 8000000 in
set_option maxRecDepth 100000 in
theorem syntagmlaw15_LookEmpty.calls (k : Nat) (A0_0 : Option Addr) (c0_0 : Nat) (l0_0 : List (S82)) (A0_1 : Option Addr) (c0_1 : Nat) (l0_1 : List (S101)) (A0_2 : Option Addr) (c0_2 : Nat) (l0_2 : List ByteArray) (A0_3 : Option Addr) (c0_3 : Nat) (l0_3 : List (S64)) (a0_4 : Int) (r : Bool) (w : World) (hG : GTab w) (hT : r = true) (hr0_0 : Kd.C k82 w A0_0 l0_0.length l0_0) (hc0_0 : l0_0.length ≤ c0_0) (hr0_1 : Kd.C k101 w A0_1 l0_1.length l0_1) (hc0_1 : l0_1.length ≤ c0_1) (hr0_2 : Kd.C Kd.string w A0_2 l0_2.length l0_2) (hc0_2 : l0_2.length ≤ c0_2) (hr0_3 : Kd.C k64 w A0_3 l0_3.length l0_3) (hc0_3 : l0_3.length ≤ c0_3) (h : syntagmlaw15_LookEmpty.f k l0_0 l0_1 l0_2 l0_3 a0_4 = some r) :
  Calls Tryd.prog 9 #[.agg #[.slice A0_0 l0_0.length c0_0, .slice A0_1 l0_1.length c0_1, .slice A0_2 l0_2.length c0_2, .slice A0_3 l0_3.length c0_3, .int .i64 a0_4]] w fun e w' => e = .returned (.bool r) ∧ Below w.heap.size w w' := by
 have hu27 := Tryd.underlying27
 have HG := Aside0.mk hG
 clear hG
 have HT := Aside0.mk hT
 clear hT
 have HR0_0 := Aside0.mk hr0_0
 have HC0_0 := Aside0.mk hc0_0
 clear hr0_0 hc0_0
 have HR0_1 := Aside0.mk hr0_1
 have HC0_1 := Aside0.mk hc0_1
 clear hr0_1 hc0_1
 have HR0_2 := Aside0.mk hr0_2
 have HC0_2 := Aside0.mk hc0_2
 clear hr0_2 hc0_2
 have HR0_3 := Aside0.mk hr0_3
 have HC0_3 := Aside0.mk hc0_3
 clear hr0_3 hc0_3
 have HB := Aside0.mk (Below.refl w.heap.size w)
 have H : ((syntagmlaw15_works.f k).bind fun t256 => (if t256 = true then ((syntagmlaw14_Little.f k l0_0 l0_1 l0_2 l0_3 a0_4).bind fun t257 => (if t257 = true then ((look_All.f k l0_0 l0_1 l0_2 l0_3 a0_4).bind fun bt258 => (if bt258.2 = 0 then ((sets_Lives.f k l0_0 l0_1 l0_2 l0_3 a0_4).bind fun t262 => (syntagmlaw15_LookEmpty.l0 k t256 bt258.1 t262 0)) else (some t256))) else (some t256))) else (some false))) = some r := h
 clear h
 replace H := Option.bind_eq_some_iff.mp H
 obtain ⟨t256, A20, H⟩ := H
 replace H : (if t256 = true then ((syntagmlaw14_Little.f k l0_0 l0_1 l0_2 l0_3 a0_4).bind fun t257 => (if t257 = true then ((look_All.f k l0_0 l0_1 l0_2 l0_3 a0_4).bind fun bt258 => (if bt258.2 = 0 then ((sets_Lives.f k l0_0 l0_1 l0_2 l0_3 a0_4).bind fun t262 => (syntagmlaw15_LookEmpty.l0 k t256 bt258.1 t262 0)) else (some t256))) else (some t256))) else (some false)) = some r := H
 have A2 := Aside0.mk A20
 clear A20
 by_cases c3 : t256 = true
 ·subst c3
  have H1 : ((syntagmlaw14_Little.f k l0_0 l0_1 l0_2 l0_3 a0_4).bind fun t257 => (if t257 = true then ((look_All.f k l0_0 l0_1 l0_2 l0_3 a0_4).bind fun bt258 => (if bt258.2 = 0 then ((sets_Lives.f k l0_0 l0_1 l0_2 l0_3 a0_4).bind fun t262 => (syntagmlaw15_LookEmpty.l0 k true bt258.1 t262 0)) else (some true))) else (some true))) = some r := by rw [if_pos rfl] at H; exact H
  clear H
  have H := H1
  clear H1
  replace H := Option.bind_eq_some_iff.mp H
  obtain ⟨t257, A40, H⟩ := H
  replace H : (if t257 = true then ((look_All.f k l0_0 l0_1 l0_2 l0_3 a0_4).bind fun bt258 => (if bt258.2 = 0 then ((sets_Lives.f k l0_0 l0_1 l0_2 l0_3 a0_4).bind fun t262 => (syntagmlaw15_LookEmpty.l0 k true bt258.1 t262 0)) else (some true))) else (some true)) = some r := H
  have A4 := Aside0.mk A40
  clear A40
  by_cases c5 : t257 = true
  ·subst c5
   have H1 : ((look_All.f k l0_0 l0_1 l0_2 l0_3 a0_4).bind fun bt258 => (if bt258.2 = 0 then ((sets_Lives.f k l0_0 l0_1 l0_2 l0_3 a0_4).bind fun t262 => (syntagmlaw15_LookEmpty.l0 k true bt258.1 t262 0)) else (some true))) = some r := by rw [if_pos rfl] at H; exact H
   clear H
   have H := H1
   clear H1
   replace H := Option.bind_eq_some_iff.mp H
   obtain ⟨⟨t258, t261⟩, A60, H⟩ := H
   replace H : (if t261 = 0 then ((sets_Lives.f k l0_0 l0_1 l0_2 l0_3 a0_4).bind fun t262 => (syntagmlaw15_LookEmpty.l0 k true t258 t262 0)) else (some true)) = some r := H
   have A6 := Aside0.mk A60
   clear A60
   by_cases c7 : t261 = 0
   ·rw [if_pos c7] at H
    have c7b0 : (t261 == 0) = true := beq_iff_eq.mpr c7
    have c7b1 : (t261 != 0) = false := bne_eq_false_iff_eq.mpr c7
    clear c7
    replace H := Option.bind_eq_some_iff.mp H
    obtain ⟨t262, A80, H⟩ := H
    replace H : (syntagmlaw15_LookEmpty.l0 k true t258 t262 0) = some r := H
    have A8 := Aside0.mk A80
    clear A80
    have H' := Aside0.mk H
    clear H
    go_enter Tryd.func9, Tryd.ntmps9
    go_wp2_with (first | ((with_reducible refine gate_dst (N := 1) rfl ?_); refine box_event ?hg (N := 1) ?hd (cs := #[.slice A0_0 l0_0.length c0_0, .slice A0_1 l0_1.length c0_1, .slice A0_2 l0_2.length c0_2, .slice A0_3 l0_3.length c0_3, .int .i64 a0_4]) (t := 27) ?hr ?_; (case hd => rfl); (case hg => rfl); (case hr => first | (go_simp; done) | (go_simp; rfl)); intro gb255 hg w9 hbox hb; have n0_ := Aside0.mk (below_step (by repeat (first | (with_reducible first | exact HB.out | apply below_alloc | apply pw_below_drewN | apply below_drew1) | exact HB.out)) hb); have n1_ := Aside0.mk (hbox); have n2_ := Aside0.mk ((by rw [hg]; exact (below_size (by repeat (first | (with_reducible first | exact HB.out | apply below_alloc | apply pw_below_drewN | apply below_drew1) | exact HB.out))) : w.heap.size ≤ gb255)); have n3_ := Aside0.mk ((by rw [hg]; exact (below_size (by repeat (first | (with_reducible first | exact HB.out | apply below_alloc | apply pw_below_drewN | apply below_drew1) | exact HB.out))) : w.heap.size ≤ gb255)); clear HB; have HB := n0_; have BK255 := n1_; have GW255 := n2_; have GE255 := n3_; clear n0_ n1_ n2_ n3_; clear hb hbox hg) | ((with_reducible refine gate_callee (f := 27) rfl ?_); refine goesL_ (some 11) rfl rfl Tryd.func27 (by kernel_rfl) rfl #[] rfl (by (try simp only [List.map_toArray, List.map_cons, List.map_nil]); first | done | rfl | (simp only [List.length_drop, List.length_take]; rfl)) ?_; (with_reducible refine (syntagmlaw15_works.calls k  true _ ?side1 ?side2 A2.out).mono ?_); (case side1 => exact GTab.below HG.out (by repeat (first | (with_reducible first | exact HB.out | apply below_alloc | apply pw_below_drewN | apply below_drew1 | refine below_set ?_ GE255.out) | exact HB.out))); (case side2 => rfl); rintro e w10 ⟨rfl, hb⟩; refine ⟨_, rfl, ?_⟩; have n0_ := Aside0.mk (blk_below (g := gb255) (o := .cells #[.slice A0_0 l0_0.length c0_0, .slice A0_1 l0_1.length c0_1, .slice A0_2 l0_2.length c0_2, .slice A0_3 l0_3.length c0_3, .int .i64 a0_4] 27 (0, 0)) (by (with_reducible repeat (first | refine blk_drewN ?_ _ | refine blk_drew ?_ | refine blk_alloc ?_ _)); exact BK255.out) hb); have n1_ := Aside0.mk (below_step (by repeat (first | (with_reducible first | exact HB.out | apply below_alloc | apply pw_below_drewN | apply below_drew1 | refine below_set ?_ GE255.out) | exact HB.out)) hb); clear BK255; clear HB; have BK255 := n0_; have HB := n1_; clear n0_ n1_; (try clear hb); (try clear hb2); (try clear hk); (try clear hi); have hcz11_0 : w10.cell? ⟨gb255, 0, none⟩ = some (.slice A0_0 l0_0.length c0_0) := (blk_cell BK255.out 0).trans rfl; have hcz11_1 : w10.cell? ⟨gb255, 1, none⟩ = some (.slice A0_1 l0_1.length c0_1) := (blk_cell BK255.out 1).trans rfl; have hcz11_2 : w10.cell? ⟨gb255, 2, none⟩ = some (.slice A0_2 l0_2.length c0_2) := (blk_cell BK255.out 2).trans rfl; have hcz11_3 : w10.cell? ⟨gb255, 3, none⟩ = some (.slice A0_3 l0_3.length c0_3) := (blk_cell BK255.out 3).trans rfl; have hcz11_4 : w10.cell? ⟨gb255, 4, none⟩ = some (.int .i64 a0_4) := (blk_cell BK255.out 4).trans rfl; have hfz11_0 := blk_frozen BK255.out 0; have hfz11_1 := blk_frozen BK255.out 1; have hfz11_2 := blk_frozen BK255.out 2; have hfz11_3 := blk_frozen BK255.out 3; have hfz11_4 := blk_frozen BK255.out 4) | ((with_reducible refine gate_callee (f := 22) rfl ?_); refine goesL_ (some 15) rfl rfl Tryd.func22 (by kernel_rfl) rfl #[.agg #[.slice A0_0 l0_0.length c0_0, .slice A0_1 l0_1.length c0_1, .slice A0_2 l0_2.length c0_2, .slice A0_3 l0_3.length c0_3, .int .i64 a0_4]] rfl (by (try simp only [List.map_toArray, List.map_cons, List.map_nil]); first | done | rfl | (simp only [List.length_drop, List.length_take]; rfl)) ?_; (with_reducible refine (syntagmlaw14_Little.calls k _ _ l0_0 _ _ l0_1 _ _ l0_2 _ _ l0_3 a0_4 true _ ?side1 ?side2 ?side3 ?side4 ?side5 ?side6 ?side7 ?side8 A4.out).mono ?_); (case side1 => repeat (first | exact (Kd.C_below HR0_0.out HB.out) | (with_reducible refine Kd.C_alloc ?_ _) | (with_reducible refine Kd.C_drewN ?_ _) | (with_reducible refine Kd.C_drew ?_))); (case side2 => exact HC0_0.out); (case side3 => repeat (first | exact (Kd.C_below HR0_1.out HB.out) | (with_reducible refine Kd.C_alloc ?_ _) | (with_reducible refine Kd.C_drewN ?_ _) | (with_reducible refine Kd.C_drew ?_))); (case side4 => exact HC0_1.out); (case side5 => repeat (first | exact (Kd.C_below HR0_2.out HB.out) | (with_reducible refine Kd.C_alloc ?_ _) | (with_reducible refine Kd.C_drewN ?_ _) | (with_reducible refine Kd.C_drew ?_))); (case side6 => exact HC0_2.out); (case side7 => repeat (first | exact (Kd.C_below HR0_3.out HB.out) | (with_reducible refine Kd.C_alloc ?_ _) | (with_reducible refine Kd.C_drewN ?_ _) | (with_reducible refine Kd.C_drew ?_))); (case side8 => exact HC0_3.out); rintro e w12 ⟨rfl, hb⟩; refine ⟨_, rfl, ?_⟩; have n0_ := Aside0.mk (blk_below (g := gb255) (o := .cells #[.slice A0_0 l0_0.length c0_0, .slice A0_1 l0_1.length c0_1, .slice A0_2 l0_2.length c0_2, .slice A0_3 l0_3.length c0_3, .int .i64 a0_4] 27 (0, 0)) (by (with_reducible repeat (first | refine blk_drewN ?_ _ | refine blk_drew ?_ | refine blk_alloc ?_ _)); exact BK255.out) hb); have n1_ := Aside0.mk (below_step (by repeat (first | (with_reducible first | exact HB.out | apply below_alloc | apply pw_below_drewN | apply below_drew1 | refine below_set ?_ GE255.out) | exact HB.out)) hb); clear BK255; clear HB; have BK255 := n0_; have HB := n1_; clear n0_ n1_; (try clear hb); (try clear hb2); (try clear hk); (try clear hi); have hcz13_0 : w12.cell? ⟨gb255, 0, none⟩ = some (.slice A0_0 l0_0.length c0_0) := (blk_cell BK255.out 0).trans rfl; have hcz13_1 : w12.cell? ⟨gb255, 1, none⟩ = some (.slice A0_1 l0_1.length c0_1) := (blk_cell BK255.out 1).trans rfl; have hcz13_2 : w12.cell? ⟨gb255, 2, none⟩ = some (.slice A0_2 l0_2.length c0_2) := (blk_cell BK255.out 2).trans rfl; have hcz13_3 : w12.cell? ⟨gb255, 3, none⟩ = some (.slice A0_3 l0_3.length c0_3) := (blk_cell BK255.out 3).trans rfl; have hcz13_4 : w12.cell? ⟨gb255, 4, none⟩ = some (.int .i64 a0_4) := (blk_cell BK255.out 4).trans rfl; have hfz13_0 := blk_frozen BK255.out 0; have hfz13_1 := blk_frozen BK255.out 1; have hfz13_2 := blk_frozen BK255.out 2; have hfz13_3 := blk_frozen BK255.out 3; have hfz13_4 := blk_frozen BK255.out 4) | ((with_reducible refine gate_callee (f := 28) rfl ?_); refine goesL_ (some 21) rfl rfl Tryd.func28 (by kernel_rfl) rfl #[.agg #[.slice A0_0 l0_0.length c0_0, .slice A0_1 l0_1.length c0_1, .slice A0_2 l0_2.length c0_2, .slice A0_3 l0_3.length c0_3, .int .i64 a0_4]] rfl (by (try simp only [List.map_toArray, List.map_cons, List.map_nil]); first | done | rfl | (simp only [List.length_drop, List.length_take]; rfl)) ?_; (with_reducible refine (look_All.calls k _ _ l0_0 _ _ l0_1 _ _ l0_2 _ _ l0_3 a0_4 t258 t261 _ ?side1 ?side2 ?side3 ?side4 ?side5 ?side6 ?side7 ?side8 ?side9 A6.out).mono ?_); (case side1 => exact GTab.below HG.out (by repeat (first | (with_reducible first | exact HB.out | apply below_alloc | apply pw_below_drewN | apply below_drew1 | refine below_set ?_ GE255.out) | exact HB.out))); (case side2 => repeat (first | exact (Kd.C_below HR0_0.out HB.out) | (with_reducible refine Kd.C_alloc ?_ _) | (with_reducible refine Kd.C_drewN ?_ _) | (with_reducible refine Kd.C_drew ?_))); (case side3 => exact HC0_0.out); (case side4 => repeat (first | exact (Kd.C_below HR0_1.out HB.out) | (with_reducible refine Kd.C_alloc ?_ _) | (with_reducible refine Kd.C_drewN ?_ _) | (with_reducible refine Kd.C_drew ?_))); (case side5 => exact HC0_1.out); (case side6 => repeat (first | exact (Kd.C_below HR0_2.out HB.out) | (with_reducible refine Kd.C_alloc ?_ _) | (with_reducible refine Kd.C_drewN ?_ _) | (with_reducible refine Kd.C_drew ?_))); (case side7 => exact HC0_2.out); (case side8 => repeat (first | exact (Kd.C_below HR0_3.out HB.out) | (with_reducible refine Kd.C_alloc ?_ _) | (with_reducible refine Kd.C_drewN ?_ _) | (with_reducible refine Kd.C_drew ?_))); (case side9 => exact HC0_3.out); rintro e w14 ⟨v259, rfl, ho0, hb⟩; refine ⟨_, rfl, ?_⟩; have n0_ := Aside0.mk (Kd.S_lower ho0 (below_size (by repeat (first | (with_reducible first | exact HB.out | apply below_alloc | apply pw_below_drewN | apply below_drew1 | refine below_set ?_ GE255.out) | exact HB.out)))); have n1_ := Aside0.mk (blk_below (g := gb255) (o := .cells #[.slice A0_0 l0_0.length c0_0, .slice A0_1 l0_1.length c0_1, .slice A0_2 l0_2.length c0_2, .slice A0_3 l0_3.length c0_3, .int .i64 a0_4] 27 (0, 0)) (by (with_reducible repeat (first | refine blk_drewN ?_ _ | refine blk_drew ?_ | refine blk_alloc ?_ _)); exact BK255.out) hb); have n2_ := Aside0.mk (below_step (by repeat (first | (with_reducible first | exact HB.out | apply below_alloc | apply pw_below_drewN | apply below_drew1 | refine below_set ?_ GE255.out) | exact HB.out)) hb); clear BK255; clear HB; have HO260 := n0_; have BK255 := n1_; have HB := n2_; clear n0_ n1_ n2_; (try clear hb); (try clear hb2); (try clear hk); (try clear hi); (try clear ho0); have hcz15_0 : w14.cell? ⟨gb255, 0, none⟩ = some (.slice A0_0 l0_0.length c0_0) := (blk_cell BK255.out 0).trans rfl; have hcz15_1 : w14.cell? ⟨gb255, 1, none⟩ = some (.slice A0_1 l0_1.length c0_1) := (blk_cell BK255.out 1).trans rfl; have hcz15_2 : w14.cell? ⟨gb255, 2, none⟩ = some (.slice A0_2 l0_2.length c0_2) := (blk_cell BK255.out 2).trans rfl; have hcz15_3 : w14.cell? ⟨gb255, 3, none⟩ = some (.slice A0_3 l0_3.length c0_3) := (blk_cell BK255.out 3).trans rfl; have hcz15_4 : w14.cell? ⟨gb255, 4, none⟩ = some (.int .i64 a0_4) := (blk_cell BK255.out 4).trans rfl; have hfz15_0 := blk_frozen BK255.out 0; have hfz15_1 := blk_frozen BK255.out 1; have hfz15_2 := blk_frozen BK255.out 2; have hfz15_3 := blk_frozen BK255.out 3; have hfz15_4 := blk_frozen BK255.out 4) | ((with_reducible refine gate_callee (f := 29) rfl ?_); refine goesL_ (some 28) rfl rfl Tryd.func29 (by kernel_rfl) rfl #[.agg #[.slice A0_0 l0_0.length c0_0, .slice A0_1 l0_1.length c0_1, .slice A0_2 l0_2.length c0_2, .slice A0_3 l0_3.length c0_3, .int .i64 a0_4]] rfl (by (try simp only [List.map_toArray, List.map_cons, List.map_nil]); first | done | rfl | (simp only [List.length_drop, List.length_take]; rfl)) ?_; (with_reducible refine (sets_Lives.calls k _ _ l0_0 _ _ l0_1 _ _ l0_2 _ _ l0_3 a0_4 t262 _ ?side1 ?side2 ?side3 ?side4 ?side5 ?side6 ?side7 ?side8 A8.out).mono ?_); (case side1 => repeat (first | exact (Kd.C_below HR0_0.out HB.out) | (with_reducible refine Kd.C_alloc ?_ _) | (with_reducible refine Kd.C_drewN ?_ _) | (with_reducible refine Kd.C_drew ?_))); (case side2 => exact HC0_0.out); (case side3 => repeat (first | exact (Kd.C_below HR0_1.out HB.out) | (with_reducible refine Kd.C_alloc ?_ _) | (with_reducible refine Kd.C_drewN ?_ _) | (with_reducible refine Kd.C_drew ?_))); (case side4 => exact HC0_1.out); (case side5 => repeat (first | exact (Kd.C_below HR0_2.out HB.out) | (with_reducible refine Kd.C_alloc ?_ _) | (with_reducible refine Kd.C_drewN ?_ _) | (with_reducible refine Kd.C_drew ?_))); (case side6 => exact HC0_2.out); (case side7 => repeat (first | exact (Kd.C_below HR0_3.out HB.out) | (with_reducible refine Kd.C_alloc ?_ _) | (with_reducible refine Kd.C_drewN ?_ _) | (with_reducible refine Kd.C_drew ?_))); (case side8 => exact HC0_3.out); rintro e w16 ⟨v263, rfl, ho0, hb⟩; refine ⟨_, rfl, ?_⟩; have n0_ := Aside0.mk (Kd.S_below (by (with_reducible repeat (first | apply Kd.S_alloc | apply Kd.S_drewN | apply Kd.S_drew)); exact HO260.out) hb); have n1_ := Aside0.mk (Kd.R_lower ho0 (below_size (by repeat (first | (with_reducible first | exact HB.out | apply below_alloc | apply pw_below_drewN | apply below_drew1 | refine below_set ?_ GE255.out) | exact HB.out)))); have n2_ := Aside0.mk (blk_below (g := gb255) (o := .cells #[.slice A0_0 l0_0.length c0_0, .slice A0_1 l0_1.length c0_1, .slice A0_2 l0_2.length c0_2, .slice A0_3 l0_3.length c0_3, .int .i64 a0_4] 27 (0, 0)) (by (with_reducible repeat (first | refine blk_drewN ?_ _ | refine blk_drew ?_ | refine blk_alloc ?_ _)); exact BK255.out) hb); have n3_ := Aside0.mk (below_step (by repeat (first | (with_reducible first | exact HB.out | apply below_alloc | apply pw_below_drewN | apply below_drew1 | refine below_set ?_ GE255.out) | exact HB.out)) hb); clear HO260; clear BK255; clear HB; have HO260 := n0_; have HO264 := n1_; have BK255 := n2_; have HB := n3_; clear n0_ n1_ n2_ n3_; (try clear hb); (try clear hb2); (try clear hk); (try clear hi); (try clear ho0)))
    go_loopg [8] k (fun kq v8 w' => ∃ (x8_1 : Int), v8 = .int .i64 x8_1 ∧ Aside0 (syntagmlaw15_LookEmpty.l0 kq true t258 t262 x8_1 = some r) ∧ Aside0 (kq ≤ k) ∧ Aside0 (Kd.S k74 74 w' w.heap.size (fun _ => True) v259 t258) ∧ Aside0 (Kd.R Kd.bool 4 w' w.heap.size (fun _ => True) v263 t262) ∧ Aside0 (w'.heap[gb255]? = some (.cells #[(.slice A0_0 l0_0.length c0_0), (.slice A0_1 l0_1.length c0_1), (.slice A0_2 l0_2.length c0_2), (.slice A0_3 l0_3.length c0_3), .int .i64 a0_4] 27 (0, 0))) ∧ Aside0 (Below w.heap.size w w'))
    case atStart => exact ⟨(0), (by first | rfl | (simp; done) | (simp [*]; done)), H', ⟨Nat.le_refl _⟩, ⟨by (with_reducible repeat (first | apply Kd.S_alloc | apply Kd.S_drewN | apply Kd.S_drew)); exact HO260.out⟩, ⟨by (with_reducible repeat (first | apply Kd.R_alloc | apply Kd.R_drewN | apply Kd.R_drew)); exact HO264.out⟩, ⟨by (with_reducible repeat (first | refine blk_drewN ?_ _ | refine blk_drew ?_ | refine blk_alloc ?_ _)); exact BK255.out⟩, ⟨by repeat (first | (with_reducible first | exact HB.out | apply below_alloc | apply pw_below_drewN | apply below_drew1 | refine below_set ?_ GE255.out) | exact HB.out)⟩⟩
    case round =>
     clear H'
     try clear c2
     try clear p2
     try clear c3
     try clear c5
     try clear c7
     try clear c7b0
     try clear c7b1
     try clear c9
     try clear hcz11_0
     try clear hcz11_1
     try clear hcz11_2
     try clear hcz11_3
     try clear hcz11_4
     try clear hcz13_0
     try clear hcz13_1
     try clear hcz13_2
     try clear hcz13_3
     try clear hcz13_4
     try clear hcz15_0
     try clear hcz15_1
     try clear hcz15_2
     try clear hcz15_3
     try clear hcz15_4
     try clear hfz11_0
     try clear hfz11_1
     try clear hfz11_2
     try clear hfz11_3
     try clear hfz11_4
     try clear hfz13_0
     try clear hfz13_1
     try clear hfz13_2
     try clear hfz13_3
     try clear hfz13_4
     try clear hfz15_0
     try clear hfz15_1
     try clear hfz15_2
     try clear hfz15_3
     try clear hfz15_4
     obtain ⟨x8_1, rfl, HA, HK1, HO_5, HO_7, BK255, HB⟩ := hrel
     cases gk with
     | zero => exact absurd HA.out (by simp [syntagmlaw15_LookEmpty.l0])
     | succ k1 =>
      have H := HA.out
      clear HA
      simp only [syntagmlaw15_LookEmpty.l0] at H
      by_cases c17 : x8_1 < (t262.length : Int)
      ·rw [if_pos c17] at H
       have c17b0 : decide (x8_1 < (t262.length : Int)) = true := decide_eq_true c17
       clear c17
       by_cases c18 : 0 ≤ x8_1
       ·rw [if_pos c18] at H
        have c18b0 : decide (0 ≤ x8_1) = true := decide_eq_true c18
        clear c18
        obtain ⟨bq19, hbq19⟩ : ∃ b_ : Bool, b_ = (rdOf false t262 x8_1) := ⟨_, rfl⟩
        replace H : (if bq19 = true then (syntagmlaw15_LookEmpty.l0 k1 true t258 t262 (wrap64 (x8_1 + 1))) else (some true)) = some r := by rw [← hbq19] at H; exact H
        have Nbq19 := Aside0.mk hbq19
        clear hbq19
        by_cases c20 : bq19 = true
        ·subst c20
         have H1 : (syntagmlaw15_LookEmpty.l0 k1 true t258 t262 (wrap64 (x8_1 + 1))) = some r := by rw [if_pos rfl] at H; exact H
         clear H
         have H := H1
         clear H1
         have H' := Aside0.mk H
         clear H
         obtain ⟨Ao21, co21, eo21⟩ := Kd.R_slice HO_7.out
         subst eo21
         have p265 : 0 ≤ (x8_1 : Int) := of_decide_eq_true (by first | (with_reducible assumption) | assumption)
         have q265 : x8_1 < (t262.length : Int) := of_decide_eq_true (by first | (with_reducible assumption) | assumption)
         obtain ⟨ad265, e265, hx265_0⟩ := Kd.at_bool (Kd.R_reads' HO_7.out).2.2 x8_1 p265 q265
         (try rw [← Nbq19.out] at hx265_0)
         cases e265
         replace p265 := eq_true p265
         replace q265 := eq_true q265
         go_wp2
         go_roundg k1
         case measure => have := HK1.out; omega
         case rel => exact ⟨(wrap64 (x8_1 + 1)), (by first | rfl | (simp; done) | (simp [*]; done)), H', ⟨by have := HK1.out; omega⟩, ⟨by (with_reducible repeat (first | apply Kd.S_alloc | apply Kd.S_drewN | apply Kd.S_drew)); exact HO_5.out⟩, ⟨by (with_reducible repeat (first | apply Kd.R_alloc | apply Kd.R_drewN | apply Kd.R_drew)); exact HO_7.out⟩, ⟨by (with_reducible repeat (first | refine blk_drewN ?_ _ | refine blk_drew ?_ | refine blk_alloc ?_ _)); exact BK255.out⟩, ⟨by repeat (first | (with_reducible first | exact HB.out | apply below_alloc | apply pw_below_drewN | apply below_drew1 | refine below_set ?_ GE255.out) | exact HB.out)⟩⟩
        ·replace c20 := Bool.eq_false_iff.mpr c20
         subst c20
         have H1 : (some true) = some r := by rw [if_neg (show ¬ (false = true) by decide)] at H; exact H
         clear H
         have H := H1
         clear H1
         obtain rfl := Option.some.inj H
         obtain ⟨Ao22, co22, eo22⟩ := Kd.R_slice HO_7.out
         subst eo22
         have p265 : 0 ≤ (x8_1 : Int) := of_decide_eq_true (by first | (with_reducible assumption) | assumption)
         have q265 : x8_1 < (t262.length : Int) := of_decide_eq_true (by first | (with_reducible assumption) | assumption)
         obtain ⟨ad265, e265, hx265_0⟩ := Kd.at_bool (Kd.R_reads' HO_7.out).2.2 x8_1 p265 q265
         (try rw [← Nbq19.out] at hx265_0)
         cases e265
         replace p265 := eq_true p265
         replace q265 := eq_true q265
         go_wp2
         go_ret
         exact ⟨by first | rfl | (simp [errW_none, errW_some] <;> rfl) | (simp [*, errW_none, errW_some] <;> rfl), by repeat (first | (with_reducible first | exact HB.out | apply below_alloc | apply pw_below_drewN | apply below_drew1 | refine below_set ?_ GE255.out) | exact HB.out)⟩
       ·rw [if_neg c18] at H
        exact absurd H (by simp)
      ·rw [if_neg c17] at H
       have c17b0 : decide (x8_1 < (t262.length : Int)) = false := decide_eq_false c17
       clear c17
       have H' := Aside0.mk H
       clear H
       obtain ⟨Ao23, co23, eo23⟩ := Kd.R_slice HO_7.out
       subst eo23
       go_wp2
       go_loopg [9] k1 (fun kq v9 w' => ∃ (x9_2 : Int), v9 = .int .i64 x9_2 ∧ Aside0 (syntagmlaw15_LookEmpty.l1 kq true t258 x9_2 = some r) ∧ Aside0 (kq ≤ k1) ∧ Aside0 (Kd.S k74 74 w' w.heap.size (fun _ => True) v259 t258) ∧ Aside0 (w'.heap[gb255]? = some (.cells #[(.slice A0_0 l0_0.length c0_0), (.slice A0_1 l0_1.length c0_1), (.slice A0_2 l0_2.length c0_2), (.slice A0_3 l0_3.length c0_3), .int .i64 a0_4] 27 (0, 0))) ∧ Aside0 (Below w.heap.size w w'))
       case atStart => exact ⟨(0), (by first | rfl | (simp; done) | (simp [*]; done)), H', ⟨Nat.le_refl _⟩, ⟨by (with_reducible repeat (first | apply Kd.S_alloc | apply Kd.S_drewN | apply Kd.S_drew)); exact HO_5.out⟩, ⟨by (with_reducible repeat (first | refine blk_drewN ?_ _ | refine blk_drew ?_ | refine blk_alloc ?_ _)); exact BK255.out⟩, ⟨by repeat (first | (with_reducible first | exact HB.out | apply below_alloc | apply pw_below_drewN | apply below_drew1 | refine below_set ?_ GE255.out) | exact HB.out)⟩⟩
       case round =>
        clear H'
        try clear c1
        try clear q1
        try clear c2
        try clear p2
        try clear q2
        try clear hx2
        try clear c3
        try clear c5
        try clear p6
        try clear c7
        try clear c7b0
        try clear c7b1
        try clear c9
        try clear c17
        try clear c17b0
        try clear c18
        try clear c18b0
        try clear q19
        try clear c20
        try clear c22
        try clear hcz11_0
        try clear hcz11_1
        try clear hcz11_2
        try clear hcz11_3
        try clear hcz11_4
        try clear hcz13_0
        try clear hcz13_1
        try clear hcz13_2
        try clear hcz13_3
        try clear hcz13_4
        try clear hcz15_0
        try clear hcz15_1
        try clear hcz15_2
        try clear hcz15_3
        try clear hcz15_4
        try clear hfz11_0
        try clear hfz11_1
        try clear hfz11_2
        try clear hfz11_3
        try clear hfz11_4
        try clear hfz13_0
        try clear hfz13_1
        try clear hfz13_2
        try clear hfz13_3
        try clear hfz13_4
        try clear hfz15_0
        try clear hfz15_1
        try clear hfz15_2
        try clear hfz15_3
        try clear hfz15_4
        try clear hx265_0
        try clear p2
        try clear p265
        try clear q265
        obtain ⟨x9_2, rfl, HA, HK2, HO_5, BK255, HB⟩ := hrel
        cases gk with
        | zero => exact absurd HA.out (by simp [syntagmlaw15_LookEmpty.l1])
        | succ k2 =>
         have H := HA.out
         clear HA
         simp only [syntagmlaw15_LookEmpty.l1] at H
         by_cases c24 : x9_2 < (t258.length : Int)
         ·rw [if_pos c24] at H
          have c24b0 : decide (x9_2 < (t258.length : Int)) = true := decide_eq_true c24
          clear c24
          have H' := Aside0.mk H
          clear H
          obtain ⟨Ao25, co25, eo25⟩ := Kd.S_slice HO_5.out
          subst eo25
          go_wp2
          go_loopg [10] k2 (fun kq v10 w' => ∃ (x10_3 : Int), v10 = .int .i64 x10_3 ∧ Aside0 (syntagmlaw15_LookEmpty.l2 kq true t258 x9_2 x10_3 = some r) ∧ Aside0 (kq ≤ k2) ∧ Aside0 (Kd.S k74 74 w' w.heap.size (fun _ => True) (.slice Ao25 t258.length co25) t258) ∧ Aside0 (w'.heap[gb255]? = some (.cells #[(.slice A0_0 l0_0.length c0_0), (.slice A0_1 l0_1.length c0_1), (.slice A0_2 l0_2.length c0_2), (.slice A0_3 l0_3.length c0_3), .int .i64 a0_4] 27 (0, 0))) ∧ Aside0 (Below w.heap.size w w'))
          case atStart => exact ⟨(0), (by first | rfl | (simp; done) | (simp [*]; done)), H', ⟨Nat.le_refl _⟩, ⟨by (with_reducible repeat (first | apply Kd.S_alloc | apply Kd.S_drewN | apply Kd.S_drew)); exact HO_5.out⟩, ⟨by (with_reducible repeat (first | refine blk_drewN ?_ _ | refine blk_drew ?_ | refine blk_alloc ?_ _)); exact BK255.out⟩, ⟨by repeat (first | (with_reducible first | exact HB.out | apply below_alloc | apply pw_below_drewN | apply below_drew1 | refine below_set ?_ GE255.out) | exact HB.out)⟩⟩
          case round =>
           clear H'
           try clear c1
           try clear q1
           try clear c2
           try clear p2
           try clear q2
           try clear hx2
           try clear c3
           try clear c5
           try clear p6
           try clear c7
           try clear c7b0
           try clear c7b1
           try clear c9
           try clear c17
           try clear c17b0
           try clear c18
           try clear c18b0
           try clear q19
           try clear c20
           try clear c22
           try clear c24
           try clear c24b0
           try clear hcz11_0
           try clear hcz11_1
           try clear hcz11_2
           try clear hcz11_3
           try clear hcz11_4
           try clear hcz13_0
           try clear hcz13_1
           try clear hcz13_2
           try clear hcz13_3
           try clear hcz13_4
           try clear hcz15_0
           try clear hcz15_1
           try clear hcz15_2
           try clear hcz15_3
           try clear hcz15_4
           try clear hfz11_0
           try clear hfz11_1
           try clear hfz11_2
           try clear hfz11_3
           try clear hfz11_4
           try clear hfz13_0
           try clear hfz13_1
           try clear hfz13_2
           try clear hfz13_3
           try clear hfz13_4
           try clear hfz15_0
           try clear hfz15_1
           try clear hfz15_2
           try clear hfz15_3
           try clear hfz15_4
           try clear hx265_0
           try clear p2
           try clear p265
           try clear p6
           try clear q1
           try clear q19
           try clear q2
           try clear q265
           obtain ⟨x10_3, rfl, HA, HK3, HO_5, BK255, HB⟩ := hrel
           cases gk with
           | zero => exact absurd HA.out (by simp [syntagmlaw15_LookEmpty.l2])
           | succ k3 =>
            have H := HA.out
            clear HA
            simp only [syntagmlaw15_LookEmpty.l2] at H
            by_cases c26 : 0 ≤ x9_2
            ·rw [if_pos c26] at H
             have c26b0 : decide (0 ≤ x9_2) = true := decide_eq_true c26
             clear c26
             by_cases c27 : x9_2 < (t258.length : Int)
             ·rw [if_pos c27] at H
              have c27b0 : decide (x9_2 < (t258.length : Int)) = true := decide_eq_true c27
              clear c27
              by_cases c28 : x10_3 < (((rd_T74 t258 x9_2).f1).length : Int)
              ·rw [if_pos c28] at H
               have c28b0 : decide (x10_3 < (((rd_T74 t258 x9_2).f1).length : Int)) = true := decide_eq_true c28
               clear c28
               by_cases c29 : 0 ≤ x10_3
               ·rw [if_pos c29] at H
                have c29b0 : decide (0 ≤ x10_3) = true := decide_eq_true c29
                clear c29
                by_cases c30 : (rd ((rd_T74 t258 x9_2).f1) x10_3) = 0
                ·rw [if_pos c30] at H
                 have c30b0 : ((rd ((rd_T74 t258 x9_2).f1) x10_3) == 0) = true := beq_iff_eq.mpr c30
                 have c30b1 : ((rd ((rd_T74 t258 x9_2).f1) x10_3) != 0) = false := bne_eq_false_iff_eq.mpr c30
                 clear c30
                 exact absurd ((Option.some.inj H).trans HT.out) (by decide)
                ·rw [if_neg c30] at H
                 have c30b0 : ((rd ((rd_T74 t258 x9_2).f1) x10_3) == 0) = false := beq_eq_false_iff_ne.mpr c30
                 have c30b1 : ((rd ((rd_T74 t258 x9_2).f1) x10_3) != 0) = true := bne_iff_ne.mpr c30
                 have H' := Aside0.mk H
                 clear H
                 have p266 : 0 ≤ (x9_2 : Int) := of_decide_eq_true (by first | (with_reducible assumption) | assumption)
                 have q266 : x9_2 < (t258.length : Int) := of_decide_eq_true (by first | (with_reducible assumption) | assumption)
                 obtain ⟨ad266, A266_0, c266_0, A266_1, c266_1, e266, hx266_0, hx266_1, hl266_0, hi266_0, hl266_1, hi266_1⟩ := at_T74 (Kd.S_reads' HO_5.out).2.2 x9_2 p266 q266
                 cases e266
                 obtain ⟨ce266, hce266, hMe266, hcc266⟩ := Kd.S_get HO_5.out z74 x9_2 p266 (by first | exact q266 | exact of_decide_eq_true (by first | (with_reducible assumption) | assumption) | (have e_ := (Kd.S_reads' HO_5.out).1; omega))
                 obtain ⟨ve266_0, ve266_1, rfl, ge266_0, ge266_1⟩ := k74_openM hMe266
                 have hv266_0 := hcc266 0 _ rfl
                 rw [Nat.add_zero] at hv266_0
                 replace hv266_0 := Option.some.inj (hv266_0.symm.trans hx266_0)
                 rw [hv266_0] at ge266_0
                 have HL266_0 := Aside0.mk (show Kd.R k37 37 _ _ _ _ ((rd_T74 t258 x9_2).f0) from ge266_0)
                 clear hv266_0 ge266_0
                 have hv266_1 := hcc266 1 _ rfl
                 rw [add_field _ _ 1 (by omega)] at hv266_1
                 replace hv266_1 := Option.some.inj (hv266_1.symm.trans hx266_1)
                 rw [hv266_1] at ge266_1
                 have HL266_1 := Aside0.mk (show Kd.R (Kd.int .u64) 76 _ _ _ _ ((rd_T74 t258 x9_2).f1) from ge266_1)
                 clear hv266_1 ge266_1
                 clear hcc266 hce266
                 have HR266_0 := Aside0.mk hi266_0
                 have HC266_0 := Aside0.mk hl266_0
                 clear hi266_0 hl266_0
                 have HR266_1 := Aside0.mk hi266_1
                 have HC266_1 := Aside0.mk hl266_1
                 clear hi266_1 hl266_1
                 replace p266 := eq_true p266
                 replace q266 := eq_true q266
                 have p267 : 0 ≤ (x9_2 : Int) := of_decide_eq_true (by first | (with_reducible assumption) | assumption)
                 have q267 : x9_2 < (t258.length : Int) := of_decide_eq_true (by first | (with_reducible assumption) | assumption)
                 obtain ⟨ad267, A267_0, c267_0, A267_1, c267_1, e267, hx267_0, hx267_1, hl267_0, hi267_0, hl267_1, hi267_1⟩ := at_T74 (Kd.S_reads' HO_5.out).2.2 x9_2 p267 q267
                 obtain rfl : ad266 = ad267 := (by injection e267)
                 obtain ⟨ce267, hce267, hMe267, hcc267⟩ := Kd.S_get HO_5.out z74 x9_2 p267 (by first | exact q267 | exact of_decide_eq_true (by first | (with_reducible assumption) | assumption) | (have e_ := (Kd.S_reads' HO_5.out).1; omega))
                 obtain ⟨ve267_0, ve267_1, rfl, ge267_0, ge267_1⟩ := k74_openM hMe267
                 have hv267_0 := hcc267 0 _ rfl
                 rw [Nat.add_zero] at hv267_0
                 replace hv267_0 := Option.some.inj (hv267_0.symm.trans hx267_0)
                 rw [hv267_0] at ge267_0
                 have HL267_0 := Aside0.mk (show Kd.R k37 37 _ _ _ _ ((rd_T74 t258 x9_2).f0) from ge267_0)
                 clear hv267_0 ge267_0
                 have hv267_1 := hcc267 1 _ rfl
                 rw [add_field _ _ 1 (by omega)] at hv267_1
                 replace hv267_1 := Option.some.inj (hv267_1.symm.trans hx267_1)
                 rw [hv267_1] at ge267_1
                 have HL267_1 := Aside0.mk (show Kd.R (Kd.int .u64) 76 _ _ _ _ ((rd_T74 t258 x9_2).f1) from ge267_1)
                 clear hv267_1 ge267_1
                 clear hcc267 hce267
                 have HR267_0 := Aside0.mk hi267_0
                 have HC267_0 := Aside0.mk hl267_0
                 clear hi267_0 hl267_0
                 have HR267_1 := Aside0.mk hi267_1
                 have HC267_1 := Aside0.mk hl267_1
                 clear hi267_1 hl267_1
                 replace p267 := eq_true p267
                 replace q267 := eq_true q267
                 have ea_ := Option.some.inj (hx266_0.symm.trans hx267_0)
                 injection ea_ with ea_ en_ ec_
                 subst ea_
                 subst ec_
                 clear en_
                 have ea_ := Option.some.inj (hx266_1.symm.trans hx267_1)
                 injection ea_ with ea_ en_ ec_
                 subst ea_
                 subst ec_
                 clear en_
                 have p268 : 0 ≤ (x10_3 : Int) := of_decide_eq_true (by first | (with_reducible assumption) | assumption)
                 have q268 : x10_3 < (((rd_T74 t258 x9_2).f1).length : Int) := of_decide_eq_true (by first | (with_reducible assumption) | assumption)
                 obtain ⟨ad268, e268, hx268_0⟩ := Kd.at_int (by repeat (first | (with_reducible exact HR267_1.out) | (with_reducible refine Kd.C_alloc ?_ _) | (with_reducible refine Kd.C_drewN ?_ _) | (with_reducible refine Kd.C_drew ?_) | exact HR267_1.out)) x10_3 p268 q268
                 cases e268
                 replace p268 := eq_true p268
                 replace q268 := eq_true q268
                 go_wp2
                 go_roundg k3
                 case measure => have := HK1.out; have := HK2.out; have := HK3.out; omega
                 case rel => exact ⟨(wrap64 (x10_3 + 1)), (by first | rfl | (simp; done) | (simp [*]; done)), H', ⟨by have := HK1.out; have := HK2.out; have := HK3.out; omega⟩, ⟨by (with_reducible repeat (first | apply Kd.S_alloc | apply Kd.S_drewN | apply Kd.S_drew)); exact HO_5.out⟩, ⟨by (with_reducible repeat (first | refine blk_drewN ?_ _ | refine blk_drew ?_ | refine blk_alloc ?_ _)); exact BK255.out⟩, ⟨by repeat (first | (with_reducible first | exact HB.out | apply below_alloc | apply pw_below_drewN | apply below_drew1 | refine below_set ?_ GE255.out) | exact HB.out)⟩⟩
               ·rw [if_neg c29] at H
                exact absurd H (by simp)
              ·rw [if_neg c28] at H
               have c28b0 : decide (x10_3 < (((rd_T74 t258 x9_2).f1).length : Int)) = false := decide_eq_false c28
               clear c28
               have H' := Aside0.mk H
               clear H
               have p266 : 0 ≤ (x9_2 : Int) := of_decide_eq_true (by first | (with_reducible assumption) | assumption)
               have q266 : x9_2 < (t258.length : Int) := of_decide_eq_true (by first | (with_reducible assumption) | assumption)
               obtain ⟨ad266, A266_0, c266_0, A266_1, c266_1, e266, hx266_0, hx266_1, hl266_0, hi266_0, hl266_1, hi266_1⟩ := at_T74 (Kd.S_reads' HO_5.out).2.2 x9_2 p266 q266
               cases e266
               obtain ⟨ce266, hce266, hMe266, hcc266⟩ := Kd.S_get HO_5.out z74 x9_2 p266 (by first | exact q266 | exact of_decide_eq_true (by first | (with_reducible assumption) | assumption) | (have e_ := (Kd.S_reads' HO_5.out).1; omega))
               obtain ⟨ve266_0, ve266_1, rfl, ge266_0, ge266_1⟩ := k74_openM hMe266
               have hv266_0 := hcc266 0 _ rfl
               rw [Nat.add_zero] at hv266_0
               replace hv266_0 := Option.some.inj (hv266_0.symm.trans hx266_0)
               rw [hv266_0] at ge266_0
               have HL266_0 := Aside0.mk (show Kd.R k37 37 _ _ _ _ ((rd_T74 t258 x9_2).f0) from ge266_0)
               clear hv266_0 ge266_0
               have hv266_1 := hcc266 1 _ rfl
               rw [add_field _ _ 1 (by omega)] at hv266_1
               replace hv266_1 := Option.some.inj (hv266_1.symm.trans hx266_1)
               rw [hv266_1] at ge266_1
               have HL266_1 := Aside0.mk (show Kd.R (Kd.int .u64) 76 _ _ _ _ ((rd_T74 t258 x9_2).f1) from ge266_1)
               clear hv266_1 ge266_1
               clear hcc266 hce266
               have HR266_0 := Aside0.mk hi266_0
               have HC266_0 := Aside0.mk hl266_0
               clear hi266_0 hl266_0
               have HR266_1 := Aside0.mk hi266_1
               have HC266_1 := Aside0.mk hl266_1
               clear hi266_1 hl266_1
               replace p266 := eq_true p266
               replace q266 := eq_true q266
               go_wp2
               go_roundg k3
               case measure => have := HK1.out; have := HK2.out; have := HK3.out; omega
               case rel => exact ⟨(wrap64 (x9_2 + 1)), (by first | rfl | (simp; done) | (simp [*]; done)), H', ⟨by have := HK1.out; have := HK2.out; have := HK3.out; omega⟩, ⟨by (with_reducible repeat (first | apply Kd.S_alloc | apply Kd.S_drewN | apply Kd.S_drew)); exact HO_5.out⟩, ⟨by (with_reducible repeat (first | refine blk_drewN ?_ _ | refine blk_drew ?_ | refine blk_alloc ?_ _)); exact BK255.out⟩, ⟨by repeat (first | (with_reducible first | exact HB.out | apply below_alloc | apply pw_below_drewN | apply below_drew1 | refine below_set ?_ GE255.out) | exact HB.out)⟩⟩
             ·rw [if_neg c27] at H
              exact absurd H (by simp)
            ·rw [if_neg c26] at H
             exact absurd H (by simp)
         ·rw [if_neg c24] at H
          have c24b0 : decide (x9_2 < (t258.length : Int)) = false := decide_eq_false c24
          clear c24
          obtain rfl := Option.some.inj H
          obtain ⟨Ao31, co31, eo31⟩ := Kd.S_slice HO_5.out
          subst eo31
          go_wp2
          go_ret
          exact ⟨by first | rfl | (simp [errW_none, errW_some] <;> rfl) | (simp [*, errW_none, errW_some] <;> rfl), by repeat (first | (with_reducible first | exact HB.out | apply below_alloc | apply pw_below_drewN | apply below_drew1 | refine below_set ?_ GE255.out) | exact HB.out)⟩
   ·rw [if_neg c7] at H
    have c7b0 : (t261 == 0) = false := beq_eq_false_iff_ne.mpr c7
    have c7b1 : (t261 != 0) = true := bne_iff_ne.mpr c7
    obtain rfl := Option.some.inj H
    go_enter Tryd.func9, Tryd.ntmps9
    go_wp2_with (first | ((with_reducible refine gate_dst (N := 1) rfl ?_); refine box_event ?hg (N := 1) ?hd (cs := #[.slice A0_0 l0_0.length c0_0, .slice A0_1 l0_1.length c0_1, .slice A0_2 l0_2.length c0_2, .slice A0_3 l0_3.length c0_3, .int .i64 a0_4]) (t := 27) ?hr ?_; (case hd => rfl); (case hg => rfl); (case hr => first | (go_simp; done) | (go_simp; rfl)); intro gb255 hg w32 hbox hb; have n0_ := Aside0.mk (below_step (by repeat (first | (with_reducible first | exact HB.out | apply below_alloc | apply pw_below_drewN | apply below_drew1) | exact HB.out)) hb); have n1_ := Aside0.mk (hbox); have n2_ := Aside0.mk ((by rw [hg]; exact (below_size (by repeat (first | (with_reducible first | exact HB.out | apply below_alloc | apply pw_below_drewN | apply below_drew1) | exact HB.out))) : w.heap.size ≤ gb255)); have n3_ := Aside0.mk ((by rw [hg]; exact (below_size (by repeat (first | (with_reducible first | exact HB.out | apply below_alloc | apply pw_below_drewN | apply below_drew1) | exact HB.out))) : w.heap.size ≤ gb255)); clear HB; have HB := n0_; have BK255 := n1_; have GW255 := n2_; have GE255 := n3_; clear n0_ n1_ n2_ n3_; clear hb hbox hg) | ((with_reducible refine gate_callee (f := 27) rfl ?_); refine goesL_ (some 11) rfl rfl Tryd.func27 (by kernel_rfl) rfl #[] rfl (by (try simp only [List.map_toArray, List.map_cons, List.map_nil]); first | done | rfl | (simp only [List.length_drop, List.length_take]; rfl)) ?_; (with_reducible refine (syntagmlaw15_works.calls k  true _ ?side1 ?side2 A2.out).mono ?_); (case side1 => exact GTab.below HG.out (by repeat (first | (with_reducible first | exact HB.out | apply below_alloc | apply pw_below_drewN | apply below_drew1 | refine below_set ?_ GE255.out) | exact HB.out))); (case side2 => rfl); rintro e w33 ⟨rfl, hb⟩; refine ⟨_, rfl, ?_⟩; have n0_ := Aside0.mk (blk_below (g := gb255) (o := .cells #[.slice A0_0 l0_0.length c0_0, .slice A0_1 l0_1.length c0_1, .slice A0_2 l0_2.length c0_2, .slice A0_3 l0_3.length c0_3, .int .i64 a0_4] 27 (0, 0)) (by (with_reducible repeat (first | refine blk_drewN ?_ _ | refine blk_drew ?_ | refine blk_alloc ?_ _)); exact BK255.out) hb); have n1_ := Aside0.mk (below_step (by repeat (first | (with_reducible first | exact HB.out | apply below_alloc | apply pw_below_drewN | apply below_drew1 | refine below_set ?_ GE255.out) | exact HB.out)) hb); clear BK255; clear HB; have BK255 := n0_; have HB := n1_; clear n0_ n1_; (try clear hb); (try clear hb2); (try clear hk); (try clear hi); have hcz34_0 : w33.cell? ⟨gb255, 0, none⟩ = some (.slice A0_0 l0_0.length c0_0) := (blk_cell BK255.out 0).trans rfl; have hcz34_1 : w33.cell? ⟨gb255, 1, none⟩ = some (.slice A0_1 l0_1.length c0_1) := (blk_cell BK255.out 1).trans rfl; have hcz34_2 : w33.cell? ⟨gb255, 2, none⟩ = some (.slice A0_2 l0_2.length c0_2) := (blk_cell BK255.out 2).trans rfl; have hcz34_3 : w33.cell? ⟨gb255, 3, none⟩ = some (.slice A0_3 l0_3.length c0_3) := (blk_cell BK255.out 3).trans rfl; have hcz34_4 : w33.cell? ⟨gb255, 4, none⟩ = some (.int .i64 a0_4) := (blk_cell BK255.out 4).trans rfl; have hfz34_0 := blk_frozen BK255.out 0; have hfz34_1 := blk_frozen BK255.out 1; have hfz34_2 := blk_frozen BK255.out 2; have hfz34_3 := blk_frozen BK255.out 3; have hfz34_4 := blk_frozen BK255.out 4) | ((with_reducible refine gate_callee (f := 22) rfl ?_); refine goesL_ (some 15) rfl rfl Tryd.func22 (by kernel_rfl) rfl #[.agg #[.slice A0_0 l0_0.length c0_0, .slice A0_1 l0_1.length c0_1, .slice A0_2 l0_2.length c0_2, .slice A0_3 l0_3.length c0_3, .int .i64 a0_4]] rfl (by (try simp only [List.map_toArray, List.map_cons, List.map_nil]); first | done | rfl | (simp only [List.length_drop, List.length_take]; rfl)) ?_; (with_reducible refine (syntagmlaw14_Little.calls k _ _ l0_0 _ _ l0_1 _ _ l0_2 _ _ l0_3 a0_4 true _ ?side1 ?side2 ?side3 ?side4 ?side5 ?side6 ?side7 ?side8 A4.out).mono ?_); (case side1 => repeat (first | exact (Kd.C_below HR0_0.out HB.out) | (with_reducible refine Kd.C_alloc ?_ _) | (with_reducible refine Kd.C_drewN ?_ _) | (with_reducible refine Kd.C_drew ?_))); (case side2 => exact HC0_0.out); (case side3 => repeat (first | exact (Kd.C_below HR0_1.out HB.out) | (with_reducible refine Kd.C_alloc ?_ _) | (with_reducible refine Kd.C_drewN ?_ _) | (with_reducible refine Kd.C_drew ?_))); (case side4 => exact HC0_1.out); (case side5 => repeat (first | exact (Kd.C_below HR0_2.out HB.out) | (with_reducible refine Kd.C_alloc ?_ _) | (with_reducible refine Kd.C_drewN ?_ _) | (with_reducible refine Kd.C_drew ?_))); (case side6 => exact HC0_2.out); (case side7 => repeat (first | exact (Kd.C_below HR0_3.out HB.out) | (with_reducible refine Kd.C_alloc ?_ _) | (with_reducible refine Kd.C_drewN ?_ _) | (with_reducible refine Kd.C_drew ?_))); (case side8 => exact HC0_3.out); rintro e w35 ⟨rfl, hb⟩; refine ⟨_, rfl, ?_⟩; have n0_ := Aside0.mk (blk_below (g := gb255) (o := .cells #[.slice A0_0 l0_0.length c0_0, .slice A0_1 l0_1.length c0_1, .slice A0_2 l0_2.length c0_2, .slice A0_3 l0_3.length c0_3, .int .i64 a0_4] 27 (0, 0)) (by (with_reducible repeat (first | refine blk_drewN ?_ _ | refine blk_drew ?_ | refine blk_alloc ?_ _)); exact BK255.out) hb); have n1_ := Aside0.mk (below_step (by repeat (first | (with_reducible first | exact HB.out | apply below_alloc | apply pw_below_drewN | apply below_drew1 | refine below_set ?_ GE255.out) | exact HB.out)) hb); clear BK255; clear HB; have BK255 := n0_; have HB := n1_; clear n0_ n1_; (try clear hb); (try clear hb2); (try clear hk); (try clear hi); have hcz36_0 : w35.cell? ⟨gb255, 0, none⟩ = some (.slice A0_0 l0_0.length c0_0) := (blk_cell BK255.out 0).trans rfl; have hcz36_1 : w35.cell? ⟨gb255, 1, none⟩ = some (.slice A0_1 l0_1.length c0_1) := (blk_cell BK255.out 1).trans rfl; have hcz36_2 : w35.cell? ⟨gb255, 2, none⟩ = some (.slice A0_2 l0_2.length c0_2) := (blk_cell BK255.out 2).trans rfl; have hcz36_3 : w35.cell? ⟨gb255, 3, none⟩ = some (.slice A0_3 l0_3.length c0_3) := (blk_cell BK255.out 3).trans rfl; have hcz36_4 : w35.cell? ⟨gb255, 4, none⟩ = some (.int .i64 a0_4) := (blk_cell BK255.out 4).trans rfl; have hfz36_0 := blk_frozen BK255.out 0; have hfz36_1 := blk_frozen BK255.out 1; have hfz36_2 := blk_frozen BK255.out 2; have hfz36_3 := blk_frozen BK255.out 3; have hfz36_4 := blk_frozen BK255.out 4) | ((with_reducible refine gate_callee (f := 28) rfl ?_); refine goesL_ (some 21) rfl rfl Tryd.func28 (by kernel_rfl) rfl #[.agg #[.slice A0_0 l0_0.length c0_0, .slice A0_1 l0_1.length c0_1, .slice A0_2 l0_2.length c0_2, .slice A0_3 l0_3.length c0_3, .int .i64 a0_4]] rfl (by (try simp only [List.map_toArray, List.map_cons, List.map_nil]); first | done | rfl | (simp only [List.length_drop, List.length_take]; rfl)) ?_; (with_reducible refine (look_All.calls k _ _ l0_0 _ _ l0_1 _ _ l0_2 _ _ l0_3 a0_4 t258 t261 _ ?side1 ?side2 ?side3 ?side4 ?side5 ?side6 ?side7 ?side8 ?side9 A6.out).mono ?_); (case side1 => exact GTab.below HG.out (by repeat (first | (with_reducible first | exact HB.out | apply below_alloc | apply pw_below_drewN | apply below_drew1 | refine below_set ?_ GE255.out) | exact HB.out))); (case side2 => repeat (first | exact (Kd.C_below HR0_0.out HB.out) | (with_reducible refine Kd.C_alloc ?_ _) | (with_reducible refine Kd.C_drewN ?_ _) | (with_reducible refine Kd.C_drew ?_))); (case side3 => exact HC0_0.out); (case side4 => repeat (first | exact (Kd.C_below HR0_1.out HB.out) | (with_reducible refine Kd.C_alloc ?_ _) | (with_reducible refine Kd.C_drewN ?_ _) | (with_reducible refine Kd.C_drew ?_))); (case side5 => exact HC0_1.out); (case side6 => repeat (first | exact (Kd.C_below HR0_2.out HB.out) | (with_reducible refine Kd.C_alloc ?_ _) | (with_reducible refine Kd.C_drewN ?_ _) | (with_reducible refine Kd.C_drew ?_))); (case side7 => exact HC0_2.out); (case side8 => repeat (first | exact (Kd.C_below HR0_3.out HB.out) | (with_reducible refine Kd.C_alloc ?_ _) | (with_reducible refine Kd.C_drewN ?_ _) | (with_reducible refine Kd.C_drew ?_))); (case side9 => exact HC0_3.out); rintro e w37 ⟨v259, rfl, ho0, hb⟩; refine ⟨_, rfl, ?_⟩; have n0_ := Aside0.mk (Kd.S_lower ho0 (below_size (by repeat (first | (with_reducible first | exact HB.out | apply below_alloc | apply pw_below_drewN | apply below_drew1 | refine below_set ?_ GE255.out) | exact HB.out)))); have n1_ := Aside0.mk (blk_below (g := gb255) (o := .cells #[.slice A0_0 l0_0.length c0_0, .slice A0_1 l0_1.length c0_1, .slice A0_2 l0_2.length c0_2, .slice A0_3 l0_3.length c0_3, .int .i64 a0_4] 27 (0, 0)) (by (with_reducible repeat (first | refine blk_drewN ?_ _ | refine blk_drew ?_ | refine blk_alloc ?_ _)); exact BK255.out) hb); have n2_ := Aside0.mk (below_step (by repeat (first | (with_reducible first | exact HB.out | apply below_alloc | apply pw_below_drewN | apply below_drew1 | refine below_set ?_ GE255.out) | exact HB.out)) hb); clear BK255; clear HB; have HO260 := n0_; have BK255 := n1_; have HB := n2_; clear n0_ n1_ n2_; (try clear hb); (try clear hb2); (try clear hk); (try clear hi); (try clear ho0)))
    go_ret
    exact ⟨by first | rfl | (simp [errW_none, errW_some] <;> rfl) | (simp [*, errW_none, errW_some] <;> rfl), by repeat (first | (with_reducible first | exact HB.out | apply below_alloc | apply pw_below_drewN | apply below_drew1 | refine below_set ?_ GE255.out) | exact HB.out)⟩
  ·replace c5 := Bool.eq_false_iff.mpr c5
   subst c5
   have H1 : (some true) = some r := by rw [if_neg (show ¬ (false = true) by decide)] at H; exact H
   clear H
   have H := H1
   clear H1
   obtain rfl := Option.some.inj H
   go_enter Tryd.func9, Tryd.ntmps9
   go_wp2_with (first | ((with_reducible refine gate_dst (N := 1) rfl ?_); refine box_event ?hg (N := 1) ?hd (cs := #[.slice A0_0 l0_0.length c0_0, .slice A0_1 l0_1.length c0_1, .slice A0_2 l0_2.length c0_2, .slice A0_3 l0_3.length c0_3, .int .i64 a0_4]) (t := 27) ?hr ?_; (case hd => rfl); (case hg => rfl); (case hr => first | (go_simp; done) | (go_simp; rfl)); intro gb255 hg w38 hbox hb; have n0_ := Aside0.mk (below_step (by repeat (first | (with_reducible first | exact HB.out | apply below_alloc | apply pw_below_drewN | apply below_drew1) | exact HB.out)) hb); have n1_ := Aside0.mk (hbox); have n2_ := Aside0.mk ((by rw [hg]; exact (below_size (by repeat (first | (with_reducible first | exact HB.out | apply below_alloc | apply pw_below_drewN | apply below_drew1) | exact HB.out))) : w.heap.size ≤ gb255)); have n3_ := Aside0.mk ((by rw [hg]; exact (below_size (by repeat (first | (with_reducible first | exact HB.out | apply below_alloc | apply pw_below_drewN | apply below_drew1) | exact HB.out))) : w.heap.size ≤ gb255)); clear HB; have HB := n0_; have BK255 := n1_; have GW255 := n2_; have GE255 := n3_; clear n0_ n1_ n2_ n3_; clear hb hbox hg) | ((with_reducible refine gate_callee (f := 27) rfl ?_); refine goesL_ (some 11) rfl rfl Tryd.func27 (by kernel_rfl) rfl #[] rfl (by (try simp only [List.map_toArray, List.map_cons, List.map_nil]); first | done | rfl | (simp only [List.length_drop, List.length_take]; rfl)) ?_; (with_reducible refine (syntagmlaw15_works.calls k  true _ ?side1 ?side2 A2.out).mono ?_); (case side1 => exact GTab.below HG.out (by repeat (first | (with_reducible first | exact HB.out | apply below_alloc | apply pw_below_drewN | apply below_drew1 | refine below_set ?_ GE255.out) | exact HB.out))); (case side2 => rfl); rintro e w39 ⟨rfl, hb⟩; refine ⟨_, rfl, ?_⟩; have n0_ := Aside0.mk (blk_below (g := gb255) (o := .cells #[.slice A0_0 l0_0.length c0_0, .slice A0_1 l0_1.length c0_1, .slice A0_2 l0_2.length c0_2, .slice A0_3 l0_3.length c0_3, .int .i64 a0_4] 27 (0, 0)) (by (with_reducible repeat (first | refine blk_drewN ?_ _ | refine blk_drew ?_ | refine blk_alloc ?_ _)); exact BK255.out) hb); have n1_ := Aside0.mk (below_step (by repeat (first | (with_reducible first | exact HB.out | apply below_alloc | apply pw_below_drewN | apply below_drew1 | refine below_set ?_ GE255.out) | exact HB.out)) hb); clear BK255; clear HB; have BK255 := n0_; have HB := n1_; clear n0_ n1_; (try clear hb); (try clear hb2); (try clear hk); (try clear hi); have hcz40_0 : w39.cell? ⟨gb255, 0, none⟩ = some (.slice A0_0 l0_0.length c0_0) := (blk_cell BK255.out 0).trans rfl; have hcz40_1 : w39.cell? ⟨gb255, 1, none⟩ = some (.slice A0_1 l0_1.length c0_1) := (blk_cell BK255.out 1).trans rfl; have hcz40_2 : w39.cell? ⟨gb255, 2, none⟩ = some (.slice A0_2 l0_2.length c0_2) := (blk_cell BK255.out 2).trans rfl; have hcz40_3 : w39.cell? ⟨gb255, 3, none⟩ = some (.slice A0_3 l0_3.length c0_3) := (blk_cell BK255.out 3).trans rfl; have hcz40_4 : w39.cell? ⟨gb255, 4, none⟩ = some (.int .i64 a0_4) := (blk_cell BK255.out 4).trans rfl; have hfz40_0 := blk_frozen BK255.out 0; have hfz40_1 := blk_frozen BK255.out 1; have hfz40_2 := blk_frozen BK255.out 2; have hfz40_3 := blk_frozen BK255.out 3; have hfz40_4 := blk_frozen BK255.out 4) | ((with_reducible refine gate_callee (f := 22) rfl ?_); refine goesL_ (some 15) rfl rfl Tryd.func22 (by kernel_rfl) rfl #[.agg #[.slice A0_0 l0_0.length c0_0, .slice A0_1 l0_1.length c0_1, .slice A0_2 l0_2.length c0_2, .slice A0_3 l0_3.length c0_3, .int .i64 a0_4]] rfl (by (try simp only [List.map_toArray, List.map_cons, List.map_nil]); first | done | rfl | (simp only [List.length_drop, List.length_take]; rfl)) ?_; (with_reducible refine (syntagmlaw14_Little.calls k _ _ l0_0 _ _ l0_1 _ _ l0_2 _ _ l0_3 a0_4 false _ ?side1 ?side2 ?side3 ?side4 ?side5 ?side6 ?side7 ?side8 A4.out).mono ?_); (case side1 => repeat (first | exact (Kd.C_below HR0_0.out HB.out) | (with_reducible refine Kd.C_alloc ?_ _) | (with_reducible refine Kd.C_drewN ?_ _) | (with_reducible refine Kd.C_drew ?_))); (case side2 => exact HC0_0.out); (case side3 => repeat (first | exact (Kd.C_below HR0_1.out HB.out) | (with_reducible refine Kd.C_alloc ?_ _) | (with_reducible refine Kd.C_drewN ?_ _) | (with_reducible refine Kd.C_drew ?_))); (case side4 => exact HC0_1.out); (case side5 => repeat (first | exact (Kd.C_below HR0_2.out HB.out) | (with_reducible refine Kd.C_alloc ?_ _) | (with_reducible refine Kd.C_drewN ?_ _) | (with_reducible refine Kd.C_drew ?_))); (case side6 => exact HC0_2.out); (case side7 => repeat (first | exact (Kd.C_below HR0_3.out HB.out) | (with_reducible refine Kd.C_alloc ?_ _) | (with_reducible refine Kd.C_drewN ?_ _) | (with_reducible refine Kd.C_drew ?_))); (case side8 => exact HC0_3.out); rintro e w41 ⟨rfl, hb⟩; refine ⟨_, rfl, ?_⟩; have n0_ := Aside0.mk (blk_below (g := gb255) (o := .cells #[.slice A0_0 l0_0.length c0_0, .slice A0_1 l0_1.length c0_1, .slice A0_2 l0_2.length c0_2, .slice A0_3 l0_3.length c0_3, .int .i64 a0_4] 27 (0, 0)) (by (with_reducible repeat (first | refine blk_drewN ?_ _ | refine blk_drew ?_ | refine blk_alloc ?_ _)); exact BK255.out) hb); have n1_ := Aside0.mk (below_step (by repeat (first | (with_reducible first | exact HB.out | apply below_alloc | apply pw_below_drewN | apply below_drew1 | refine below_set ?_ GE255.out) | exact HB.out)) hb); clear BK255; clear HB; have BK255 := n0_; have HB := n1_; clear n0_ n1_; (try clear hb); (try clear hb2); (try clear hk); (try clear hi)))
   go_ret
   exact ⟨by first | rfl | (simp [errW_none, errW_some] <;> rfl) | (simp [*, errW_none, errW_some] <;> rfl), by repeat (first | (with_reducible first | exact HB.out | apply below_alloc | apply pw_below_drewN | apply below_drew1 | refine below_set ?_ GE255.out) | exact HB.out)⟩
 ·replace c3 := Bool.eq_false_iff.mpr c3
  subst c3
  have H1 : (some false) = some r := by rw [if_neg (show ¬ (false = true) by decide)] at H; exact H
  clear H
  have H := H1
  clear H1
  exact absurd ((Option.some.inj H).trans HT.out) (by decide)

end Go.Proofs.YtclollnicbcooaaDoor.P
end

section
set_option linter.unusedVariables false
set_option linter.unusedSimpArgs false
namespace Go.Proofs.YtclollnicbcooaaDoor.Open
open Go Go.RowKit Go.ChangeShapes Go.WideShapes Go.Deep Go.Proofs.YtclollnicbcooaaDoorW.PrintWords

/-- What reads as data of type t is told by the kind d; 'wf': what is known of its numbers and texts. -/
structure Opens (P : Program) (t : TypeId) {α : Type} (d : Kd α) (wf : α → Prop) : Prop where
 sz : P.cellsOf t = d.sz
 down : ∀ {H : Type} {enc : TypeId × Value → H} {w : World} {base : Nat} {spare : Nat → Bool} {held : Bool} {fuel : Nat} {cs : List Value} {x : DataW H × List MemPlace},
  DataW.trod enc P w base spare held fuel t cs = some x → ∃ a : α, d.K w a cs ∧ wf a

variable {P : Program} {t e : TypeId} {α β : Type}

theorem opens_int {k : IntKind} (hc : P.cellsOf t = 1) (ht : P.underlying t = some (.int k)) : Opens P t (Kd.int k) (fun n => (Lit.int k n).wf = true) :=
 ⟨hc, fun h => by
  obtain ⟨n, rfl, _, hw⟩ := DataW.trod_int ht h
  exact ⟨n, rfl, hw⟩⟩
theorem opens_bool (hc : P.cellsOf t = 1) (ht : P.underlying t = some .bool) : Opens P t Kd.bool (fun _ => True) :=
 ⟨hc, fun h => by
  obtain ⟨b, rfl, _⟩ := DataW.trod_bool ht h
  exact ⟨b, rfl, trivial⟩⟩
theorem opens_string (hc : P.cellsOf t = 1) (ht : P.underlying t = some .string) : Opens P t Kd.string (fun s => s.size ≤ maxLen) :=
 ⟨hc, fun h => by
  obtain ⟨s, rfl, _, hs⟩ := DataW.trod_string ht h
  exact ⟨s, rfl, hs⟩⟩

theorem cells_at {w : World} {base n : Nat} {a : Addr} {cs : List Value} (h : w.cells? base a n = some cs) : cs.length = n ∧ ∀ i u, cs[i]? = some u → w.cell? (a.add i) = some u := by
 unfold World.cells? at h
 split at h
 ·have hl := mapM_some_length h
  rw [List.length_range] at hl
  refine ⟨hl, fun i u hu => ?_⟩
  have hi : i < n := by rw [← hl]; exact (List.getElem?_eq_some_iff.1 hu).1
  have := mapM_some_get h i i (by simp [hi])
  rw [this, hu]
 ·cases h

/-- A slice's elements, by the element's law. -/
theorem opens_slice {d : Kd α} {wf : α → Prop} (hc : P.cellsOf t = 1) (ht : P.underlying t = some (.slice e)) (he : Opens P e d wf) : Opens P t (Kd.slice e d) (fun xs => xs.length ≤ 9223372036854775807 ∧ ∀ x ∈ xs, wf x) :=
 ⟨hc, fun {H enc w base spare held fuel cs x} h => by
  rcases open_slice ht h with ⟨rfl, _⟩ | ⟨a, len, cap, m, n, D, Pl, rfl, hb, hl, hm, hmd, _, hel⟩
  ·exact ⟨[], ⟨none, 0, rfl, Nat.le_refl _, rfl, Nat.zero_le _, fun h => absurd h (Nat.lt_irrefl 0)⟩, Nat.zero_le _, fun x hx => by cases hx⟩
  ·have hlm : len ≤ m := by rw [hmd]; split <;> omega
   have hex : ∀ i, i < len → ∃ y : α, ∃ cs', w.cells? base (a.add (i * P.cellsOf e)) (P.cellsOf e) = some cs' ∧ d.K w y cs' ∧ wf y := fun i hi => by
    obtain ⟨cs', h1, h2⟩ := hel i (by omega)
    obtain ⟨y, hk, hw⟩ := he.down h2
    exact ⟨y, cs', h1, hk, hw⟩
   obtain ⟨f, hf⟩ : ∃ f : (i : Nat) → i < len → α, ∀ i hi, ∃ cs', w.cells? base (a.add (i * P.cellsOf e)) (P.cellsOf e) = some cs' ∧ d.K w (f i hi) cs' ∧ wf (f i hi) :=
    ⟨fun i hi => Classical.choose (hex i hi), fun i hi => Classical.choose_spec (hex i hi)⟩
   let xs : List α := List.ofFn (fun i : Fin len => f i.1 i.2)
   have hxl : xs.length = len := by simp [xs]
   refine ⟨xs, ⟨some a, cap, by rw [hxl], by rw [hxl]; exact hl, rfl, by rw [hxl]; unfold maxLen at hm; omega, fun _ => ⟨a, rfl, fun j p hj => ?_⟩⟩, by rw [hxl]; unfold maxLen at hm; omega, fun x hx => ?_⟩
   ·have hjl : j < len := by rw [← hxl]; exact (List.getElem?_eq_some_iff.1 hj).1
    obtain ⟨cs', h1, h2, _⟩ := hf j hjl
    have hp : p = f j hjl := by
     have := (List.getElem?_eq_some_iff.1 hj).2
     rw [← this]
     simp [xs]
    subst hp
    refine ⟨cs', d.K_len h2, h2, fun i u hu => ?_⟩
    have h3 := (cells_at h1).2 i u hu
    rw [Deep.add_add, he.sz] at h3
    exact h3
   ·obtain ⟨i, rfl⟩ := (List.mem_ofFn).1 hx
    exact (hf i.1 i.2).elim fun _ h => h.2.2⟩

/-- A struct's fields from one on. -/
structure OpensFs (P : Program) (fs : List Field) (off : Nat) {α : Type} (d : Kd α) (wf : α → Prop) : Prop where
 down : ∀ {H : Type} {enc : TypeId × Value → H} {w : World} {base : Nat} {spare : Nat → Bool} {held : Bool} {n : Nat} {cs : List Value}, cs.length = off + d.sz →
  (∀ f ∈ fs, ∃ y : DataW H × List MemPlace, DataW.trod enc P w base spare held n f.type ((cs.drop f.offset).take (P.cellsOf f.type)) = some y) → ∃ a : α, d.K w a (cs.drop off) ∧ wf a

theorem fields_one {f : Field} {off : Nat} {d : Kd α} {wf : α → Prop} (ho : f.offset = off) (hf : Opens P f.type d wf) : OpensFs P [f] off d wf :=
 ⟨fun {H enc w base spare held n cs} hl h => by
  obtain ⟨y, hy⟩ := h f (List.mem_singleton.2 rfl)
  rw [ho, hf.sz, List.take_of_length_le (by rw [List.length_drop]; omega)] at hy
  exact hf.down hy⟩
theorem fields_cons {f : Field} {fs : List Field} {off : Nat} {d : Kd α} {d' : Kd β} {wf : α → Prop} {wf' : β → Prop} (ho : f.offset = off) (hf : Opens P f.type d wf) (hr : OpensFs P fs (off + d.sz) d' wf') :
  OpensFs P (f :: fs) off (Kd.pair d d') (fun x => wf x.1 ∧ wf' x.2) :=
 ⟨fun {H enc w base spare held n cs} hl h => by
  have hl' : cs.length = off + (d.sz + d'.sz) := hl
  obtain ⟨y, hy⟩ := h f List.mem_cons_self
  rw [ho, hf.sz] at hy
  obtain ⟨a, ka, wa⟩ := hf.down hy
  obtain ⟨b, kb, wb⟩ := hr.down (by omega) (fun g hg => h g (List.mem_cons_of_mem _ hg))
  refine ⟨(a, b), ⟨_, _, ?_, ka, kb⟩, wa, wb⟩
  rw [← List.drop_drop, List.take_append_drop]⟩

theorem opens_struct {fs : Array Field} {d : Kd α} {wf : α → Prop} {f : β → α} (g : α → β) (hfg : ∀ a, f (g a) = a) (hc : P.cellsOf t = d.sz) (ht : P.underlying t = some (.struct fs)) (hf : OpensFs P fs.toList 0 d wf) :
  Opens P t (Kd.iso d f) (fun b => wf (f b)) :=
 ⟨hc, fun h => by
  obtain ⟨xs, n, rfl, _, hl, hx, hel⟩ := DataW.trod_struct ht h
  obtain ⟨a, ka, wa⟩ := hf.down (by rw [hl, hc]; simp) (fun q hq => by
   obtain ⟨i, hi, rfl⟩ := List.getElem_of_mem hq
   have h1 := hel i (fs.toList[i]) (by simp)
   have hi2 : i < xs.length := by rw [hx]; simpa using hi
   exact ⟨xs[i], by rw [h1]; exact List.getElem?_eq_getElem hi2⟩)
  exact ⟨g a, by show d.K _ (f (g a)) _; rw [hfg]; simpa using ka, by rw [hfg]; exact wa⟩⟩

/-- An array of two. -/
theorem opens_two {d : Kd α} {wf : α → Prop} {f : β → α × α} (g : α × α → β) (hfg : ∀ a, f (g a) = a) (hc : P.cellsOf t = d.sz + d.sz) (ht : P.underlying t = some (.array 2 e)) (he : Opens P e d wf) :
  Opens P t (Kd.iso (Kd.pair d d) f) (fun b => wf (f b).1 ∧ wf (f b).2) :=
 ⟨hc, fun {H enc w base spare held fuel cs x} h => by
  obtain ⟨xs, n, rfl, _, hl, hx, hel⟩ := DataW.trod_array ht h
  have h0 := hel 0 (by omega)
  have h1 := hel 1 (by omega)
  rw [List.getElem?_eq_getElem (by omega)] at h0 h1
  rw [he.sz] at h0 h1
  rw [Nat.zero_mul, List.drop_zero] at h0
  rw [Nat.one_mul, List.take_of_length_le (by rw [List.length_drop]; omega)] at h1
  obtain ⟨a, ka, wa⟩ := he.down h0
  obtain ⟨b, kb, wb⟩ := he.down h1
  refine ⟨g (a, b), ?_, by rw [hfg]; exact ⟨wa, wb⟩⟩
  show (Kd.pair d d).K w (f (g (a, b))) cs
  rw [hfg]
  exact ⟨_, _, (List.take_append_drop _ _).symm, ka, kb⟩⟩

/-- A value of more cells than one is written out. -/
theorem agg_of {v : Value} {cs : List Value} (h : v.cells.toList = cs) (hl : cs.length ≠ 1) : v = .agg cs.toArray := by
 subst h
 cases v <;> first | rfl | exact absurd rfl hl

end Go.Proofs.YtclollnicbcooaaDoor.Open
end

section
set_option linter.unusedVariables false
namespace Go.Proofs.YtclollnicbcooaaDoor.P
open Go.RowKit Go.Proofs.YtclollnicbcooaaDoor.Open Go.Proofs.YtclollnicbcooaaDoorW.PrintWords
def wf82 (x : S82) : Prop := (x.f0.size ≤ maxLen) ∧ ((x.f1.size ≤ maxLen) ∧ ((True) ∧ (((Lit.int .i64 x.f3).wf = true))))
theorem opens82 : Opens Tryd.prog 82 k82 wf82 := opens_struct (fun a => ⟨a.1, a.2.1, a.2.2.1, a.2.2.2⟩) (fun _ => rfl) (by kernel_rfl) Tryd.underlying82 (fields_cons rfl (opens_string (by kernel_rfl) Tryd.underlying9) (fields_cons rfl (opens_string (by kernel_rfl) Tryd.underlying9) (fields_cons rfl (opens_bool (by kernel_rfl) Tryd.underlying4) (fields_one rfl (opens_int (by kernel_rfl) Tryd.underlying3)))))
def wf101 (x : S101) : Prop := ((Lit.int .i64 x.f0).wf = true) ∧ (((Lit.int .i64 x.f1).wf = true))
theorem opens101 : Opens Tryd.prog 101 k101 wf101 := opens_two (fun a => ⟨a.1, a.2⟩) (fun _ => rfl) (by kernel_rfl) Tryd.underlying101 (opens_int (by kernel_rfl) Tryd.underlying3)
def wf64 (x : S64) : Prop := (x.f0.size ≤ maxLen) ∧ (((Lit.int .i64 x.f1).wf = true) ∧ ((x.f2.length ≤ 9223372036854775807 ∧ ∀ y ∈ x.f2, (Lit.int .i64 y).wf = true) ∧ (((Lit.int .i64 x.f3).wf = true))))
theorem opens64 : Opens Tryd.prog 64 k64 wf64 := opens_struct (fun a => ⟨a.1, a.2.1, a.2.2.1, a.2.2.2⟩) (fun _ => rfl) (by kernel_rfl) Tryd.underlying64 (fields_cons rfl (opens_string (by kernel_rfl) Tryd.underlying9) (fields_cons rfl (opens_int (by kernel_rfl) Tryd.underlying3) (fields_cons rfl (opens_slice (by kernel_rfl) Tryd.underlying62 (opens_int (by kernel_rfl) Tryd.underlying29)) (fields_one rfl (opens_int (by kernel_rfl) Tryd.underlying3)))))
def wf27 (x : S27) : Prop := (x.f0.length ≤ 9223372036854775807 ∧ ∀ y ∈ x.f0, wf82 y) ∧ ((x.f1.length ≤ 9223372036854775807 ∧ ∀ y ∈ x.f1, wf101 y) ∧ ((x.f2.length ≤ 9223372036854775807 ∧ ∀ y ∈ x.f2, y.size ≤ maxLen) ∧ ((x.f3.length ≤ 9223372036854775807 ∧ ∀ y ∈ x.f3, wf64 y) ∧ (((Lit.int .i64 x.f4).wf = true)))))
theorem opens27 : Opens Tryd.prog 27 k27 wf27 := opens_struct (fun a => ⟨a.1, a.2.1, a.2.2.1, a.2.2.2.1, a.2.2.2.2⟩) (fun _ => rfl) (by kernel_rfl) Tryd.underlying27 (fields_cons rfl (opens_slice (by kernel_rfl) Tryd.underlying22 opens82) (fields_cons rfl (opens_slice (by kernel_rfl) Tryd.underlying23 opens101) (fields_cons rfl (opens_slice (by kernel_rfl) Tryd.underlying24 (opens_string (by kernel_rfl) Tryd.underlying9)) (fields_cons rfl (opens_slice (by kernel_rfl) Tryd.underlying25 opens64) (fields_one rfl (opens_int (by kernel_rfl) Tryd.underlying3))))))
def wf37 (x : S37) : Prop := ((Lit.int .i64 x.f0).wf = true) ∧ (((Lit.int .i64 x.f1).wf = true))
end Go.Proofs.YtclollnicbcooaaDoor.P
end

section
set_option linter.unusedVariables false
set_option linter.unusedSimpArgs false
namespace Go.Proofs.YtclollnicbcooaaDoor.P
open Go.RowKit Go.Lib Go.Sort Go.Proofs.YtclollnicbcooaaDoorW.PrintWords Go.Proofs.YtclollnicbcooaaDoorW.PrintLast Go.Proofs.YtclollnicbcooaaDoorW.PrintMore St Base Bitty

def holes (F : Spt → Int) (x : Spt) : Nat := ((List.range 64).filter fun b => !tb (F x) b).length
def cnt (U : List Spt) (F : Spt → Int) : Nat := (U.map (holes F)).sum
theorem holes_again {F G : Spt → Int} {x : Spt} (h : ∀ b, tb (F x) b = true → tb (G x) b = true) : (List.range 64).filter (fun b => !tb (G x) b) = ((List.range 64).filter (fun b => !tb (F x) b)).filter (fun b => !tb (G x) b) := by
 rw [List.filter_filter]
 congr 1
 funext b
 cases hg : tb (G x) b
 ·cases hf : tb (F x) b
  ·rfl
  ·rw [h b hf] at hg; cases hg
 ·simp
theorem holes_le {F G : Spt → Int} {x : Spt} (h : ∀ b, tb (F x) b = true → tb (G x) b = true) : holes G x ≤ holes F x := by
 unfold holes
 rw [holes_again h]
 exact List.length_filter_le _ _
theorem holes_lt {F G : Spt → Int} {x : Spt} {b : Nat} (h : ∀ b, tb (F x) b = true → tb (G x) b = true) (hb : b < 64) (h1 : tb (G x) b = true) (h0 : tb (F x) b = false) : holes G x < holes F x := by
 unfold holes
 rw [holes_again h]
 exact List.length_filter_lt_length_iff_exists.2 ⟨b, List.mem_filter.2 ⟨List.mem_range.2 hb, by rw [h0]; rfl⟩, by rw [h1]; simp⟩
theorem holes_64 (F : Spt → Int) (x : Spt) : holes F x ≤ 64 := by
 unfold holes
 exact Nat.le_trans (List.length_filter_le _ _) (by simp)
theorem cnt_cons (x : Spt) (U : List Spt) (F : Spt → Int) : cnt (x :: U) F = holes F x + cnt U F := by simp [cnt]
theorem cnt_64 (F : Spt → Int) : ∀ U : List Spt, cnt U F ≤ 64 * U.length
 | [] => by simp [cnt]
 | x :: U => by
  rw [cnt_cons, List.length_cons]
  have := holes_64 F x
  have := cnt_64 F U
  omega
theorem cnt_le {F G : Spt → Int} (h : ∀ x b, tb (F x) b = true → tb (G x) b = true) : ∀ U : List Spt, cnt U G ≤ cnt U F
 | [] => Nat.le_refl _
 | x :: U => by
  rw [cnt_cons, cnt_cons]
  have := holes_le (h x)
  have := cnt_le h U
  omega
theorem cnt_lt {F G : Spt → Int} (h : ∀ x b, tb (F x) b = true → tb (G x) b = true) {s : Spt} {b : Nat} (hb : b < 64) (h1 : tb (G s) b = true) (h0 : tb (F s) b = false) : ∀ U : List Spt, s ∈ U → cnt U G < cnt U F
 | [], hs => by cases hs
 | x :: U, hs => by
  rw [cnt_cons, cnt_cons]
  rcases List.mem_cons.1 hs with e | hs
  ·subst e
   have := holes_lt (h s) hb h1 h0
   have := cnt_le h U
   omega
  ·have := holes_le (h x)
   have := cnt_lt h hb h1 h0 U hs
   omega
theorem tb_64 {x : Int} (hx : ok x) {b : Nat} (h : tb x b = true) : b < 64 := by
 refine Classical.byContradiction fun hn => ?_
 have h1 : x.toNat < 2 ^ b := Nat.lt_of_lt_of_le (show x.toNat < 2 ^ 64 by have := hx.2; have := hx.1; omega) (Nat.pow_le_pow_right (by decide) (by omega))
 have h2 : x.toNat.testBit b = false := Nat.testBit_lt_two_pow h1
 have h3 : x.toNat.testBit b = true := h
 rw [h2] at h3
 cases h3
theorem tb_ne {x : Int} (hx : ok x) (h : x ≠ 0) : ∃ b, tb x b = true :=
 Classical.byContradiction fun hn => h (Bitty.ext hx ok_zero fun b => by
  rw [tb_zero]
  cases hb : tb x b
  ·rfl
  ·exact absurd ⟨b, hb⟩ hn)
theorem tb_pos {x : Int} {b : Nat} (h : tb x b = true) : x ≠ 0 := fun e => by rw [e, tb_zero] at h; cases h

theorem more_is (U : List Spt) {F : Spt → Int} (q : List Spt) {s : Spt} {t : Int} (hF : ∀ x, ok (F x)) (ht : ok t) (hs : s ∈ U) :
  ∃ G q', moreL F q s t = (G, q') ∧ (∀ x, ok (G x)) ∧ (∀ x b, tb (G x) b = (tb (F x) b || (decide (x = s) && tb t b))) ∧ (∀ x ∈ q, x ∈ q') ∧ (∀ x ∈ q', x ∈ q ∨ x = s) ∧ (∀ x, x ∉ q' → G x = F x) ∧ cnt U G + q'.length ≤ cnt U F + q.length := by
 have ho := or_ok (hF s) ht
 have hb := or_tb (hF s) ht
 unfold moreL
 by_cases h : Go.bits .or .u64 (F s) t = F s
 ·rw [if_pos h]
  refine ⟨F, q, rfl, hF, fun x b => ?_, fun x hx => hx, fun x hx => .inl hx, fun x _ => rfl, Nat.le_refl _⟩
  by_cases hx : x = s
  ·subst hx
   have := hb b
   rw [h] at this
   rw [decide_eq_true rfl, Bool.true_and]
   exact this
  ·rw [decide_eq_false hx, Bool.false_and, Bool.or_false]
 ·rw [if_neg h]
  generalize Go.bits .or .u64 (F s) t = u at *
  have hG : ∀ x b, tb (upd F s u x) b = (tb (F x) b || (decide (x = s) && tb t b)) := fun x b => by
   by_cases hx : x = s
   ·subst hx
    rw [upd_same, hb, decide_eq_true rfl, Bool.true_and]
   ·rw [upd_other F u hx, decide_eq_false hx, Bool.false_and, Bool.or_false]
  have hle : ∀ x b, tb (F x) b = true → tb (upd F s u x) b = true := fun x b e => by rw [hG, e, Bool.true_or]
  refine ⟨upd F s u, q ++ [s], rfl, fun x => ?_, hG, fun x hx => List.mem_append_left _ hx, fun x hx => ?_, fun x hx => ?_, ?_⟩
  ·by_cases hx : x = s
   ·subst hx; rw [upd_same]; exact ho
   ·rw [upd_other F u hx]; exact hF x
  ·rcases List.mem_append.1 hx with hx | hx
   ·exact .inl hx
   ·exact .inr (List.mem_singleton.1 hx)
  ·exact upd_other F u fun e => hx (List.mem_append_right _ (List.mem_singleton.2 e))
  ·obtain ⟨b, h1, h0⟩ : ∃ b, tb u b = true ∧ tb (F s) b = false := Classical.byContradiction fun hn => h (Bitty.ext ho (hF s) fun b => by
    cases hu : tb u b
    ·cases hf : tb (F s) b
     ·rfl
     ·have := hb b
      rw [hu, hf] at this
      cases this
    ·cases hf : tb (F s) b
     ·exact absurd ⟨b, hu, hf⟩ hn
     ·rfl)
   have := cnt_lt hle (tb_64 ho h1) (by rw [upd_same]; exact h1) h0 U hs
   rw [List.length_append, List.length_singleton]
   omega

section
variable {ofF : List Int → Int → Option Int} {ed : Spt → Option (List Edg)} {I : Spt → Prop} {U : List Spt} {Z : Spt → Nat → Prop}
/-- What is asked of an edge. -/
def EdgeOk (ofF : List Int → Int → Option Int) (I : Spt → Prop) (Z : Spt → Nat → Prop) (s : Spt) (e : Edg) : Prop := I e.1 ∧ ∀ v, ok v → ∃ t, ofF e.2 v = some t ∧ ok t ∧ ((∀ b, tb v b = true → Z s b) → ∀ b, tb t b = true → Z e.1 b)
theorem fold_ok (hU : ∀ s, I s → s ∈ U) (hR : ∀ s, I s → rngS s) (s : Spt) : ∀ (es : List Edg) (F : Spt → Int) (q : List Spt), (∀ e ∈ es, EdgeOk ofF I Z s e) → (∀ x, ok (F x)) → (∀ x ∈ q, I x) → (∀ x b, tb (F x) b = true → Z x b) → cnt U F + q.length ≤ 1000000000 →
  ∃ G q', foldE ofF s es (F, q) = some (G, q') ∧ (∀ x, ok (G x)) ∧ (∀ x ∈ q', I x) ∧ (∀ x b, tb (G x) b = true → Z x b) ∧ cnt U G + q'.length ≤ cnt U F + q.length ∧ (∀ x ∈ q, x ∈ q') ∧ (∀ x b, tb (F x) b = true → tb (G x) b = true) ∧ (∀ x, x ∉ q' → G x = F x) ∧ (s ∉ q' → ∀ e ∈ es, ∀ t, ofF e.2 (F s) = some t → ∀ b, tb t b = true → tb (G e.1) b = true)
 | [], F, q, _, hF, hq, hZ, hc => ⟨F, q, rfl, hF, hq, hZ, Nat.le_refl _, fun _ h => h, fun _ _ h => h, fun _ _ => rfl, fun _ e he => by cases he⟩
 | e :: es, F, q, hE, hF, hq, hZ, hc => by
  obtain ⟨hI, hT⟩ := hE e (by simp)
  obtain ⟨t, ht, hto, htz⟩ := hT (F s) (hF s)
  obtain ⟨F1, q1, e1, hF1, hb1, hq1, hq1', hs1, hc1⟩ := more_is U q hF hto (hU _ hI)
  have hle1 : ∀ x b, tb (F x) b = true → tb (F1 x) b = true := fun x b h => by rw [hb1, h, Bool.true_or]
  have hZ1 : ∀ x b, tb (F1 x) b = true → Z x b := fun x b h => by
   rw [hb1, Bool.or_eq_true, Bool.and_eq_true] at h
   rcases h with h | ⟨hx, h⟩
   ·exact hZ x b h
   ·rw [of_decide_eq_true hx]
    exact htz (hZ s) b h
  obtain ⟨G, q', e2, hG, hqI, hZG, hcG, hqq, hle, hsame, hcl⟩ := fold_ok hU hR s es F1 q1 (fun x hx => hE x (by simp [hx])) hF1 (fun x hx => (hq1' x hx).elim (hq x) (fun e => by rw [e]; exact hI)) hZ1 (by omega)
  refine ⟨G, q', ?_, hG, hqI, hZG, by omega, fun x hx => hqq x (hq1 x hx), fun x b h => hle x b (hle1 x b h), fun x hx => (hsame x hx).trans (hs1 x fun h => hx (hqq x h)), fun hs e' he' t' ht' b hb => ?_⟩
  ·unfold foldE
   rw [if_pos ⟨hR _ hI, by simp only; omega⟩, ht, Option.bind_some]
   simp only [e1]
   exact e2
  ·rcases List.mem_cons.1 he' with rfl | he'
   ·rw [ht] at ht'
    obtain rfl := Option.some.inj ht'
    exact hle _ b (by rw [hb1, decide_eq_true rfl, Bool.true_and, hb, Bool.or_true])
   ·have hsF : F1 s = F s := hs1 s fun h => hs (hqq s h)
    exact hcl hs e' he' t' (by rw [hsF]; exact ht') b hb

/-- The queue comes to an end: what is ahead is closed then, and no more than it must be. -/
theorem queue_ok (hU : ∀ s, I s → s ∈ U) (hR : ∀ s, I s → rngS s) (hE : ∀ s, I s → ∃ es, ed s = some es ∧ es.length ≤ 1000000 ∧ ∀ e ∈ es, EdgeOk ofF I Z s e) : ∀ (k : Nat) (F : Spt → Int) (q : List Spt), (∀ x, ok (F x)) → (∀ x ∈ q, I x) → (∀ x b, tb (F x) b = true → Z x b) → cnt U F + q.length ≤ 1000000000 →
  (∀ x, I x → F x ≠ 0 → x ∉ q → ∀ es, ed x = some es → ∀ e ∈ es, ∀ t, ofF e.2 (F x) = some t → ∀ b, tb t b = true → tb (F e.1) b = true) → cnt U F + q.length < k →
  ∃ G, queueF ofF ed k (F, q) = some G ∧ (∀ x, ok (G x)) ∧ (∀ x b, tb (G x) b = true → Z x b) ∧ (∀ x b, tb (F x) b = true → tb (G x) b = true) ∧ (∀ x, I x → G x ≠ 0 → ∀ es, ed x = some es → ∀ e ∈ es, ∀ t, ofF e.2 (G x) = some t → ∀ b, tb t b = true → tb (G e.1) b = true)
 | 0, F, q, _, _, _, _, _, hk => absurd hk (by omega)
 | k + 1, F, [], hF, hq, hZ, hc, hcl, hk => ⟨F, rfl, hF, hZ, fun _ _ h => h, fun x hx h0 => hcl x hx h0 (by simp)⟩
 | k + 1, F, s :: q, hF, hq, hZ, hc, hcl, hk => by
  have hIs := hq s (by simp)
  obtain ⟨es, hes, hl, hok⟩ := hE s hIs
  rw [List.length_cons] at hc hk
  obtain ⟨F1, q1, e1, hF1, hq1, hZ1, hc1, hqq, hle, hsame, hcl1⟩ := fold_ok hU hR s es F q hok hF (fun x hx => hq x (by simp [hx])) hZ (by omega)
  obtain ⟨G, e2, hG, hZG, hleG, hclG⟩ := queue_ok hU hR hE k F1 q1 hF1 hq1 hZ1 (by omega) (fun x hx h0 hxq es' hes' e he t ht b hb => by
   have hxF : F1 x = F x := hsame x hxq
   by_cases hxs : x = s
   ·subst hxs
    rw [hes] at hes'
    obtain rfl := Option.some.inj hes'
    exact hcl1 hxq e he t (by rw [← hxF]; exact ht) b hb
   ·rw [hxF] at ht h0
    exact hle _ b (hcl x hx h0 (fun h => (List.mem_cons.1 h).elim hxs (fun h => hxq (hqq x h))) es' hes' e he t ht b hb)) (by omega)
  refine ⟨G, ?_, hG, hZG, fun x b h => hleG x b (hle x b h), hclG⟩
  rw [queueF]
  -- (the queue is told)
  rw [hes, Option.bind_some, if_pos ⟨hR s hIs, hl⟩, e1, Option.bind_some]
  exact e2
end
end Go.Proofs.YtclollnicbcooaaDoor.P
end

section
namespace Go.Proofs.YtclollnicbcooaaDoor.P
open Go.RowKit Go.Proofs.YtclollnicbcooaaDoorW.PrintWords Go.Proofs.YtclollnicbcooaaDoorW.PrintLast Go.Proofs.YtclollnicbcooaaDoorW.PrintMore
attribute [local go_sem] max2_int min2_int max_two min_two max_three min_three max_four min_four   -- for this text's walks alone
set_option linter.unusedVariables false
set_option linter.unusedSimpArgs false

/-! ### syntagmlaw14_Row: function 14 -/
def syntagmlaw14_Row.l0 : Nat → List (S37) → List (S39) → Int → Option ((List (S39)))
 | 0, _, _, _ => none
 | k + 1, x0, x3, x4 => if x4 < (x0.length : Int) then (if 0 ≤ x4 then (if x3.length < 8796093022208 then (syntagmlaw14_Row.l0 k x0 (x3 ++ [(⟨(rd_T37 x0 x4).f0, (rd_T37 x0 x4).f1⟩ : S39)]) (wrap64 (x4 + 1))) else (none)) else (none)) else (some x3)
def syntagmlaw14_Row.f (k : Nat) (l0 : List (S37)) : Option ((List (S39))) := syntagmlaw14_Row.l0 k l0 ([] : List (S39)) 0
def syntagmlaw14_Row.T5 : Bool × List (List Nat × List Nat) := (true, [([], []), ([], []), ([], []), ([1, 2], [1, 2]), ([3], [3]), ([4], [4]), ([], []), ([], []), ([6, 7], [6, 7]), ([8], [8]), ([9], [9]), ([5, 10], [5, 10]), ([11], [11]), ([0, 12], [0, 12]), ([13, 13, 0, 1, 2, 3, 4, 5, 6, 7, 8, 9, 10, 11, 12, 13], [0, 13])])
def syntagmlaw14_Row.B5 : List Nat := [0, 0, 0, 6, 14, 30, 0, 0, 192, 448, 960, 2046, 4094, 8191, 16383]
/-! ### syntagmref14_Right: function 37 -/
def syntagmref14_Right.f (l0_0 : List (S82)) (l0_1 : List (S101)) (l0_2 : List ByteArray) (l0_3 : List (S64)) (a0_4 : Int) (a1 : Int) : Option (List Int) := if a1 = (-1) then (some (([wrap64 ((-1) - a0_4)] : List Int))) else (if 0 ≤ a1 then (if a1 < (l0_3.length : Int) then (some ((rd_T64 l0_3 a1).f2)) else (none)) else (none))
end Go.Proofs.YtclollnicbcooaaDoor.P
end

section
set_option linter.unusedVariables false
set_option linter.unusedSimpArgs false
namespace Go.Proofs.YtclollnicbcooaaDoor.P
open Go.Proofs.YtclollnicbcooaaDoor.Base Go.RowKit Go.Proofs.YtclollnicbcooaaDoorW.PrintWords Go.Proofs.YtclollnicbcooaaDoorW.PrintLast Go.Proofs.YtclollnicbcooaaDoorW.PrintMore

def bad5 (l0 : List S82) (l2 : List ByteArray) (l3 : List S64) (st : Int) : Bool := decide (60 < l0.length) || decide (60 < l2.length) || decide (120 < l3.length) || decide (st < 0) || decide ((l2.length : Int) ≤ st)
section
variable {l0 : List S82} {l1 : List S101} {l2 : List ByteArray} {l3 : List S64} {st : Int}
theorem RisesTo.down {f : Int → ByteArray} {k n : Nat} (h : RisesTo f k) (hn : n ≤ k) : RisesTo f n := fun i h0 hi => h i h0 (by omega)
end
/-- As a printed function: the answer of symbols within what numbers there are. -/
def syntagmref12_Valid.f (l0 : List S82) (l1 : List S101) (l2 : List ByteArray) (l3 : List S64) (st : Int) : Option Bool :=
 if ∀ p ∈ l3, ∀ s ∈ p.f2, -9223372036854775808 ≤ s ∧ s ≤ 9223372036854775807 then some (validB l0 l1 l2 l3 st) else none
end Go.Proofs.YtclollnicbcooaaDoor.P
end

section
namespace Go.Proofs.YtclollnicbcooaaDoor.P
open Go.RowKit Go.Proofs.YtclollnicbcooaaDoorW.PrintWords Go.Proofs.YtclollnicbcooaaDoorW.PrintLast Go.Proofs.YtclollnicbcooaaDoorW.PrintMore
attribute [local go_sem] max2_int min2_int max_two min_two max_three min_three max_four min_four   -- for this text's walks alone
set_option linter.unusedVariables false
set_option linter.unusedSimpArgs false

/-! ### syntagmref14_Is: function 36 -/
def syntagmref14_Is.f (l0_0 : List (S82)) (l0_1 : List (S101)) (l0_2 : List ByteArray) (l0_3 : List (S64)) (a0_4 : Int) (a1_0 : Int) (a1_1 : Int) : Option (Bool) := (syntagmref12_Valid.f l0_0 l0_1 l0_2 l0_3 a0_4).bind fun t220 => (if t220 = true then (if a1_0 ≥ (-1) then (if a1_0 < (l0_3.length : Int) then (if a1_1 ≥ 0 then ((syntagmref14_Right.f l0_0 l0_1 l0_2 l0_3 a0_4 a1_0).bind fun t221 => (some (decide (a1_1 ≤ (t221.length : Int))))) else (some false)) else (some false)) else (some false)) else (some false))
def syntagmref14_Is.T2 : Bool × List (List Nat × List Nat) := (true, [([], []), ([0], [0]), ([1], [1]), ([2, 1], [1, 2]), ([3, 1], [1, 3]), ([1, 4], [1, 4]), ([5, 1], [5]), ([6], [6]), ([7, 6], [6, 7]), ([6], [6]), ([9, 6], [6, 9]), ([10, 6], [6, 10]), ([8, 11, 6], [6, 8, 11]), ([6, 12], [6, 12]), ([13, 6], [13]), ([14], [14]), ([15, 14], [14, 15]), ([16, 14], [14, 16]), ([14, 17], [14, 17]), ([18, 14], [18]), ([19], [19]), ([20, 19], [19, 20]), ([19], [19]), ([19], [19]), ([23, 19], [19, 23]), ([22, 24, 19, 19], [19, 22, 24]), ([25, 19], [19, 25]), ([21, 26, 19], [19, 21, 26]), ([19, 27], [19, 27]), ([28, 25, 0, 1, 2, 3, 4, 5, 6, 7, 8, 9, 10, 11, 12, 13, 14, 15, 16, 17, 18, 19, 20, 21, 22, 23, 24, 25, 26, 27, 28], [28])])
def syntagmref14_Is.B2 : List Nat := [0, 1, 3, 7, 15, 31, 63, 127, 255, 127, 639, 1663, 4095, 8191, 16383, 32767, 65535, 131071, 262143, 524287, 1048575, 2097151, 1048575, 1048575, 9437183, 30408703, 63963135, 134217727, 268435455, 536870911]
end Go.Proofs.YtclollnicbcooaaDoor.P
end

section
namespace Go.Proofs.YtclollnicbcooaaDoor.P
open Go.RowKit Go.Proofs.YtclollnicbcooaaDoorW.PrintWords Go.Proofs.YtclollnicbcooaaDoorW.PrintLast Go.Proofs.YtclollnicbcooaaDoorW.PrintMore
attribute [local go_sem] max2_int min2_int max_two min_two max_three min_three max_four min_four   -- for this text's walks alone
set_option linter.unusedVariables false
set_option linter.unusedSimpArgs false

/-! ### syntagmref14_Behind: function 16 -/
def syntagmref14_Behind.f (l0_0 : List (S82)) (l0_1 : List (S101)) (l0_2 : List ByteArray) (l0_3 : List (S64)) (a0_4 : Int) (a1_0 : Int) (a1_1 : Int) : Option (Int × Bool) := (syntagmref14_Is.f l0_0 l0_1 l0_2 l0_3 a0_4 a1_0 a1_1).bind fun t226 => (if t226 = true then ((syntagmref14_Right.f l0_0 l0_1 l0_2 l0_3 a0_4 a1_0).bind fun t227 => (if a1_1 ≥ (t227.length : Int) then (some (0, false)) else ((syntagmref14_Right.f l0_0 l0_1 l0_2 l0_3 a0_4 a1_0).bind fun t230 => (if 0 ≤ a1_1 then (if a1_1 < (t230.length : Int) then (some (rd t230 a1_1, true)) else (none)) else (none))))) else (some (0, false)))
def syntagmref14_Behind.T1 : Bool × List (List Nat × List Nat) := (true, [([], []), ([], []), ([0, 1], [0, 1]), ([2], [2]), ([3, 2], [3]), ([4], [4]), ([5, 4], [4, 5]), ([4], [4]), ([4], [4]), ([8, 4], [4, 8]), ([7, 9, 4, 4], [4, 7, 9]), ([10, 4], [4, 10]), ([6, 11, 4], [4, 6, 11]), ([4, 12], [4, 12])])
def syntagmref14_Behind.B1 : List Nat := [0, 0, 3, 7, 15, 31, 63, 31, 31, 287, 927, 1951, 4095, 8191]
def syntagmref14_Behind.T3 : Bool × List (List Nat × List Nat) := (true, [([], []), ([], []), ([1], [1]), ([0, 2], [0, 2]), ([], []), ([4], [4]), ([3, 5], [3, 5]), ([6], [6]), ([7, 3, 0, 1, 2, 3, 4, 5, 6, 7], [7]), ([8, 0, 1, 2, 3, 4, 5, 6, 7, 8], [])])
def syntagmref14_Behind.B3 : List Nat := [0, 0, 2, 7, 0, 16, 63, 127, 255, 511]
end Go.Proofs.YtclollnicbcooaaDoor.P
end

section
namespace Go.Proofs.YtclollnicbcooaaDoor.P
open Go.RowKit Go.Proofs.YtclollnicbcooaaDoorW.PrintWords Go.Proofs.YtclollnicbcooaaDoorW.PrintLast Go.Proofs.YtclollnicbcooaaDoorW.PrintMore
attribute [local go_sem] max2_int min2_int max_two min_two max_three min_three max_four min_four   -- for this text's walks alone
set_option linter.unusedVariables false
set_option linter.unusedSimpArgs false

theorem eqA39 (d : Nat) (w : World) (x0 y0 : Int) (x1 y1 : Int) :
  (Op.equalIn (d + 2) 39 (.agg #[.int .i64 x0, .int .i64 x1]) (.agg #[.int .i64 y0, .int .i64 y1])).run Tryd.prog w = .ok (x0 == y0 && (x1 == y1)) w := by
 refine eqA_of Tryd.underlying39 (by kernel_rfl) ?_
 refine eqf_cons (by rfl) (by go_simp; rfl) (by go_simp; rfl) (by go_simp) ?_
 exact eqf_last (by rfl) (by go_simp; rfl) (by go_simp; rfl) (by go_simp)
end Go.Proofs.YtclollnicbcooaaDoor.P
end

section
namespace Go.Proofs.YtclollnicbcooaaDoor.P
open Go.RowKit Go.Proofs.YtclollnicbcooaaDoorW.PrintWords Go.Proofs.YtclollnicbcooaaDoorW.PrintLast Go.Proofs.YtclollnicbcooaaDoorW.PrintMore
attribute [local go_sem] max2_int min2_int max_two min_two max_three min_three max_four min_four   -- for this text's walks alone
set_option linter.unusedVariables false
set_option linter.unusedSimpArgs false

attribute [local go_sem high] eqA39
/-! ### syntagmref14_Row: function 17 -/
def syntagmref14_Row.l0 : Nat → List (S39) → List (S39) → Int → Option (Bool)
 | 0, _, _, _ => none
 | k + 1, x0, x1, x5 => if x5 < (x0.length : Int) then (if 0 ≤ x5 then (if x5 < (x1.length : Int) then (if (!(((rd_T39 x0 x5).f0) == ((rd_T39 x1 x5).f0)) || (!(((rd_T39 x0 x5).f1) == ((rd_T39 x1 x5).f1)))) = true then (some false) else (syntagmref14_Row.l0 k x0 x1 (wrap64 (x5 + 1)))) else (none)) else (none)) else (some true)
def syntagmref14_Row.f (k : Nat) (l0 : List (S39)) (l1 : List (S39)) : Option (Bool) := if (l0.length : Int) = (l1.length : Int) then (syntagmref14_Row.l0 k l0 l1 0) else (some false)
/-! ### syntagmref14_has: function 39 -/
def syntagmref14_has.l0 : Nat → List (S39) → Int → Int → Int → Option (Bool)
 | 0, _, _, _, _ => none
 | k + 1, x0, x5, x237000, x237001 => if x5 < (x0.length : Int) then (if 0 ≤ x5 then (if (((rd_T39 x0 x5).f0) == x237000 && (((rd_T39 x0 x5).f1) == x237001)) = true then (some true) else (syntagmref14_has.l0 k x0 (wrap64 (x5 + 1)) x237000 x237001)) else (none)) else (some false)
def syntagmref14_has.f (k : Nat) (l0 : List (S39)) (a1_0 : Int) (a1_1 : Int) : Option (Bool) := syntagmref14_has.l0 k l0 0 a1_0 a1_1
/-! ### syntagmref14_less: function 69 -/
def syntagmref14_less.f (a0_0 : Int) (a0_1 : Int) (a1_0 : Int) (a1_1 : Int) : Option (Bool) := if a0_0 < a1_0 then (some true) else (if a0_0 = a1_0 then (some (decide (a0_1 < a1_1))) else (some false))
end Go.Proofs.YtclollnicbcooaaDoor.P
end

section
namespace Go.Proofs.YtclollnicbcooaaDoor.P
open Go.RowKit Go.Proofs.YtclollnicbcooaaDoorW.PrintWords Go.Proofs.YtclollnicbcooaaDoorW.PrintLast Go.Proofs.YtclollnicbcooaaDoorW.PrintMore
attribute [local go_sem] max2_int min2_int max_two min_two max_three min_three max_four min_four   -- for this text's walks alone
set_option linter.unusedVariables false
set_option linter.unusedSimpArgs false

/-! ### syntagmref14_rising: function 40 -/
mutual
def syntagmref14_rising.l0 : Nat → List (S39) → List (S39) → Int → Option ((List (S39)))
 | 0, _, _, _ => none
 | k + 1, x0, x3, x4 => if x4 < (x0.length : Int) then (syntagmref14_rising.l1 k x0 x3 x4 (-1) 0) else (some x3)
def syntagmref14_rising.l1 : Nat → List (S39) → List (S39) → Int → Int → Int → Option ((List (S39)))
 | 0, _, _, _, _, _ => none
 | k + 1, x0, x3, x4, x5, x6 => if x6 < (x0.length : Int) then (if 0 ≤ x6 then ((syntagmref14_has.f k x3 ((rd_T39 x0 x6).f0) ((rd_T39 x0 x6).f1)).bind fun t245 => (if t245 = true then (syntagmref14_rising.l1 k x0 x3 x4 x5 (wrap64 (x6 + 1))) else (if x5 < 0 then (syntagmref14_rising.l1 k x0 x3 x4 x6 (wrap64 (x6 + 1))) else (if 0 ≤ x5 then (if x5 < (x0.length : Int) then ((syntagmref14_less.f ((rd_T39 x0 x6).f0) ((rd_T39 x0 x6).f1) ((rd_T39 x0 x5).f0) ((rd_T39 x0 x5).f1)).bind fun t248 => (if t248 = true then (syntagmref14_rising.l1 k x0 x3 x4 x6 (wrap64 (x6 + 1))) else (syntagmref14_rising.l1 k x0 x3 x4 x5 (wrap64 (x6 + 1))))) else (none)) else (none))))) else (none)) else (if x5 ≥ 0 then (if 0 ≤ x5 then (if x5 < (x0.length : Int) then (if x3.length < 8796093022208 then (syntagmref14_rising.l0 k x0 (x3 ++ [(⟨(rd_T39 x0 x5).f0, (rd_T39 x0 x5).f1⟩ : S39)]) (wrap64 (x4 + 1))) else (none)) else (none)) else (none)) else (syntagmref14_rising.l0 k x0 x3 (wrap64 (x4 + 1))))
end
def syntagmref14_rising.f (k : Nat) (l0 : List (S39)) : Option ((List (S39))) := syntagmref14_rising.l0 k l0 ([] : List (S39)) 0
def syntagmref14_rising.T9 : Bool × List (List Nat × List Nat) := (true, [([], []), ([], []), ([], []), ([1, 2], [1, 2]), ([3], [3]), ([0, 4], [0, 4]), ([5], [5]), ([6, 5], [6]), ([7], [7]), ([8, 7], [7, 8]), ([9, 7, 7], [7, 9]), ([10], [10]), ([10], [10]), ([11, 12, 10], [10, 11, 12]), ([13, 10], [10, 13]), ([10], [10]), ([10], [10]), ([15, 16, 10], [10, 15, 16]), ([17, 10], [10, 17]), ([14, 18, 10, 10], [10, 14, 18]), ([10, 19, 7], [7, 10, 19]), ([7, 20], [7, 20])])
def syntagmref14_rising.B9 : List Nat := [0, 0, 0, 6, 14, 31, 63, 127, 255, 511, 1023, 2047, 2047, 8191, 16383, 2047, 2047, 100351, 231423, 524287, 1048575, 2097151]
end Go.Proofs.YtclollnicbcooaaDoor.P
end

section
namespace Go.Proofs.YtclollnicbcooaaDoor.P
open Go.RowKit Go.Proofs.YtclollnicbcooaaDoorW.PrintWords Go.Proofs.YtclollnicbcooaaDoorW.PrintLast Go.Proofs.YtclollnicbcooaaDoorW.PrintMore
attribute [local go_sem] max2_int min2_int max_two min_two max_three min_three max_four min_four   -- for this text's walks alone
set_option linter.unusedVariables false
set_option linter.unusedSimpArgs false

/-! ### syntagmref14_Close: function 19 -/
mutual
def syntagmref14_Close.l0 : Nat → List (S39) → List (S39) → Int → List (S82) → List (S101) → List ByteArray → List (S64) → Int → Option ((List (S39)))
 | 0, _, _, _, _, _, _, _, _ => none
 | k + 1, x1, x5, x6, x250000, x250001, x250002, x250003, x250004 => if x6 < (x1.length : Int) then (if 0 ≤ x6 then ((syntagmref14_Is.f x250000 x250001 x250002 x250003 x250004 ((rd_T39 x1 x6).f0) ((rd_T39 x1 x6).f1)).bind fun t251 => (if t251 = true then ((syntagmref14_has.f k x5 ((rd_T39 x1 x6).f0) ((rd_T39 x1 x6).f1)).bind fun t253 => (if t253 = true then (syntagmref14_Close.l0 k x1 x5 (wrap64 (x6 + 1)) x250000 x250001 x250002 x250003 x250004) else (if x5.length < 8796093022208 then (syntagmref14_Close.l0 k x1 (x5 ++ [(⟨(rd_T39 x1 x6).f0, (rd_T39 x1 x6).f1⟩ : S39)]) (wrap64 (x6 + 1)) x250000 x250001 x250002 x250003 x250004) else (none)))) else (syntagmref14_Close.l0 k x1 x5 (wrap64 (x6 + 1)) x250000 x250001 x250002 x250003 x250004))) else (none)) else (syntagmref14_Close.l1 k x5 0 x250000 x250001 x250002 x250003 x250004)
def syntagmref14_Close.l1 : Nat → List (S39) → Int → List (S82) → List (S101) → List ByteArray → List (S64) → Int → Option ((List (S39)))
 | 0, _, _, _, _, _, _, _ => none
 | k + 1, x5, x7, x250000, x250001, x250002, x250003, x250004 => if x7 < (x5.length : Int) then (if 0 ≤ x7 then ((syntagmref14_Behind.f x250000 x250001 x250002 x250003 x250004 ((rd_T39 x5 x7).f0) ((rd_T39 x5 x7).f1)).bind fun bt262 => (syntagmref14_Close.l2 k x5 x7 bt262.1 bt262.2 0 x250000 x250001 x250002 x250003 x250004)) else (none)) else ((syntagmref14_rising.f k x5).bind fun t258 => (some t258))
def syntagmref14_Close.l2 : Nat → List (S39) → Int → Int → Bool → Int → List (S82) → List (S101) → List ByteArray → List (S64) → Int → Option ((List (S39)))
 | 0, _, _, _, _, _, _, _, _, _, _ => none
 | k + 1, x5, x7, x8, x9, x10, x250000, x250001, x250002, x250003, x250004 => if x10 < (x250003.length : Int) then (if x9 = true then (syntagmref14_Close.j3 k x5 x7 x8 x9 x10 (decide (x8 < 0)) x250000 x250001 x250002 x250003 x250004) else (syntagmref14_Close.j3 k x5 x7 x8 x9 x10 false x250000 x250001 x250002 x250003 x250004)) else (syntagmref14_Close.j3 k x5 x7 x8 x9 x10 false x250000 x250001 x250002 x250003 x250004)
def syntagmref14_Close.j3 : Nat → List (S39) → Int → Int → Bool → Int → Bool → List (S82) → List (S101) → List ByteArray → List (S64) → Int → Option ((List (S39)))
 | 0, _, _, _, _, _, _, _, _, _, _, _ => none
 | k + 1, x5, x7, x8, x9, x10, x66, x250000, x250001, x250002, x250003, x250004 => if x66 = true then (if 0 ≤ x10 then (if x10 < (x250003.length : Int) then (if ((rd_T64 x250003 x10).f1) = (wrap64 ((-1) - x8)) then ((syntagmref14_has.f k x5 x10 0).bind fun t266 => (if t266 = true then (syntagmref14_Close.l2 k x5 x7 x8 x9 (wrap64 (x10 + 1)) x250000 x250001 x250002 x250003 x250004) else (if x5.length < 8796093022208 then (syntagmref14_Close.l2 k (x5 ++ [(⟨x10, 0⟩ : S39)]) x7 x8 x9 (wrap64 (x10 + 1)) x250000 x250001 x250002 x250003 x250004) else (none)))) else (syntagmref14_Close.l2 k x5 x7 x8 x9 (wrap64 (x10 + 1)) x250000 x250001 x250002 x250003 x250004)) else (none)) else (none)) else (syntagmref14_Close.l1 k x5 (wrap64 (x7 + 1)) x250000 x250001 x250002 x250003 x250004)
end
def syntagmref14_Close.f (k : Nat) (l0_0 : List (S82)) (l0_1 : List (S101)) (l0_2 : List ByteArray) (l0_3 : List (S64)) (a0_4 : Int) (l1 : List (S39)) : Option ((List (S39))) := syntagmref14_Close.l0 k l1 ([] : List (S39)) 0 l0_0 l0_1 l0_2 l0_3 a0_4
def syntagmref14_Close.T5 : Bool × List (List Nat × List Nat) := (true, [([], []), ([], []), ([], []), ([1, 2], [1, 2]), ([3], [3]), ([0, 4], [0, 4]), ([5, 5], [5]), ([6], [6]), ([6], [6]), ([6], [6]), ([8, 9, 6], [6, 8, 9]), ([10, 6], [6, 10]), ([7, 11, 6, 6], [6, 7, 11]), ([12, 6], [6, 12]), ([6, 13], [6, 13])])
def syntagmref14_Close.B5 : List Nat := [0, 0, 0, 6, 14, 31, 63, 127, 127, 127, 895, 1919, 4095, 8191, 16383]
def syntagmref14_Close.T10 : Bool × List (List Nat × List Nat) := (true, [([], []), ([], []), ([], []), ([1, 2], [1, 2]), ([3], [3]), ([0, 4], [0, 4]), ([5], [5]), ([6], [6]), ([6], [6]), ([7, 5, 0, 1, 2, 3, 4, 5, 6, 7], [7]), ([8, 9, 0, 1, 2, 3, 4, 5, 6, 7, 8, 9], [8])])
def syntagmref14_Close.B10 : List Nat := [0, 0, 0, 6, 14, 31, 63, 127, 127, 255, 1023]
end Go.Proofs.YtclollnicbcooaaDoor.P
end

section
namespace Go.Proofs.YtclollnicbcooaaDoor.P
open Go.RowKit Go.Proofs.YtclollnicbcooaaDoorW.PrintWords Go.Proofs.YtclollnicbcooaaDoorW.PrintLast Go.Proofs.YtclollnicbcooaaDoorW.PrintMore
attribute [local go_sem] max2_int min2_int max_two min_two max_three min_three max_four min_four   -- for this text's walks alone
set_option linter.unusedVariables false
set_option linter.unusedSimpArgs false

/-! ### syntagmref14_Step: function 21 -/
def syntagmref14_Step.l0 : Nat → Int → List (S39) → List (S39) → Int → List (S82) → List (S101) → List ByteArray → List (S64) → Int → Option ((List (S39)))
 | 0, _, _, _, _, _, _, _, _, _ => none
 | k + 1, x2, x7, x8, x9, x271000, x271001, x271002, x271003, x271004 => if x9 < (x8.length : Int) then (if 0 ≤ x9 then ((syntagmref14_Behind.f x271000 x271001 x271002 x271003 x271004 ((rd_T39 x8 x9).f0) ((rd_T39 x8 x9).f1)).bind fun bt275 => (if bt275.2 = true then (if bt275.1 = x2 then (if x7.length < 8796093022208 then (syntagmref14_Step.l0 k x2 (x7 ++ [(⟨(rd_T39 x8 x9).f0, wrap64 (((rd_T39 x8 x9).f1) + 1)⟩ : S39)]) x8 (wrap64 (x9 + 1)) x271000 x271001 x271002 x271003 x271004) else (none)) else (syntagmref14_Step.l0 k x2 x7 x8 (wrap64 (x9 + 1)) x271000 x271001 x271002 x271003 x271004)) else (syntagmref14_Step.l0 k x2 x7 x8 (wrap64 (x9 + 1)) x271000 x271001 x271002 x271003 x271004))) else (none)) else ((syntagmref14_rising.f k x7).bind fun t282 => (some t282))
def syntagmref14_Step.f (k : Nat) (l0_0 : List (S82)) (l0_1 : List (S101)) (l0_2 : List ByteArray) (l0_3 : List (S64)) (a0_4 : Int) (l1 : List (S39)) (a2 : Int) : Option ((List (S39))) := (syntagmref14_Close.f k l0_0 l0_1 l0_2 l0_3 a0_4 l1).bind fun t271 => (syntagmref14_Step.l0 k a2 ([] : List (S39)) t271 0 l0_0 l0_1 l0_2 l0_3 a0_4)
def syntagmref14_Step.T6 : Bool × List (List Nat × List Nat) := (true, [([], []), ([], []), ([], []), ([1, 2], [1, 2]), ([3], [3]), ([0, 4], [0, 4]), ([5], [5]), ([6], [6]), ([6], [6]), ([7, 5, 0, 1, 2, 3, 4, 5, 6, 7], [7]), ([8, 9, 0, 1, 2, 3, 4, 5, 6, 7, 8, 9], [8])])
def syntagmref14_Step.B6 : List Nat := [0, 0, 0, 6, 14, 31, 63, 127, 127, 255, 1023]
def syntagmref14_Step.T8 : Bool × List (List Nat × List Nat) := (true, [([], []), ([], []), ([], []), ([1, 2], [1, 2]), ([3], [3]), ([4], [4]), ([], []), ([], []), ([6, 7], [6, 7]), ([8], [8]), ([9], [9]), ([10], [10]), ([5, 11], [5, 11]), ([12], [12]), ([0, 13], [0, 13]), ([14, 14, 0, 1, 2, 3, 4, 5, 6, 7, 8, 9, 10, 11, 12, 13, 14], [0, 14])])
def syntagmref14_Step.B8 : List Nat := [0, 0, 0, 6, 14, 30, 0, 0, 192, 448, 960, 1984, 4094, 8190, 16383, 32767]
end Go.Proofs.YtclollnicbcooaaDoor.P
end

section
set_option linter.unusedVariables false
set_option linter.unusedSimpArgs false
set_option linter.unusedSectionVars false
namespace Go.Proofs.YtclollnicbcooaaDoor.P
open Go.RowKit Go.Proofs.YtclollnicbcooaaDoorW.PrintWords Go.Proofs.YtclollnicbcooaaDoorW.PrintLast Go.Proofs.YtclollnicbcooaaDoorW.PrintMore St

def toJ (x : S39) : Itm := (x.f0, x.f1)
def ofJ (x : Itm) : S39 := ⟨x.1, x.2⟩
theorem wrap_up (i : Nat) (h : i < 9223372036854775807) : wrap64 ((i : Int) + 1) = ((i + 1 : Nat) : Int) := by unfold wrap64; omega

def AtR (l : List S39) (a : Int) (r : Option Itm) : Prop := (a = -1 ∧ r = none) ∨ ∃ (j : Nat) (h : j < l.length), a = (j : Int) ∧ r = some (toJ l[j])
section
variable {l0 : List S82} {l1 : List S101} {l2 : List ByteArray} {l3 : List S64} {st : Int} (h : Fits l2 l3 st) (hv : validB l0 l1 l2 l3 st = true) (hr : ∀ p ∈ l3, ∀ s ∈ p.f2, -9223372036854775808 ≤ s ∧ s ≤ 9223372036854775807)
include h hv hr
end
end Go.Proofs.YtclollnicbcooaaDoor.P
end

section
set_option linter.unusedVariables false
set_option linter.unusedSimpArgs false
set_option linter.unusedSectionVars false
namespace Go.Proofs.YtclollnicbcooaaDoor.P
open Go.RowKit Go.Proofs.YtclollnicbcooaaDoorW.PrintWords Go.Proofs.YtclollnicbcooaaDoorW.PrintLast Go.Proofs.YtclollnicbcooaaDoorW.PrintMore St

section
variable {l0 : List S82} {l1 : List S101} {l2 : List ByteArray} {l3 : List S64} {st : Int} (h : Fits l2 l3 st) (hv : validB l0 l1 l2 l3 st = true) (hr : ∀ p ∈ l3, ∀ s ∈ p.f2, -9223372036854775808 ≤ s ∧ s ≤ 9223372036854775807)
include h hv hr
end

/-! ### of a grammar that may not be -/
section
variable {l0 : List S82} {l1 : List S101} {l2 : List ByteArray} {l3 : List S64} {st : Int} (hv : validB l0 l1 l2 l3 st = false) (hr : ∀ p ∈ l3, ∀ s ∈ p.f2, -9223372036854775808 ≤ s ∧ s ≤ 9223372036854775807)
include hv hr
end
end Go.Proofs.YtclollnicbcooaaDoor.P
end

section
set_option linter.unusedVariables false
set_option linter.unusedSimpArgs false
namespace Go.Proofs.YtclollnicbcooaaDoor.P
open Go.RowKit Go.Proofs.YtclollnicbcooaaDoorW.PrintWords Go.Proofs.YtclollnicbcooaaDoorW.PrintLast Go.Proofs.YtclollnicbcooaaDoorW.PrintMore

theorem few_end (l0 : List S82) (l1 : List S101) (l2 : List ByteArray) (l3 : List S64) (st : Int) (k : Nat) (i : Int) :
  ∃ b, syntagmlaw13_Few.j1 (k + 1) i false l0 l1 l2 l3 st = some b ∧ (b = true → l0.length ≤ 10 ∧ l2.length ≤ 8 ∧ l3.length ≤ 14 ∧ l1.length ≤ 30) := by
 unfold syntagmlaw13_Few.j1
 rw [if_neg (by decide)]
 split
 ·split
  ·split
   ·exact ⟨_, rfl, fun h => by have := of_decide_eq_true h; omega⟩
   ·exact ⟨_, rfl, fun h => by cases h⟩
  ·exact ⟨_, rfl, fun h => by cases h⟩
 ·exact ⟨_, rfl, fun h => by cases h⟩

theorem few_l0 (l0 : List S82) (l1 : List S101) (l2 : List ByteArray) (l3 : List S64) (st : Int) : ∀ (m i : Nat), i + m = 15 → ∀ k, 2 * m + 2 ≤ k →
  ∃ b, syntagmlaw13_Few.l0 k i l0 l1 l2 l3 st = some b ∧ (b = true → l0.length ≤ 10 ∧ l2.length ≤ 8 ∧ l3.length ≤ 14 ∧ l1.length ≤ 30)
 | m, i, hi, 0, hk => by omega
 | m, i, hi, 1, hk => by omega
 | 0, i, hi, k + 2, hk => by
  unfold syntagmlaw13_Few.l0
  have e : decide ((i : Int) < 15) = false := decide_eq_false (by omega)
  rw [e]
  split
  ·exact few_end l0 l1 l2 l3 st k i
  ·exact few_end l0 l1 l2 l3 st k i
 | m + 1, i, hi, k + 2, hk => by
  unfold syntagmlaw13_Few.l0
  have e : decide ((i : Int) < 15) = true := decide_eq_true (by omega)
  rw [e]
  split
  ·unfold syntagmlaw13_Few.j1
   rw [if_pos rfl, if_pos (by omega), if_pos (by assumption)]
   split
   ·exact ⟨_, rfl, fun h => by cases h⟩
   ·have w : wrap64 ((i : Int) + 1) = ((i + 1 : Nat) : Int) := by unfold wrap64; omega
    rw [w]
    exact few_l0 l0 l1 l2 l3 st m (i + 1) (by omega) k (by omega)
  ·exact few_end l0 l1 l2 l3 st k i

theorem few_is (l0 : List S82) (l1 : List S101) (l2 : List ByteArray) (l3 : List S64) (st : Int) (k : Nat) (hk : 32 ≤ k) :
  ∃ b, syntagmlaw13_Few.f k l0 l1 l2 l3 st = some b ∧ (b = true → l0.length ≤ 10 ∧ l2.length ≤ 8 ∧ l3.length ≤ 14 ∧ l1.length ≤ 30) :=
 few_l0 l0 l1 l2 l3 st 15 0 rfl k (by omega)

end Go.Proofs.YtclollnicbcooaaDoor.P
end

section
set_option linter.unusedVariables false
set_option linter.unusedSimpArgs false
set_option linter.unusedSectionVars false
namespace Go.Proofs.YtclollnicbcooaaDoor.P
open Go.RowKit Go.Proofs.YtclollnicbcooaaDoorW.PrintWords Go.Proofs.YtclollnicbcooaaDoorW.PrintLast Go.Proofs.YtclollnicbcooaaDoorW.PrintMore St

theorem i64_range {x : Int} (h : (Lit.int .i64 x).wf = true) : -9223372036854775808 ≤ x ∧ x ≤ 9223372036854775807 := by
 have := bounds_i64 h
 omega
theorem prods_range {x : S27} (h : wf27 x) : ∀ p ∈ x.f3, ∀ s ∈ p.f2, -9223372036854775808 ≤ s ∧ s ≤ 9223372036854775807 :=
 fun p hp s hs => i64_range ((h.2.2.2.1.2 p hp).2.2.1.2 s hs)
theorem okP_of {l3 : List S64} (hr : ∀ p ∈ l3, ∀ s ∈ p.f2, -9223372036854775808 ≤ s ∧ s ≤ 9223372036854775807) : l3.all okP = true :=
 List.all_eq_true.2 fun p hp => List.all_eq_true.2 fun s hs => decide_eq_true (hr p hp s hs).1
theorem rngI_okI {l : List Itm} (h : ∀ x ∈ l, rngI x) : (l.map ofI).all okI = true :=
 List.all_eq_true.2 fun x hx => by
  obtain ⟨y, hy, rfl⟩ := List.mem_map.1 hx
  exact decide_eq_true (h y hy)

/-! ### the program and the document -/
section
variable {l0 : List S82} {l1 : List S101} {l2 : List ByteArray} {l3 : List S64} {st : Int} (hr : ∀ p ∈ l3, ∀ s ∈ p.f2, -9223372036854775808 ≤ s ∧ s ≤ 9223372036854775807)
include hr
theorem close_ok (hv : validB l0 l1 l2 l3 st = true) (l : List S37) (hl : l.length ≤ 1000000) (hok : l.all okI = true) : states_Close.f l0 l1 l2 l3 st l = some ((risen (closedL (gr st l3) (l.map toI))).map ofI) := by
 unfold states_Close.f inst_Valid.f states_closed.f
 rw [hv, Option.bind_some, if_pos rfl, if_pos ⟨rfl, okP_of hr, hl, hok⟩, Option.bind_some]
omit hr in
theorem Behind_ok (hv : validB l0 l1 l2 l3 st = true) (a b : Int) : states_Behind.f l0 l1 l2 l3 st a b = some (match behindL (gr st l3) (a, b) with | some s => (s, true) | none => (0, false)) := by
 unfold states_Behind.f inst_Valid.f
 rw [hv, Option.bind_some, if_pos rfl, behind_is (fits_of hv), Option.bind_some]
 cases behindL (gr st l3) (a, b) <;> rfl
/-- The automaton is built, or has too many states. -/
theorem build_ok (hv : validB l0 l1 l2 l3 st = true) : (∃ R, builtL l0.length l2.length (gr st l3) = some R ∧ states_Build.f l0 l1 l2 l3 st = some (outB R)) := by
 obtain ⟨R, hR⟩ := buildL_ends (Sg (gr st l3)) (symsL l0.length l2.length) 2000 2001 2003 0 [[(-1, 0)]] [] (by omega) (by omega) (by simp)
 refine ⟨R, hR, ?_⟩
 unfold states_Build.f
 rw [if_pos hv, if_pos (okP_of hr)]
 show Option.map outB (builtL l0.length l2.length (gr st l3)) = _
 unfold builtL
 rw [hR]
 rfl
omit hr in
theorem build_not (hv : validB l0 l1 l2 l3 st = false) : states_Build.f l0 l1 l2 l3 st = some ([], [], 1) := by
 unfold states_Build.f
 rw [hv, if_neg (by decide)]
end
theorem built_is {T S : Nat} {g : Gr} {K : List (List Itm)} {N : List (List Int)} (h : builtL T S g = some (some (K, N))) : Built (Sg g) (symsL T S) [(-1, 0)] K N ∧ N.length = K.length :=
 buildL_is (Sg g) (symsL T S) 2000 [(-1, 0)] 2003 [[(-1, 0)]] [] (K, N) (Built.start _ _ _) h
theorem symsL_at (T S j : Nat) (h : j < T + S) : (symsL T S)[j]? = some (if T ≤ j then -1 - ((j : Int) - T) else (j : Int)) := by
 unfold symsL
 by_cases hT : j < T
 ·rw [List.getElem?_append_left (by simpa using hT), List.getElem?_map, List.getElem?_range hT, if_neg (by omega)]
  rfl
 ·rw [List.getElem?_append_right (by simpa using Nat.le_of_not_lt hT), List.length_map, List.length_range, List.getElem?_map, List.getElem?_range (by omega), if_pos (by omega), Option.map_some]
  congr 1
  omega
end Go.Proofs.YtclollnicbcooaaDoor.P
end

section
set_option linter.unusedVariables false
set_option linter.unusedSimpArgs false
namespace Go.Proofs.YtclollnicbcooaaDoor.P
open Go.RowKit Go.Proofs.YtclollnicbcooaaDoorW.PrintWords Go.Proofs.YtclollnicbcooaaDoorW.PrintLast Go.Proofs.YtclollnicbcooaaDoorW.PrintMore St

end Go.Proofs.YtclollnicbcooaaDoor.P
end

section
set_option linter.unusedVariables false
set_option linter.unusedSimpArgs false
set_option linter.unusedSectionVars false
namespace Go.Proofs.YtclollnicbcooaaDoor.P
open Go.RowKit Go.Proofs.YtclollnicbcooaaDoorW.PrintWords Go.Proofs.YtclollnicbcooaaDoorW.PrintLast Go.Proofs.YtclollnicbcooaaDoorW.PrintMore St

theorem little_l0 (x3 : Bool) (l0 : List S82) (l1 : List S101) (l2 : List ByteArray) (l3 : List S64) (st : Int) : ∀ (m i : Nat), i + m = 15 → ∃ b, Ev (fun k => syntagmlaw14_Little.l0 k x3 i l0 l1 l2 l3 st) b
 | 0, i, hi => by
  refine ⟨if x3 = true then decide ((l3.length : Int) ≤ 10) else false, ?_⟩
  have hj : Ev (fun k => syntagmlaw14_Little.j1 k x3 i false l0 l1 l2 l3 st) (if x3 = true then decide ((l3.length : Int) ≤ 10) else false) := by
   refine Ev.step (f := fun _ => some (if x3 = true then decide ((l3.length : Int) ≤ 10) else false)) (fun k => ?_) (Ev.now _)
   rw [syntagmlaw14_Little.j1, if_neg (by decide)]
   split <;> rfl
  refine Ev.step (fun k => ?_) hj
  rw [syntagmlaw14_Little.l0, decide_eq_false (by omega)]
  split <;> rfl
 | m + 1, i, hi => by
  have hw := wrap_up i (by omega)
  by_cases hlt : i < l3.length
  ·by_cases h5 : (((rd_T64 l3 (i : Int)).f2).length : Int) > 5
   ·refine ⟨false, ?_⟩
    have hj : Ev (fun k => syntagmlaw14_Little.j1 k x3 i true l0 l1 l2 l3 st) false := by
     refine Ev.step (f := fun _ => some false) (fun k => ?_) (Ev.now _)
     rw [syntagmlaw14_Little.j1, if_pos rfl, if_pos (by omega), if_pos (by omega), if_pos h5]
    refine Ev.step (fun k => ?_) hj
    rw [syntagmlaw14_Little.l0, if_pos (by omega), decide_eq_true (by omega)]
   ·obtain ⟨b, ih⟩ := little_l0 x3 l0 l1 l2 l3 st m (i + 1) (by omega)
    refine ⟨b, ?_⟩
    have hj : Ev (fun k => syntagmlaw14_Little.j1 k x3 i true l0 l1 l2 l3 st) b := by
     refine Ev.step (fun k => ?_) ih
     rw [syntagmlaw14_Little.j1, if_pos rfl, if_pos (by omega), if_pos (by omega), if_neg h5, hw]
    refine Ev.step (fun k => ?_) hj
    rw [syntagmlaw14_Little.l0, if_pos (by omega), decide_eq_true (by omega)]
  ·refine ⟨if x3 = true then decide ((l3.length : Int) ≤ 10) else false, ?_⟩
   have hj : Ev (fun k => syntagmlaw14_Little.j1 k x3 i false l0 l1 l2 l3 st) (if x3 = true then decide ((l3.length : Int) ≤ 10) else false) := by
    refine Ev.step (f := fun _ => some (if x3 = true then decide ((l3.length : Int) ≤ 10) else false)) (fun k => ?_) (Ev.now _)
    rw [syntagmlaw14_Little.j1, if_neg (by decide)]
    split <;> rfl
   refine Ev.step (fun k => ?_) hj
   rw [syntagmlaw14_Little.l0, if_neg (by omega)]
theorem little_ev (l0 : List S82) (l1 : List S101) (l2 : List ByteArray) (l3 : List S64) (st : Int) : ∃ b, Ev (fun k => syntagmlaw14_Little.f k l0 l1 l2 l3 st) b := by
 obtain ⟨b0, hf, -⟩ := few_is l0 l1 l2 l3 st 32 (Nat.le_refl _)
 obtain ⟨b, hb⟩ := little_l0 b0 l0 l1 l2 l3 st 15 0 rfl
 refine ⟨b, ?_⟩
 unfold syntagmlaw14_Little.f
 exact Ev.bind (f := fun k t => syntagmlaw14_Little.l0 k t 0 l0 l1 l2 l3 st) (Ev.of (fun k => syntagmlaw13_Few.mono _ _ _ _ _ k) hf) hb

theorem rdL17 (N : List (List Int)) (i : Nat) (h : i < N.length) : rd_L17 N (i : Int) = N[i] := by
 unfold rd_L17
 rw [Int.toNat_natCast, List.getD_eq_getElem?_getD, List.getElem?_eq_getElem h]
 rfl
theorem rd_at (l : List Int) (i : Nat) {v : Int} (h : l[i]? = some v) : Go.Proofs.YtclollnicbcooaaDoorW.PrintWords.rd l (i : Int) = v := by
 unfold Go.Proofs.YtclollnicbcooaaDoorW.PrintWords.rd
 rw [Int.toNat_natCast, List.getD_eq_getElem?_getD, h]
 rfl
section
variable {l0 : List S82} {l1 : List S101} {l2 : List ByteArray} {l3 : List S64} {st : Int} (hv : validB l0 l1 l2 l3 st = true) (hr : ∀ p ∈ l3, ∀ s ∈ p.f2, -9223372036854775808 ≤ s ∧ s ≤ 9223372036854775807)
include hv
theorem behind_sym {x : Itm} {t : Int} (hr : ∀ p ∈ l3, ∀ s ∈ p.f2, -9223372036854775808 ≤ s ∧ s ≤ 9223372036854775807) (hb : behindL (gr st l3) x = some t) : -(l2.length : Int) ≤ t ∧ t < l0.length := by
 have hF := fits_of hv
 unfold behindL at hb
 cases hq : rightL (gr st l3) x.1 with
 | none => rw [hq] at hb; cases hb
 | some r =>
  rw [hq] at hb
  simp only at hb
  split at hb
  ·rename_i hx
   injection hb with hb
   have hm : t ∈ r := by
    rw [← hb, List.getD_eq_getElem?_getD, List.getElem?_eq_getElem (by omega)]
    exact List.getElem_mem _
   unfold rightL at hq
   rw [gr_len] at hq
   split at hq
   ·injection hq with hq
    rw [← hq] at hm
    have hm := List.mem_singleton.1 hm
    have h1 := hF.lo; have h2 := hF.hi
    have e : (gr st l3).start = st := rfl
    rw [e] at hm
    omega
   ·split at hq
    ·rename_i h1 h2
     rw [gr_at st l3 x.1 h2.1 h2.2] at hq
     injection hq with hq
     rw [← hq] at hm
     have hin : (rd_T64 l3 x.1) ∈ l3 := by
      unfold rd_T64
      rw [List.getD_eq_getElem?_getD, List.getElem?_eq_getElem (by omega)]
      exact List.getElem_mem _
     have hv2 := hv
     unfold validB at hv2
     simp only [Bool.and_eq_true] at hv2
     have hp := List.all_eq_true.1 hv2.1.1.1.2 _ hin
     unfold prodB at hp
     simp only [Bool.and_eq_true, Bool.not_eq_true'] at hp
     have ho := List.any_eq_false.1 hp.2 t hm
     have hrt := hr _ hin t hm
     have hw : IntKind.i64.wrap (-1 - t) = -1 - t := IntWalk.i64_in _ (by omega)
     unfold oddB inB at ho
     rw [hw] at ho
     simp only [Bool.or_eq_true, Bool.and_eq_true, Bool.not_eq_true', decide_eq_true_eq, Bool.and_eq_false_iff, decide_eq_false_iff_not, not_or, not_and] at ho
     omega
    ·cases hq
  ·cases hb
theorem Sg_none {c : List Itm} {s : Int} (h : ∀ x, behindL (gr st l3) x ≠ some s) : Sg (gr st l3) c s = [] := by
 have e : stepL (gr st l3) (risen (closedL (gr st l3) c)) s = [] := by
  unfold stepL
  rw [List.filterMap_eq_nil_iff]
  intro x _
  rw [if_neg (h x)]
 unfold Sg
 rw [e]
 refine List.eq_nil_iff_forall_not_mem.2 fun x hx => ?_
 have := ((risen_is []).mem x).1 hx
 cases this
theorem built_small {K : List (List Itm)} {N : List (List Int)} (h : Built (Sg (gr st l3)) (symsL l0.length l2.length) [(-1, 0)] K N) : ∀ c ∈ K, c.length ≤ 1562 ∧ ∀ x ∈ c, rngI x := by
 intro c hc
 obtain ⟨j, hj, rfl⟩ := List.mem_iff_getElem.1 hc
 have hx : K[j]? = some K[j] := List.getElem?_eq_getElem hj
 by_cases h0 : j = 0
 ·subst h0
  have := h.first
  rw [hx] at this
  rw [Option.some.inj this]
  refine ⟨by simp, fun x hx => ?_⟩
  rw [List.mem_singleton] at hx
  subst hx
  unfold rngI
  simp only
  omega
 ·obtain ⟨i, d, s, _, _, _, _, e⟩ := h.come j _ hx h0
  rw [e]
  exact Sg_small (fits_of hv) d s
/-- Where it goes. -/
theorem go_is (hr : ∀ p ∈ l3, ∀ s ∈ p.f2, -9223372036854775808 ≤ s ∧ s ≤ 9223372036854775807) {K : List (List Itm)} {N : List (List Int)} (h : Built (Sg (gr st l3)) (symsL l0.length l2.length) [(-1, 0)] K N) {i : Nat} (hi : i < N.length) {c : List Itm} (hc : K[i]? = some c) (s : Int) (hs : -9223372036854775808 ≤ s ∧ s ≤ 9223372036854775807) (Ka : List (List S37)) :
  ∃ q, states_Go.f l0 l1 l2 l3 st Ka N i s = some q ∧ NumOf K (Sg (gr st l3) c s) q := by
 have hT := terms_few hv
 have hS := (fits_of hv).sorts
 obtain ⟨row, hrow, hlen, hg⟩ := h.goes i c hi hc
 rw [symsL_len] at hlen
 have hri : rd_L17 N (i : Int) = row := by
  rw [rdL17 N i hi]
  rw [List.getElem?_eq_getElem hi] at hrow
  exact Option.some.inj hrow
 have nope : (s < -(l2.length : Int) ∨ (l0.length : Int) ≤ s) → NumOf K (Sg (gr st l3) c s) (-1) := fun hn => .inl ⟨Sg_none hv (fun x hx => by have := behind_sym hv hr hx; omega), rfl⟩
 unfold states_Go.f
 rw [hri]
 have hw1 : wrap64 ((-1) - s) = if s < 0 then -1 - s else -1 - s := by
  rw [IntWalk.wrap64_in _ (by omega)]
  split <;> rfl
 by_cases hs0 : s < 0
 ·rw [if_pos hs0, IntWalk.wrap64_in ((-1) - s) (by omega), if_neg (by omega), if_neg (by omega)]
  by_cases hq : -(l2.length : Int) ≤ s
  ·have hw : wrap64 ((l0.length : Int) + (-1 - s)) = (l0.length : Int) + (-1 - s) := IntWalk.wrap64_in _ (by omega)
   obtain ⟨j, hj⟩ : ∃ j : Nat, (l0.length : Int) + (-1 - s) = j := ⟨((l0.length : Int) + (-1 - s)).toNat, by omega⟩
   have hsy := symsL_at l0.length l2.length j (by omega)
   rw [if_pos (by omega), show (-1 - ((j : Int) - l0.length)) = s by omega] at hsy
   obtain ⟨n, hn, hnum⟩ := hg j s hsy
   rw [hw, hj, if_neg (by omega), if_pos (by omega), if_pos (by omega), if_neg (by omega), if_pos (by omega), if_pos (by omega), rd_at row j hn]
   exact ⟨n, rfl, hnum⟩
  ·refine ⟨-1, ?_, nope (.inl (by omega))⟩
   by_cases hw0 : wrap64 ((l0.length : Int) + (-1 - s)) < 0
   ·rw [if_pos hw0]
   ·have hge : wrap64 ((l0.length : Int) + (-1 - s)) ≥ (row.length : Int) := by
     unfold wrap64 at hw0 ⊢
     omega
    rw [if_neg hw0, if_pos (by omega), if_pos (by omega), if_pos hge]
 ·rw [if_neg hs0]
  by_cases hq : s ≥ (l0.length : Int)
  ·rw [if_pos hq]
   exact ⟨-1, rfl, nope (.inr (by omega))⟩
  ·obtain ⟨j, hj⟩ : ∃ j : Nat, s = j := ⟨s.toNat, by omega⟩
   have hsy := symsL_at l0.length l2.length j (by omega)
   rw [if_neg (by omega), ← hj] at hsy
   obtain ⟨n, hn, hnum⟩ := hg j s hsy
   rw [if_neg hq, if_neg (by omega), if_neg (by omega), if_pos (by omega), if_pos (by omega), if_neg (by omega), if_pos (by omega), if_pos (by omega), hj, rd_at row j hn]
   exact ⟨n, rfl, by rw [← hj]; exact hnum⟩
end
end Go.Proofs.YtclollnicbcooaaDoor.P
end

section
set_option linter.unusedVariables false
set_option linter.unusedSimpArgs false
set_option linter.unusedSectionVars false
namespace Go.Proofs.YtclollnicbcooaaDoor.P
open Go.RowKit Go.Lib Go.Sort Go.Proofs.YtclollnicbcooaaDoorW.PrintWords Go.Proofs.YtclollnicbcooaaDoorW.PrintLast Go.Proofs.YtclollnicbcooaaDoorW.PrintMore St Base Bitty

section
variable {l0 : List S82} {l1 : List S101} {l2 : List ByteArray} {l3 : List S64} {st : Int}
theorem sg_has (hv : validB l0 l1 l2 l3 st = true) (c : List Itm) (s : Int) (x : Itm) : x ∈ Sg (gr st l3) c s ↔ Sp (gr st l3) (Cl (gr st l3) (· ∈ c)) s x := by
 unfold Sg
 rw [(risen_is _).mem, stepL_mem]
 have hR := closedL_rise (fits_of hv) c
 exact ⟨fun ⟨y, h1, h2⟩ => ⟨y, (hR.mem y).1 h1, h2⟩, fun ⟨y, h1, h2⟩ => ⟨y, (hR.mem y).2 h1, h2⟩⟩
theorem rightF_is (hv : validB l0 l1 l2 l3 st = true) {p : Int} {r : List Int} (h : rightL (gr st l3) p = some r) : rightF st l3 p = some r := by
 unfold rightL at h
 unfold rightF
 split at h
 ·rename_i hp
  rw [if_pos (by omega), wrap_start (fits_of hv)]
  exact h
 ·split at h
  ·rename_i hp
   rw [gr_len] at hp
   rw [if_neg (by omega), if_pos (by omega)]
   rw [gr_at st l3 p hp.1 hp.2] at h
   exact h
  ·cases h
theorem behind_right {g : Gr} {x : Itm} {sym : Int} (h : behindL g x = some sym) : ∃ r, rightL g x.1 = some r ∧ 0 ≤ x.2 ∧ x.2 < r.length ∧ r = r.take x.2.toNat ++ sym :: r.drop (x.2.toNat + 1) := by
 unfold behindL at h
 cases hr : rightL g x.1 with
 | none => rw [hr] at h; cases h
 | some r =>
  rw [hr] at h
  simp only at h
  split at h
  ·rename_i hx
   injection h with h
   refine ⟨r, rfl, hx.1, hx.2, ?_⟩
   have hlt : x.2.toNat < r.length := by omega
   rw [List.getD_eq_getElem?_getD, List.getElem?_eq_getElem hlt, Option.getD_some] at h
   rw [← h, List.getElem_cons_drop, List.take_append_drop]
  ·cases h
/-- An edge of an item of a state. -/
def isEdge (l3 : List S64) (st : Int) (K : List (List Itm)) (n : Nat) (c : List Itm) (x : Itm) (e : Edg) : Prop := ∃ sym r, behindL (gr st l3) x = some sym ∧ rightL (gr st l3) x.1 = some r ∧ ((∃ t : Nat, K[t]? = some (Sg (gr st l3) c sym) ∧ e = (((t : Int), (x.1, x.2 + 1)), [])) ∨ (sym < 0 ∧ ∃ p : Nat, p < l3.length ∧ (rd_T64 l3 p).f1 = -1 - sym ∧ e = (((n : Int), ((p : Int), 0)), r.drop (x.2.toNat + 1))))
theorem sortsE_mem (i sym : Int) (r : List Int) (m : Nat) (e : Edg) (hs : -60 ≤ sym ∧ sym < 0) : e ∈ sortsE l3 i sym r m ↔ ∃ p : Nat, p < m ∧ (rd_T64 l3 p).f1 = -1 - sym ∧ e = ((i, ((p : Int), 0)), r) := by
 unfold sortsE
 rw [List.mem_map]
 constructor
 ·rintro ⟨p, hp, rfl⟩
  obtain ⟨h1, h2⟩ := List.mem_filter.1 hp
  rw [beq_iff_eq, wrap_neg hs.1 hs.2] at h2
  exact ⟨p, List.mem_range.1 h1, h2, rfl⟩
 ·rintro ⟨p, hp, h2, rfl⟩
  refine ⟨p, List.mem_filter.2 ⟨List.mem_range.2 hp, ?_⟩, rfl⟩
  rw [beq_iff_eq, wrap_neg hs.1 hs.2]
  exact h2
theorem edges_is (hv : validB l0 l1 l2 l3 st = true) (hr : ∀ p ∈ l3, ∀ s ∈ p.f2, -9223372036854775808 ≤ s ∧ s ≤ 9223372036854775807) {K : List (List Itm)} {N : List (List Int)} (hB : Built (Sg (gr st l3)) (symsL l0.length l2.length) [(-1, 0)] K N) (hN : N.length = K.length) {n : Nat} {c : List Itm} (hc : K[n]? = some c) {x : Itm} (hx : Cl (gr st l3) (· ∈ c) x) (Ka : List (List S37)) :
  ∃ es, edgesF l0 l1 l2 l3 st Ka N ((n : Int), x) = some es ∧ es.length ≤ 1000000 ∧ ∀ e, e ∈ es ↔ isEdge l3 st K n c x e := by
 have hF := fits_of hv
 unfold edgesF
 simp only
 rw [Behind_ok hv, Option.bind_some]
 cases hb : behindL (gr st l3) (x.1, x.2) with
 | none =>
  simp only
  refine ⟨[], by simp, by simp, fun e => ⟨fun h => (by cases h), fun ⟨sym, r, h, _⟩ => ?_⟩⟩
  rw [show (x.1, x.2) = x from rfl, h] at hb
  cases hb
 | some sym =>
  simp only
  replace hb : behindL (gr st l3) x = some sym := hb
  have hsy := behind_sym hv hr hb
  have hS := hF.sorts
  obtain ⟨hlo, hhi⟩ := behind_short hF hb
  obtain ⟨hlt, _⟩ := List.getElem?_eq_some_iff.1 hc
  have hT := terms_few hv
  obtain ⟨q, hq, hnum⟩ := go_is hv hr hB (by omega : n < N.length) hc sym (by omega) Ka
  obtain ⟨r, hrr, h0, h1, h2⟩ := behind_right hb
  have hin : (x.1, x.2 + 1) ∈ Sg (gr st l3) c sym := (sg_has hv c sym _).2 ⟨x, hx, hb, rfl⟩
  have hw : IntKind.i64.wrap (x.2 + 1) = x.2 + 1 := IntWalk.i64_in _ (by omega)
  rcases hnum with ⟨e0, _⟩ | ⟨_, t, rfl, ht⟩
  ·rw [e0] at hin; cases hin
  ·rw [if_pos trivial, hq, Option.bind_some, hw]
   have hone : ∀ t' : Nat, K[t']? = some (Sg (gr st l3) c sym) → t' = t := fun t' h => nodup_at hB.apart h ht
   by_cases hn : sym < 0
   ·have hrest : restF st l3 x = some (r.drop (x.2.toNat + 1)) := by
     unfold restF
     rw [if_pos h0, rightF_is hv hrr, Option.bind_some, if_pos (by omega)]
    rw [if_pos hn, hrest]
    refine ⟨_, rfl, ?_, fun e => ?_⟩
    ·rw [List.length_cons]
     have h3 : (sortsE l3 (n : Int) sym (r.drop (x.2.toNat + 1)) l3.length).length ≤ l3.length := by
      unfold sortsE
      rw [List.length_map]
      exact Nat.le_trans (List.length_filter_le _ _) (by simp)
     have := hF.few
     omega
    ·rw [List.mem_cons, sortsE_mem _ _ _ _ _ ⟨by omega, hn⟩]
     constructor
     ·rintro (rfl | ⟨p, hp, h3, rfl⟩)
      ·exact ⟨sym, r, hb, hrr, .inl ⟨t, ht, rfl⟩⟩
      ·exact ⟨sym, r, hb, hrr, .inr ⟨hn, p, hp, h3, rfl⟩⟩
     ·rintro ⟨sym', r', hb', hrr', h⟩
      rw [hb] at hb'
      rw [hrr] at hrr'
      obtain rfl := Option.some.inj hb'
      obtain rfl := Option.some.inj hrr'
      rcases h with ⟨t', ht', rfl⟩ | ⟨_, p, hp, h3, rfl⟩
      ·exact .inl (by rw [hone t' ht'])
      ·exact .inr ⟨p, hp, h3, rfl⟩
   ·rw [if_neg hn]
    refine ⟨_, rfl, by simp, fun e => ?_⟩
    rw [List.mem_singleton]
    constructor
    ·rintro rfl
     exact ⟨sym, r, hb, hrr, .inl ⟨t, ht, rfl⟩⟩
    ·rintro ⟨sym', r', hb', hrr', h⟩
     rw [hb] at hb'
     obtain rfl := Option.some.inj hb'
     rcases h with ⟨t', ht', rfl⟩ | ⟨h3, _⟩
     ·rw [hone t' ht']
     ·exact absurd h3 hn

/-- Ahead of an item there is no more than this. -/
def mayBe (l0 : List S82) (l2 : List ByteArray) (l3 : List S64) (st : Int) (s : Spt) (b : Nat) : Prop := (s.2.1 = -1 → b = 63) ∧ (0 ≤ s.2.1 → tb (rd (wR l0 l2 l3 st) (rd_T64 l3 s.2.1).f1) b = true)
theorem mayBe_edge (h : Order l0 l1 l2 l3 st) {K : List (List Itm)} {n : Nat} {c : List Itm} {x : Itm} (hx : isI (gr st l3) x = true) {e : Edg} (he : isEdge l3 st K n c x e) {v : Int} (hv : ok v) (hz : ∀ b, tb v b = true → mayBe l0 l2 l3 st ((n : Int), x) b) (b : Nat) (hb : tb (oR l0 l2 l3 e.2 v) b = true) : mayBe l0 l2 l3 st e.1 b := by
 obtain ⟨sym, r, h1, h2, he⟩ := he
 rcases he with ⟨t, _, rfl⟩ | ⟨hn, p, hp, h3, rfl⟩
 ·simp only at hb
  rw [oR_nil h v hv] at hb
  exact hz b hb
 ·simp only at hb
  refine ⟨fun hq => by simp only at hq; omega, fun _ => ?_⟩
  simp only
  rw [h3]
  obtain ⟨r', hr', h0, hl, hcut⟩ := behind_right h1
  rw [h2] at hr'
  obtain rfl := Option.some.inj hr'
  unfold rightL at h2
  split at h2
  ·rename_i hq
   injection h2 with h2
   have hx0 : x.2 = 0 := by rw [← h2] at hl; simp at hl; omega
   rw [← h2, hx0] at hb hcut
   have hd : (List.drop ((0 : Int).toNat + 1) [-1 - (gr st l3).start]) = [] := rfl
   rw [hd, oR_nil h v hv] at hb
   have hsym : -1 - st = sym := by simpa [gr] using hcut
   have := (hz b hb).1 hq
   subst this
   rw [← hsym, show (-1 - (-1 - st)) = st by omega]
   exact folR_start h.gram (fR_ok h) h.lo h.hi
  ·split at h2
   ·rename_i hq
    rw [gr_len] at hq
    rw [gr_at st l3 x.1 hq.1 hq.2] at h2
    injection h2 with h2
    simp only at h2
    have hin : (rd_T64 l3 x.1) ∈ l3 := by
     unfold rd_T64
     rw [List.getD_eq_getElem?_getD, List.getElem?_eq_getElem (by omega)]
     exact List.getElem_mem _
    rw [(oR_has h _ v hv).2.2] at hb
    refine folR_closed h.gram (fR_ok h) _ hin _ sym _ (by rw [h2]; exact hcut) hn b ?_
    exact rowB_mono _ _ _ _ _ _ v _ b (fun _ h => h) (fun _ h => h) (fun h4 => (hz b h4).2 hq.1) _ hb
   ·cases h2

/-- A row of a state: its items, and what is ahead of each. -/
def rowOf (g : Gr) (F : Spt → Int) (i : Nat) (c : List Itm) : S74 := ⟨(risen (closedL g c)).map ofI, (risen (closedL g c)).map fun x => F ((i : Int), x)⟩
theorem out_is (hv : validB l0 l1 l2 l3 st = true) (hr : ∀ p ∈ l3, ∀ s ∈ p.f2, -9223372036854775808 ≤ s ∧ s ≤ 9223372036854775807) (F : Spt → Int) : ∀ (K : List (List Itm)) (i : Nat), (∀ c ∈ K, c.length ≤ 1562 ∧ ∀ x ∈ c, rngI x) → i + K.length ≤ 1000000 → outF (states_Close.f l0 l1 l2 l3 st) F i (K.map (·.map ofI)) = some (K.mapIdx fun j c => rowOf (gr st l3) F (i + j) c)
 | [], i, _, _ => rfl
 | c :: K, i, hs, hi => by
  obtain ⟨h1, h2⟩ := hs c (by simp)
  rw [List.length_cons] at hi
  have hC := close_ok hr hv (c.map ofI) (by rw [List.length_map]; omega) (rngI_okI h2)
  rw [map_toI_ofI] at hC
  have hsm := closed_small (fits_of hv) c
  rw [List.map_cons, outF, hC, Option.bind_some, if_pos]
  ·rw [out_is hv hr F K (i + 1) (fun c hc => hs c (by simp [hc])) (by omega), Option.map_some, List.mapIdx_cons]
   congr 2
   ·unfold rowOf
    rw [List.map_map, Nat.add_zero]
    rfl
   ·congr 1
    funext j c
    rw [show i + 1 + j = i + (j + 1) by omega]
  ·refine ⟨fun x hx => ?_, by rw [List.length_map]; omega⟩
   obtain ⟨y, hy, rfl⟩ := List.mem_map.1 hx
   rw [toI_ofI]
   have := isI_rng (fits_of hv) (cl_is _ _ _ ((closedL_rise (fits_of hv) c).mem y |>.1 hy))
   unfold rngS rngN rngI
   simp only
   omega

/-- The spots of an automaton. -/
def Sp0 (l3 : List S64) (st : Int) (K : List (List Itm)) (s : Spt) : Prop := ∃ (n : Nat) (c : List Itm), K[n]? = some c ∧ Cl (gr st l3) (· ∈ c) s.2 ∧ s.1 = (n : Int)
theorem edge_spot (hv : validB l0 l1 l2 l3 st = true) {K : List (List Itm)} {n : Nat} {c : List Itm} (hc : K[n]? = some c) {x : Itm} (hx : Cl (gr st l3) (· ∈ c) x) {e : Edg} (he : isEdge l3 st K n c x e) : Sp0 l3 st K e.1 := by
 obtain ⟨sym, r, h1, h2, he⟩ := he
 rcases he with ⟨t, ht, rfl⟩ | ⟨hn, p, hp, h3, rfl⟩
 ·have hin : (x.1, x.2 + 1) ∈ Sg (gr st l3) c sym := (sg_has hv c sym _).2 ⟨x, hx, h1, rfl⟩
  have h4 := (sg_has hv c sym _).1 hin
  refine ⟨t, _, ht, .base _ hin ?_, rfl⟩
  obtain ⟨r', hr', h0, hl, _⟩ := behind_right h1
  unfold isI
  simp only
  rw [hr']
  exact decide_eq_true ⟨by omega, by omega⟩
 ·refine ⟨n, c, hc, .next x _ hx ?_, rfl⟩
  unfold nexts
  rw [h1]
  simp only
  rw [if_pos hn]
  refine List.mem_filterMap.2 ⟨p, List.mem_range.2 (by rw [gr_len]; exact hp), ?_⟩
  have := gr_at st l3 (p : Int) (by omega) (by omega)
  rw [Int.toNat_natCast] at this
  rw [this]
  simp only
  rw [if_pos h3]

theorem rows_is (h : Order l0 l1 l2 l3 st) (hr : ∀ p ∈ l3, ∀ s ∈ p.f2, -9223372036854775808 ≤ s ∧ s ≤ 9223372036854775807) {K : List (List Itm)} {N : List (List Int)} (hB : Built (Sg (gr st l3)) (symsL l0.length l2.length) [(-1, 0)] K N) (hN : N.length = K.length) (hK : K.length ≤ 2003) :
  ∃ k F, look_rows.f k l0 l1 l2 l3 st (K.map (·.map ofI)) N = some (K.mapIdx fun j c => rowOf (gr st l3) F j c) ∧ (∀ x, ok (F x)) ∧ (∀ s b, tb (F s) b = true → mayBe l0 l2 l3 st s b) ∧ tb (F beg0) 63 = true ∧
   (∀ (n : Nat) (c : List Itm) (x : Itm) (e : Edg), K[n]? = some c → Cl (gr st l3) (· ∈ c) x → F ((n : Int), x) ≠ 0 → isEdge l3 st K n c x e → ∀ b, tb (oR l0 l2 l3 e.2 (F ((n : Int), x))) b = true → tb (F e.1) b = true) := by
 have hv := h.valid
 have hF := fits_of hv
 obtain ⟨U, hUd⟩ : ∃ U : List Spt, U = (List.range K.length).flatMap fun (i : Nat) => (allI (gr st l3)).map fun x => ((i : Int), x) := ⟨_, rfl⟩
 have hUl : U.length ≤ 2003 * 1562 := by
  rw [hUd, List.length_flatMap]
  have : (List.map (fun i : Nat => ((allI (gr st l3)).map fun x => (((i : Int), x) : Spt)).length) (List.range K.length)) = List.replicate K.length (allI (gr st l3)).length := by
   apply List.ext_getElem
   ·simp
   ·intro i h1 h2; simp
  rw [this, List.sum_replicate_nat]
  exact Nat.mul_le_mul hK (allI_len hF)
 have hU : ∀ s, Sp0 l3 st K s → s ∈ U := fun s ⟨n, c, hc, hx, he⟩ => by
  obtain ⟨hlt, _⟩ := List.getElem?_eq_some_iff.1 hc
  rw [hUd]
  exact List.mem_flatMap.2 ⟨n, List.mem_range.2 hlt, List.mem_map.2 ⟨s.2, allI_has _ _ (cl_is _ _ _ hx), by rw [← he]⟩⟩
 have hR : ∀ s, Sp0 l3 st K s → rngS s := fun s ⟨n, c, hc, hx, he⟩ => by
  obtain ⟨hlt, _⟩ := List.getElem?_eq_some_iff.1 hc
  have := isI_rng hF (cl_is _ _ _ hx)
  unfold rngS rngN rngI
  omega
 have hE : ∀ s, Sp0 l3 st K s → ∃ es, edgesF l0 l1 l2 l3 st (K.map (·.map ofI)) N s = some es ∧ es.length ≤ 1000000 ∧ ∀ e ∈ es, EdgeOk (sets_Of.f 61 l0 l1 l2 l3 st) (Sp0 l3 st K) (mayBe l0 l2 l3 st) s e := fun s ⟨n, c, hc, hx, he⟩ => by
  obtain ⟨i, x⟩ := s
  simp only at he hx
  subst he
  obtain ⟨es, h1, h2, h3⟩ := edges_is hv hr hB hN hc hx (K.map (·.map ofI))
  refine ⟨es, h1, h2, fun e he => ⟨edge_spot hv hc hx ((h3 e).1 he), fun v hvv => ⟨_, Of_is h e.2 v hvv 61 (Nat.le_refl _), (oR_has h e.2 v hvv).2.1, fun hz => mayBe_edge h (cl_is _ _ _ hx) ((h3 e).1 he) hvv hz⟩⟩⟩
 have hbeg : Sp0 l3 st K beg0 := ⟨0, [(-1, 0)], hB.first, .base _ (List.mem_singleton.2 rfl) rfl, rfl⟩
 have h63 : ok ((2 ^ 63 : Nat) : Int) := bit_ok 63 (by omega) (by omega)
 obtain ⟨F0, q0, e0, hF0, hb0, -, hq0, hs0, hc0⟩ := more_is U (F := fun _ => 0) [] (s := beg0) (fun _ => ok_zero) h63 (hU _ hbeg)
 have hcz := cnt_64 (fun _ => 0) U
 simp only [List.length_nil, Nat.add_zero] at hc0
 have hF63 : tb (F0 beg0) 63 = true := by rw [hb0, bit_tb]; simp
 obtain ⟨F, hq, hFo, hFz, hFl, hFc⟩ := queue_ok hU hR hE 300000000 F0 q0 hF0 (fun x hx => by rcases hq0 x hx with h1 | rfl; cases h1; exact hbeg) (fun x b hb => by
  rw [hb0, tb_zero, Bool.false_or, Bool.and_eq_true, bit_tb] at hb
  have h1 := of_decide_eq_true hb.1
  have h2 : 63 = b := of_decide_eq_true hb.2
  subst h1
  subst h2
  exact ⟨fun _ => rfl, fun h3 => by simp only [beg0] at h3; omega⟩) (by omega) (fun x hx h0 hxq => by
  have := hs0 x hxq
  exact absurd this h0) (by omega)
 have hmo : ∀ m l b, LeO (sets_Of.f 61 l0 l1 l2 l3 st l b) (sets_Of.f (61 + m) l0 l1 l2 l3 st l b) := fun m l b => by
  induction m with
  | zero => exact fun r hr => hr
  | succ m ih => exact fun r hr => sets_Of.mono _ _ _ _ _ _ _ _ _ (ih r hr)
 have hqm : ∀ {f g : List Int → Int → Option Int} (hfg : ∀ l b, LeO (f l b) (g l b)) (ed : Spt → Option (List Edg)) (k : Nat) (Z : (Spt → Int) × List Spt), LeO (queueF f ed k Z) (queueF g ed k Z) := by
  intro f g hfg ed k
  induction k with
  | zero => exact fun Z r hr => hr
  | succ k ih =>
   rintro ⟨F, q⟩ r hr
   cases q with
   | nil => exact hr
   | cons s q =>
    rw [queueF] at hr ⊢
    -- (the queue is told)
    obtain ⟨es, he, hr⟩ := Option.bind_eq_some_iff.1 hr
    refine Option.bind_eq_some_iff.2 ⟨es, he, ?_⟩
    split at hr
    ·rename_i hg
     rw [if_pos hg]
     obtain ⟨Z, hZ, hr⟩ := Option.bind_eq_some_iff.1 hr
     exact Option.bind_eq_some_iff.2 ⟨Z, foldE_mono hfg s es _ _ hZ, ih Z r hr⟩
    ·cases hr
 refine ⟨300000000, F, ?_, hFo, hFz, hFl _ _ hF63, fun n c x e hc hx h0 he b hb => ?_⟩
 ·unfold look_rows.f
  rw [if_pos ⟨by rw [List.length_map]; omega, by have := hF.few; omega⟩, of_one 300000000 (by omega) 63 (by omega) (by omega), Option.bind_some, show Int.toNat 63 = 63 from rfl, e0]
  have h5 := hqm (fun l b => hmo (300000000 - 61) l b) _ _ _ _ hq
  rw [show 61 + (300000000 - 61) = 300000000 from rfl] at h5
  rw [h5, Option.bind_some, out_is hv hr F K 0 (built_small hv hB) (by omega)]
  simp only [Nat.zero_add]
 ·obtain ⟨es, h1, h2, h3⟩ := edges_is hv hr hB hN hc hx (K.map (·.map ofI))
  exact hFc ((n : Int), x) ⟨n, c, hc, hx, rfl⟩ h0 es h1 e ((h3 e).2 he) _ (Of_is h e.2 _ (hFo _) 61 (Nat.le_refl _)) b hb
end
end Go.Proofs.YtclollnicbcooaaDoor.P
end

section
set_option linter.unusedVariables false
set_option linter.unusedSimpArgs false
set_option linter.unusedSectionVars false
namespace Go.Proofs.YtclollnicbcooaaDoor.P
open Go.RowKit Go.Lib Go.Sort Go.Proofs.YtclollnicbcooaaDoorW.PrintWords Go.Proofs.YtclollnicbcooaaDoorW.PrintLast Go.Proofs.YtclollnicbcooaaDoorW.PrintMore St Base Bitty

section
variable {l0 : List S82} {l1 : List S101} {l2 : List ByteArray} {l3 : List S64} {st : Int} {K : List (List Itm)} {N : List (List Int)} {F : Spt → Int}
theorem nexts_in {y x : Itm} (h : x ∈ nexts (gr st l3) y) : ∃ sym, ∃ p : Nat, behindL (gr st l3) y = some sym ∧ sym < 0 ∧ p < l3.length ∧ (rd_T64 l3 p).f1 = -1 - sym ∧ x = ((p : Int), 0) := by
 unfold nexts at h
 split at h
 ·rename_i sym hb
  split at h
  ·rename_i hn
   obtain ⟨p, hp, hq⟩ := List.mem_filterMap.1 h
   rw [List.mem_range, gr_len] at hp
   have := gr_at st l3 (p : Int) (by omega) (by omega)
   rw [Int.toNat_natCast] at this
   rw [this] at hq
   simp only at hq
   split at hq
   ·rename_i hs
    injection hq with hq
    exact ⟨sym, p, hb, hn, hp, hs, hq.symm⟩
   ·cases hq
  ·cases h
 ·cases h
theorem behind_whole : behindL (gr st l3) (-1, 0) = some (-1 - st) := by simp [behindL, rightL, gr]
theorem right_range (h : Order l0 l1 l2 l3 st) {p : Int} {r : List Int} (hr : rightL (gr st l3) p = some r) : ∀ s ∈ r, -(l2.length : Int) ≤ s ∧ s < l0.length := by
 unfold rightL at hr
 split at hr
 ·injection hr with hr
  intro s hs
  rw [← hr] at hs
  have hs := List.mem_singleton.1 hs
  have e : (gr st l3).start = st := rfl
  rw [e] at hs
  have := h.lo
  have := h.hi
  omega
 ·split at hr
  ·rename_i hq
   rw [gr_len] at hq
   rw [gr_at st l3 p hq.1 hq.2] at hr
   injection hr with hr
   simp only at hr
   have hin : (rd_T64 l3 p) ∈ l3 := by
    unfold rd_T64
    rw [List.getD_eq_getElem?_getD, List.getElem?_eq_getElem (by omega)]
    exact List.getElem_mem _
   rw [← hr]
   exact h.gram.sym _ hin
  ·cases hr
theorem rowB_all (v : Int) (b : Nat) (hb : tb v b = true) : ∀ l : List Int, (∀ s ∈ l, -(l2.length : Int) ≤ s ∧ s < l0.length) → (∀ s ∈ l, s < 0 ∧ rdOf false (eR l2 l3) (-1 - s) = true) → rowB l0.length l2.length (eR l2 l3) (fR l0 l2 l3) v b l = true
 | [], _, _ => hb
 | s :: l, hr, he => by
  have h1 := hr s (by simp)
  obtain ⟨h2, h3⟩ := he s (by simp)
  unfold rowB
  rw [if_neg (by omega), if_neg (by omega), h3, rowB_all v b hb l (fun t ht => hr t (by simp [ht])) (fun t ht => he t (by simp [ht]))]
  simp
/-- Where all sorts live, something is ahead of each row with something behind it. -/
theorem of_some (h : Order l0 l1 l2 l3 st) (hl : ∀ i, i < l2.length → (lR l2 l3).getD i false = true) (l : List Int) (hr : ∀ s ∈ l, -(l2.length : Int) ≤ s ∧ s < l0.length) {v : Int} (hv : ok v) (hne : v ≠ 0) : ∃ b, tb (oR l0 l2 l3 l v) b = true := by
 rcases row_begins l0 l2 l3 l hr (fun s hs hn => lives_begins h (-1 - s).toNat (by have := hr s hs; omega) (hl _ (by have := hr s hs; omega))) with h1 | ⟨b, hb⟩
 ·obtain ⟨b, hb⟩ := tb_ne hv hne
  exact ⟨b, by rw [(oR_has h l v hv).2.2]; exact rowB_all v b hb l hr h1⟩
 ·refine ⟨b, by rw [(oR_has h l v hv).2.2]; exact rowB_mono _ _ _ _ _ _ 0 v b (fun _ h => h) (fun _ h => h) (fun h0 => by rw [tb_zero] at h0; cases h0) l hb⟩

variable (h : Order l0 l1 l2 l3 st) (hB : Built (Sg (gr st l3)) (symsL l0.length l2.length) [(-1, 0)] K N) (hFo : ∀ x, ok (F x)) (hFz : ∀ s b, tb (F s) b = true → mayBe l0 l2 l3 st s b) (hF0 : tb (F beg0) 63 = true)
 (hFc : ∀ (n : Nat) (c : List Itm) (x : Itm) (e : Edg), K[n]? = some c → Cl (gr st l3) (· ∈ c) x → F ((n : Int), x) ≠ 0 → isEdge l3 st K n c x e → ∀ b, tb (oR l0 l2 l3 e.2 (F ((n : Int), x))) b = true → tb (F e.1) b = true)
include h hB hFo hFz hF0 hFc
/-- Ahead of the start's productions is End, in the first state. -/
theorem ahead_begins (x : Itm) (hx : Cl (gr st l3) (· ∈ [((-1, 0) : Itm)]) x) (h0 : 0 ≤ x.1) (hs : (rd_T64 l3 x.1).f1 = st) : tb (F (0, x)) 63 = true := by
 have hst := h.lo
 have hcl := hx
 cases hx with
 | base _ hin hi =>
  have := List.mem_singleton.1 hin
  subst this
  simp only at h0
  omega
 | next y _ _ hy =>
  obtain ⟨_, p, _, _, hp, _, rfl⟩ := nexts_in hy
  refine hFc 0 [(-1, 0)] (-1, 0) ((0, ((p : Int), 0)), []) hB.first (.base _ (List.mem_singleton.2 rfl) rfl) (tb_pos hF0) ⟨-1 - st, [-1 - st], behind_whole, rfl, .inr ⟨by omega, p, hp, by simp only at hs; rw [hs]; omega, rfl⟩⟩ 63 ?_
  rw [oR_nil h _ (hFo _)]
  exact hF0
/-- Where all sorts live, something is ahead of each item. -/
theorem ahead_live (hl : ∀ i, i < l2.length → (lR l2 l3).getD i false = true) : ∀ (n : Nat) (c : List Itm) (x : Itm), K[n]? = some c → Cl (gr st l3) (· ∈ c) x → F ((n : Int), x) ≠ 0 := by
 have hv := h.valid
 intro n
 induction n using Nat.strongRecOn with
 | _ n ih =>
  intro c x hc hx
  induction hx with
  | base x hin hi =>
   by_cases h0 : n = 0
   ·subst h0
    rw [hB.first] at hc
    obtain rfl := Option.some.inj hc
    rw [List.mem_singleton.1 hin]
    exact tb_pos hF0
   ·obtain ⟨i, d, s, hij, _, hd, hs, e⟩ := hB.come n c hc h0
    have hin' := hin
    rw [e] at hin'
    obtain ⟨y, hy, hb, rfl⟩ := (sg_has hv d s _).1 hin'
    have hne := ih i hij d y hd hy
    obtain ⟨b, htb⟩ := tb_ne (hFo _) hne
    obtain ⟨r, hr, _⟩ := behind_right hb
    refine tb_pos (b := b) (hFc i d y (((n : Int), (y.1, y.2 + 1)), []) hd hy hne ⟨s, r, hb, hr, .inl ⟨n, by rw [hc, e], rfl⟩⟩ b ?_)
    rw [oR_nil h _ (hFo _)]
    exact htb
  | next y x hy hn ih2 =>
   obtain ⟨sym, p, hb, hneg, hp, hs, rfl⟩ := nexts_in hn
   obtain ⟨r, hr, _⟩ := behind_right hb
   obtain ⟨b, htb⟩ := of_some h hl (r.drop (y.2.toNat + 1)) (fun s hs => right_range h hr s (List.mem_of_mem_drop hs)) (hFo _) ih2
   exact tb_pos (b := b) (hFc n c y (((n : Int), ((p : Int), 0)), r.drop (y.2.toNat + 1)) hc hy ih2 ⟨sym, r, hb, hr, .inr ⟨hneg, p, hp, hs, rfl⟩⟩ b htb)
end
end Go.Proofs.YtclollnicbcooaaDoor.P
end

section
set_option linter.unusedVariables false
set_option linter.unusedSimpArgs false
set_option linter.unusedSectionVars false
namespace Go.Proofs.YtclollnicbcooaaDoor.P
open Go.RowKit Go.Proofs.YtclollnicbcooaaDoorW.PrintWords Go.Proofs.YtclollnicbcooaaDoorW.PrintLast Go.Proofs.YtclollnicbcooaaDoorW.PrintMore St Bitty

def LRows (g : Gr) (F : Spt → Int) (K : List (List Itm)) : List S74 := K.mapIdx fun j c => rowOf g F j c
theorem rows_len (g : Gr) (F : Spt → Int) (K : List (List Itm)) : (LRows g F K).length = K.length := by unfold LRows; simp
theorem rows_at (g : Gr) (F : Spt → Int) (K : List (List Itm)) (i : Nat) (h : i < K.length) : rd_T74 (LRows g F K) (i : Int) = rowOf g F i K[i] := by
 unfold rd_T74 LRows
 rw [Int.toNat_natCast, List.getD_eq_getElem?_getD, List.getElem?_mapIdx, List.getElem?_eq_getElem h]
 rfl
theorem ahead_at (f : Itm → Int) (C : List Itm) (j : Nat) (h : j < C.length) : Go.Proofs.YtclollnicbcooaaDoorW.PrintWords.rd (C.map f) (j : Int) = f C[j] := by
 unfold Go.Proofs.YtclollnicbcooaaDoorW.PrintWords.rd
 rw [Int.toNat_natCast, List.getD_eq_getElem?_getD, List.getElem?_map, List.getElem?_eq_getElem h]
 rfl
theorem up64 (i : Nat) (h : i ≤ 1000000) : wrap64 ((i : Int) + 1) = ((i + 1 : Nat) : Int) := by
 rw [IntWalk.wrap64_in _ (by omega)]
 rfl
theorem buildL_few (S : List Itm → Int → List Itm) (syms : List Int) (most : Nat) : ∀ (n i : Nat) (K : List (List Itm)) (N : List (List Int)) (R : List (List Itm) × List (List Int)), buildL S syms most n i K N = some (some R) → R.2.length ≤ N.length + n := by
 intro n
 induction n with
 | zero => intro i K N R h; cases h
 | succ n ih =>
  intro i K N R h
  rw [buildL] at h
  split at h
  ·have h := Option.some.inj (Option.some.inj h)
   rw [← h]
   simp only
   omega
  ·split at h
   ·cases h
   ·have := ih _ _ _ _ h
    rw [List.length_append, List.length_singleton] at this
    omega

/-- What is ahead, where a grammar's automaton is built. -/
structure Aheads (l0 : List S82) (l1 : List S101) (l2 : List ByteArray) (l3 : List S64) (st : Int) (K : List (List Itm)) (N : List (List Int)) (F : Spt → Int) : Prop where
 ord : Order l0 l1 l2 l3 st
 bui : Built (Sg (gr st l3)) (symsL l0.length l2.length) [(-1, 0)] K N
 len : N.length = K.length
 few : K.length ≤ 2003
 okF : ∀ x, ok (F x)
 may : ∀ s b, tb (F s) b = true → mayBe l0 l2 l3 st s b
 beg : tb (F beg0) 63 = true
 clo : ∀ (n : Nat) (c : List Itm) (x : Itm) (e : Edg), K[n]? = some c → Cl (gr st l3) (· ∈ c) x → F ((n : Int), x) ≠ 0 → isEdge l3 st K n c x e → ∀ b, tb (oR l0 l2 l3 e.2 (F ((n : Int), x))) b = true → tb (F e.1) b = true
theorem all_cases {l0 : List S82} {l1 : List S101} {l2 : List ByteArray} {l3 : List S64} {st : Int} (hr : ∀ p ∈ l3, ∀ s ∈ p.f2, -9223372036854775808 ≤ s ∧ s ≤ 9223372036854775807) :
  (∃ e, e ≠ 0 ∧ ∀ k, look_All.f k l0 l1 l2 l3 st = some ([], e)) ∨ ∃ K N F, Aheads l0 l1 l2 l3 st K N F ∧ states_Build.f l0 l1 l2 l3 st = some (K.map (·.map ofI), N, 0) ∧ Ev (fun k => look_rows.f k l0 l1 l2 l3 st (K.map (·.map ofI)) N) (LRows (gr st l3) F K) ∧ Ev (fun k => look_All.f k l0 l1 l2 l3 st) (LRows (gr st l3) F K, 0) := by
 cases hv : validB l0 l1 l2 l3 st with
 | false =>
  refine .inl ⟨1, by decide, fun k => ?_⟩
  unfold look_All.f
  rw [build_not hv, Option.bind_some, if_neg (by decide)]
 | true =>
  obtain ⟨R, hR, hB⟩ := build_ok hr hv
  cases R with
  | none =>
   refine .inl ⟨4, by decide, fun k => ?_⟩
   unfold look_All.f
   rw [hB, Option.bind_some, if_neg (by decide)]
   rfl
  | some KN =>
   obtain ⟨K, N⟩ := KN
   obtain ⟨hBu, hN⟩ := built_is hR
   have hrows := buildL_few _ _ _ _ _ _ _ _ hR
   simp only [List.length_nil] at hrows
   have hO := order_of hv hr
   obtain ⟨k, F, h1, h2, h3, h4, h5⟩ := rows_is hO hr hBu hN (by omega)
   have hEv : Ev (fun k => look_rows.f k l0 l1 l2 l3 st (K.map (·.map ofI)) N) (LRows (gr st l3) F K) := Ev.of (fun k => look_rows.mono _ _ _ _ _ _ _ k) h1
   refine .inr ⟨K, N, F, ⟨hO, hBu, hN, by omega, h2, h3, h4, h5⟩, hB, hEv, ?_⟩
   obtain ⟨k1, hk1⟩ := hEv
   refine ⟨k1, fun k hk => ?_⟩
   have := hk1 k hk
   dsimp only at this ⊢
   unfold look_All.f
   rw [hB, Option.bind_some]
   show (if (0 : Int) = 0 then (look_rows.f k l0 l1 l2 l3 st (K.map (·.map ofI)) N).map (fun r => (r, (0 : Int))) else _) = _
   rw [if_pos rfl, this]
   rfl
section
variable {l0 : List S82} {l1 : List S101} {l2 : List ByteArray} {l3 : List S64} {st : Int} {K : List (List Itm)} {N : List (List Int)} {F : Spt → Int} (H : Aheads l0 l1 l2 l3 st K N F)
include H
/-- The items of a state. -/
theorem Aheads.cl {i : Nat} (hi : i < K.length) {x : Itm} : x ∈ risen (closedL (gr st l3) K[i]) ↔ Cl (gr st l3) (· ∈ K[i]) x := (closedL_rise (fits_of H.ord.valid) K[i]).mem x
theorem Aheads.sm (c : List Itm) : (risen (closedL (gr st l3) c)).length ≤ 1562 := closed_small (fits_of H.ord.valid) c
end
end Go.Proofs.YtclollnicbcooaaDoor.P
end

section
set_option linter.unusedVariables false
set_option linter.unusedSimpArgs false
namespace Go.Proofs.YtclollnicbcooaaDoor.P
open Go.RowKit Go.Proofs.YtclollnicbcooaaDoorW.PrintWords Go.Proofs.YtclollnicbcooaaDoorW.PrintLast Go.Proofs.YtclollnicbcooaaDoorW.PrintMore St Bitty

theorem e_aheads : ∃ F, Aheads e0 [] e2 e3 0 [[(-1, 0)], [(0, 1)], [(-1, 1)]] [[1, 2], [-1, -1], [-1, -1]] F ∧ Ev (fun k => look_rows.f k e0 [] e2 e3 0 [[⟨-1, 0⟩], [⟨0, 1⟩], [⟨-1, 1⟩]] [[1, 2], [-1, -1], [-1, -1]]) (LRows (gr 0 e3) F [[(-1, 0)], [(0, 1)], [(-1, 1)]]) ∧ Ev (fun k => look_All.f k e0 [] e2 e3 0) (LRows (gr 0 e3) F [[(-1, 0)], [(0, 1)], [(-1, 1)]], 0) := by
 rcases all_cases (l0 := e0) (l1 := []) (l2 := e2) (st := 0) e_range with ⟨e, he, hA⟩ | ⟨K, N, F, H, hB, h1, h2⟩
 ·have := hA 0
  unfold look_All.f at this
  rw [e_build, Option.bind_some, if_pos rfl] at this
  obtain ⟨x, _, hx⟩ := Option.map_eq_some_iff.1 this
  injection hx with _ hx
  exact absurd hx.symm he
 ·rw [e_build] at hB
  have hB := Option.some.inj hB
  injection hB with hK hB
  injection hB with hN _
  have hK' : K = [[(-1, 0)], [(0, 1)], [(-1, 1)]] := by
   have := congrArg (fun x : List (List S37) => x.map (·.map toI)) hK
   simp only [List.map_map] at this
   have e : ((fun x : List S37 => x.map toI) ∘ fun x : List Itm => x.map ofI) = id := by
    funext x
    exact map_toI_ofI x
   rw [e, List.map_id] at this
   rw [← this]
   rfl
  subst hK'
  subst hN
  exact ⟨F, H, h1, h2⟩
theorem look_works : Ev (fun k => syntagmlaw15_works.f k) true := by
 obtain ⟨F, H, ⟨K1, h1⟩, ⟨K2, h2⟩⟩ := e_aheads
 have hb : tb (F (0, (0, 0))) 63 = true := ahead_begins H.ord H.bui H.okF H.may H.beg H.clo (0, 0) (.next (-1, 0) _ (.base _ (List.mem_singleton.2 rfl) rfl) (by decide)) (by decide) (by decide)
 have hb1 : tb (F (1, (0, 1))) 63 = true := by
  refine H.clo 0 [(-1, 0)] (0, 0) ((1, (0, 1)), []) rfl (.next (-1, 0) _ (.base _ (List.mem_singleton.2 rfl) rfl) (by decide)) (tb_pos hb) ⟨0, [0], by decide, by decide, .inl ⟨1, by rw [e_sg]; rfl, rfl⟩⟩ 63 ?_
  rw [oR_nil H.ord _ (H.okF _)]
  exact hb
 have hF : F (1, (0, 1)) = ((2 ^ 63 : Nat) : Int) := by
  refine Bitty.ext (H.okF _) (bit_ok 63 (by omega) (by omega)) fun b => ?_
  rw [bit_tb]
  by_cases hb' : 63 = b
  ·subst hb'
   rw [hb1, decide_eq_true rfl]
  ·rw [decide_eq_false hb']
   cases ht : tb (F (1, (0, 1))) b
   ·rfl
   ·have h3 := (H.may _ b ht).2 (by decide)
    rw [e_follow] at h3
    have h4 : tb ((2 ^ 63 : Nat) : Int) b = true := h3
    rw [bit_tb] at h4
    exact absurd (of_decide_eq_true h4) hb'
 replace hF : F (1, (0, 1)) = 9223372036854775808 := hF.trans (by decide)
 have hrows : LRows (gr 0 e3) F [[(-1, 0)], [(0, 1)], [(-1, 1)]] = [⟨[⟨-1, 0⟩, ⟨0, 0⟩], [F (0, (-1, 0)), F (0, (0, 0))]⟩, ⟨[⟨0, 1⟩], [9223372036854775808]⟩, rowOf (gr 0 e3) F 2 [(-1, 1)]] := by
  show [rowOf (gr 0 e3) F 0 [(-1, 0)], rowOf (gr 0 e3) F 1 [(0, 1)], rowOf (gr 0 e3) F 2 [(-1, 1)]] = _
  unfold rowOf
  rw [e_row0, e_row1, ← hF]
  rfl
 rw [hrows] at h1 h2
 generalize rowOf (gr 0 e3) F 2 [(-1, 1)] = r2 at *
 refine ⟨K1 + K2 + 10, fun k hk => ?_⟩
 have g1 := h2 k (by omega)
 dsimp only at g1 ⊢
 unfold syntagmlaw15_works.f
 rw [g1, Option.bind_some, if_pos ⟨by omega, rfl, rfl, rfl, rfl, rfl, rfl⟩]
end Go.Proofs.YtclollnicbcooaaDoor.P
end

section
set_option linter.unusedVariables false
set_option linter.unusedSimpArgs false
set_option linter.unusedSectionVars false
namespace Go.Proofs.YtclollnicbcooaaDoor.Pure
open Go.RowKit Go.Proofs.YtclollnicbcooaaDoorW.PrintWords Go.Proofs.YtclollnicbcooaaDoorW.PrintLast Go.Proofs.YtclollnicbcooaaDoorW.PrintMore St P
section
variable {l0 : List S82} {l1 : List S101} {l2 : List ByteArray} {l3 : List S64} {st : Int} {K : List (List Itm)} {N : List (List Int)} {F : Spt → Int} (H : Aheads l0 l1 l2 l3 st K N F)
include H
theorem em_l2 {i : Nat} (hi : i < K.length) (hl : ∀ x, Cl (gr st l3) (· ∈ K[i]) x → F ((i : Int), x) ≠ 0) (hE : Ev (fun k => syntagmlaw15_LookEmpty.l1 k true (LRows (gr st l3) F K) ((i + 1 : Nat) : Int)) true) : ∀ (m j : Nat), j + m = (risen (closedL (gr st l3) K[i])).length → Ev (fun k => syntagmlaw15_LookEmpty.l2 k true (LRows (gr st l3) F K) (i : Int) (j : Int)) true
 | 0, j, hj => by
  have hf := H.few
  refine Ev.step (fun k => ?_) hE
  rw [syntagmlaw15_LookEmpty.l2, if_pos (by omega), rows_len, if_pos (by omega), rows_at _ _ _ i hi]
  show (if (j : Int) < (((risen (closedL (gr st l3) K[i])).map fun x => F ((i : Int), x)).length : Int) then _ else _) = _
  rw [List.length_map, if_neg (by omega), up64 i (by omega)]
 | m + 1, j, hj => by
  have hf := H.few
  have hs := H.sm K[i]
  refine Ev.step (fun k => ?_) (em_l2 hi hl hE m (j + 1) (by omega))
  rw [syntagmlaw15_LookEmpty.l2, if_pos (by omega), rows_len, if_pos (by omega), rows_at _ _ _ i hi]
  show (if (j : Int) < (((risen (closedL (gr st l3) K[i])).map fun x => F ((i : Int), x)).length : Int) then (if (0 : Int) ≤ j then (if Go.Proofs.YtclollnicbcooaaDoorW.PrintWords.rd ((risen (closedL (gr st l3) K[i])).map fun x => F ((i : Int), x)) (j : Int) = 0 then _ else _) else _) else _) = _
  rw [List.length_map, if_pos (by omega), if_pos (by omega), ahead_at _ _ j (by omega), if_neg (hl _ ((H.cl hi).1 (List.getElem_mem _))), up64 j (by omega)]
theorem em_l1 (hl : ∀ (n : Nat) (c : List Itm) (x : Itm), K[n]? = some c → Cl (gr st l3) (· ∈ c) x → F ((n : Int), x) ≠ 0) : ∀ (m i : Nat), i + m = K.length → Ev (fun k => syntagmlaw15_LookEmpty.l1 k true (LRows (gr st l3) F K) (i : Int)) true
 | 0, i, hi => by
  refine Ev.step (f := fun _ => some true) (fun k => ?_) (Ev.now _)
  rw [syntagmlaw15_LookEmpty.l1, rows_len, if_neg (by omega)]
 | m + 1, i, hi => by
  refine Ev.step (fun k => ?_) (em_l2 H (i := i) (by omega) (fun x hx => hl i _ x (List.getElem?_eq_getElem (by omega)) hx) (em_l1 hl m (i + 1) (by omega)) (risen (closedL (gr st l3) K[i])).length 0 (Nat.zero_add _))
  rw [syntagmlaw15_LookEmpty.l1, rows_len, if_pos (by omega)]
  rfl
theorem em_l0 : ∀ (m i : Nat), i + m = (lR l2 l3).length → (∀ j, j < i → (lR l2 l3).getD j false = true) → Ev (fun k => syntagmlaw15_LookEmpty.l0 k true (LRows (gr st l3) F K) (lR l2 l3) (i : Int)) true
 | 0, i, hi, hall => by
  have hl := ahead_live H.ord H.bui H.okF H.may H.beg H.clo (fun j hj => hall j (by rw [lR_len] at hi; omega))
  refine Ev.step (fun k => ?_) (em_l1 H hl K.length 0 (Nat.zero_add _))
  rw [syntagmlaw15_LookEmpty.l0, if_neg (by omega)]
  rfl
 | m + 1, i, hi, hall => by
  have hS := H.ord.gram.hS
  rw [lR_len] at hi
  have e : rdOf false (lR l2 l3) (i : Int) = (lR l2 l3).getD i false := by unfold rdOf; rw [Int.toNat_natCast]
  cases hb : (lR l2 l3).getD i false with
  | true =>
   refine Ev.step (fun k => ?_) (em_l0 m (i + 1) (by rw [lR_len]; omega) (fun j hj => by
    by_cases h : j = i
    ·rw [h]; exact hb
    ·exact hall j (by omega)))
   rw [syntagmlaw15_LookEmpty.l0, lR_len, if_pos (by omega), if_pos (by omega), e, hb, if_pos rfl, up64 i (by omega)]
  | false =>
   refine Ev.step (f := fun _ => some true) (fun k => ?_) (Ev.now _)
   rw [syntagmlaw15_LookEmpty.l0, lR_len, if_pos (by omega), if_pos (by omega), e, hb, if_neg (by decide)]
end
theorem LookEmpty (x0 : S27) (w0 : wf27 x0) : ∃ k, syntagmlaw15_LookEmpty.f k x0.f0 x0.f1 x0.f2 x0.f3 x0.f4 = some true := by
 have hr := prods_range w0
 obtain ⟨b, hb⟩ := little_ev x0.f0 x0.f1 x0.f2 x0.f3 x0.f4
 refine Ev.rounds ?_
 unfold syntagmlaw15_LookEmpty.f
 refine Ev.bind look_works ?_
 refine Ev.congr (fun k => if_pos rfl) ?_
 refine Ev.bind hb ?_
 cases b with
 | false => exact Ev.congr (fun k => if_neg (by decide)) (Ev.now true)
 | true =>
  refine Ev.congr (fun k => if_pos rfl) ?_
  rcases all_cases hr with ⟨e, he, hA⟩ | ⟨K, N, F, H, _, _, hA⟩
  ·exact Ev.bind (a := ([], e)) ⟨0, fun k _ => hA k⟩ (Ev.congr (fun k => if_neg he) (Ev.now true))
  ·refine Ev.bind hA ?_
   refine Ev.congr (fun k => if_pos rfl) ?_
   refine Ev.bind (a := lR x0.f2 x0.f3) ⟨61, fun k hk => Lives_is H.ord k hk⟩ ?_
   exact em_l0 H _ 0 (Nat.zero_add _) (fun j hj => absurd hj (Nat.not_lt_zero _))
end Go.Proofs.YtclollnicbcooaaDoor.Pure
end

section
set_option linter.unusedVariables false
namespace Go.Proofs.YtclollnicbcooaaDoor.Glob
open Go.ChangeShapes Go.WideShapes Go.ChangeAt Go.RowKit

def laidL : List (String × DataW Unit) := [("math/bits.deBruijn32tab", Rows.laid_math_bits_deBruijn32tab), ("math/bits.deBruijn64tab", Rows.laid_math_bits_deBruijn64tab), ("internal/strconv.uint64pow10", Rows.laid_internal_strconv_uint64pow10)]
theorem named : Tryd.prog.globalNamed "internal/strconv.uint64pow10" = some 0 := by kernel_rfl
theorem typed : (Tryd.prog.globals[0]?).map (·.type) = some 172 := by kernel_rfl
theorem und172 : Tryd.prog.underlying 172 = some (.array 20 75) := by kernel_rfl
theorem und75 : Tryd.prog.underlying 75 = some (.int .u64) := by kernel_rfl
theorem cells172 : Tryd.prog.cellsOf 172 = 20 := by kernel_rfl
theorem cells75 : Tryd.prog.cellsOf 75 = 1 := by kernel_rfl
theorem table_is : (Rows.laid_internal_strconv_uint64pow10 : DataW Unit) = Lib.tabData .u64 Lib.pow10Tab := by rfl
theorem of_laid {W : World} (h : laidMet Tryd.prog laidL W) : P.GTab W := by
 obtain ⟨g', t', cs, fuel, p, hg', ht', hvar, hd⟩ := Lib.laidMet.reads h (n := "internal/strconv.uint64pow10") (d := Rows.laid_internal_strconv_uint64pow10) (List.mem_cons_of_mem _ (List.mem_cons_of_mem _ List.mem_cons_self))
 obtain rfl := Option.some.inj (named.symm.trans hg')
 obtain rfl := Option.some.inj (typed.symm.trans ht')
 rw [table_is] at hd
 unfold P.GTab Lib.TabIs
 rw [hvar, ← Lib.cells_of_tab und172 und75 cells75 cells172 hd]

/-- A row of literals as cells. -/
def litCells : DataW Unit → Array Value
 | .agg l => (l.map fun | .lit (.int k z) => Value.int k z | _ => Value.int .i64 0).toArray
 | _ => #[]
noncomputable def laidWorld (os : Os) : World :=
 let w := World.holding Tryd.prog os ⟨#[], #[], []⟩
 let put (b : Nat) (cs : Array Value) (h : Array Obj) : Array Obj := h.modify b fun
   | .cells _ t frozen => .cells cs t frozen
   | o => o
 { w with heap := put 0 (litCells Rows.laid_internal_strconv_uint64pow10) (put 1 (litCells Rows.laid_math_bits_deBruijn32tab) (put 2 (litCells Rows.laid_math_bits_deBruijn64tab) w.heap)) }
theorem laid_met (os : Os) (args : Array Value) : laidMet Tryd.prog laidL ((laidWorld os).forCall (fun _ _ => 0) ⟨#[], args, []⟩).memory :=
 laidMet_of_run' 8 (by kernel_rfl) (by kernel_rfl)
end Go.Proofs.YtclollnicbcooaaDoor.Glob
end
