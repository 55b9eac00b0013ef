/- sets.grow[bool] at sets.all's closure: passes over the productions until nothing changes. Conditions: the row that grows is the call's own; indices in range. -/
import Derived.Test.YtggfiopajogiiaaPx0
import Derived.Test.YtggfiopajogiiaaSMore
import Derived.Test.YtggfiopajogiiaaSJump
import Derived.WalkMore
import Derived.Deep.RegionHeld3
set_option linter.unusedVariables false
set_option linter.unusedSimpArgs false
namespace Go.Proofs.Ytggfiopajogiiaa.P
open Go.Proofs.Ytggfiopajogiiaa.Base Go.RowKit Go.Proofs.YtggfiopajogiiaaW.PrintWords Go.Proofs.YtggfiopajogiiaaW.PrintLast Go.Proofs.YtggfiopajogiiaaW.PrintMore

section
variable {β : Type} [DecidableEq β] (z : β) (more : List β → S45 → β)
/-- One pass: each production's sort gets what the production tells; and whether anything changed. -/
def passG : List S45 → List β × Bool → List β × Bool
  | [], st => st
  | p :: ps, st => passG ps (if rdOf z st.1 p.f1 = more st.1 p then st else (st.1.set p.f1.toNat (more st.1 p), true))
def growG (ps : List S45) : Nat → List β → Option (List β)
  | 0, _ => none
  | k + 1, xs => if (passG z more ps (xs, false)).2 = true then growG ps k (passG z more ps (xs, false)).1 else some (passG z more ps (xs, false)).1
theorem growG_mono (ps : List S45) : ∀ (k : Nat) (xs : List β), LeO (growG z more ps k xs) (growG z more ps (k + 1) xs)
  | 0, xs => by intro r h; cases h
  | k + 1, xs => by
    intro r h
    unfold growG at h ⊢
    split at h
    · rw [if_pos (by assumption)]; exact growG_mono ps k _ r h
    · rw [if_neg (by assumption)]; exact h
theorem passG_drop (ps : List S45) (k : Nat) (hk : k < ps.length) (st : List β × Bool) :
    passG z more (ps.drop k) st = passG z more (ps.drop (k + 1)) (if rdOf z st.1 ps[k].f1 = more st.1 ps[k] then st else (st.1.set ps[k].f1.toNat (more st.1 ps[k]), true)) := by
  rw [List.drop_eq_getElem_cons hk]; rfl
end

theorem grown_put {W w : World} {g : Nat} {i : Nat} {u : Value} (h : W.grownBy w (some g)) : W.grownBy (w.setCell ⟨g, i, none⟩ u) (some g) :=
  ⟨h.os, h.tape, h.output, by rw [World.size_setCell]; exact h.size, fun k hk hne => by rw [Below.heap_setCell w _ u k (fun e => hne (by rw [e]))]; exact h.block k hk hne⟩
theorem grown_below {W w w' : World} {g : Nat} (h : W.grownBy w (some g)) (hb : Below w.heap.size w w') : W.grownBy w' (some g) :=
  ⟨hb.os.trans h.os, hb.tape.trans h.tape, hb.output.trans h.output, Nat.le_trans h.size hb.size, fun k hk hne => (hb.block k (Nat.lt_of_lt_of_le hk h.size)).trans (h.block k hk hne)⟩
theorem grown_of {W w w' : World} {g : Nat} (hb : Below W.heap.size W w) (h : w.grownBy w' (some g)) : W.grownBy w' (some g) :=
  ⟨h.os.trans hb.os, h.tape.trans hb.tape, h.output.trans hb.output, Nat.le_trans hb.size h.size, fun k hk hne => (h.block k (Nat.lt_of_lt_of_le hk hb.size) hne).trans (hb.block k hk)⟩
theorem below_grown {w W w' : World} {g : Nat} (hb : Below w.heap.size w W) (h : W.grownBy w' (some g)) (hg : w.heap.size ≤ g) : Below w.heap.size w w' :=
  ⟨h.os.trans hb.os, h.tape.trans hb.tape, h.output.trans hb.output, Nat.le_trans hb.size h.size, fun k hk => (h.block k (Nat.lt_of_lt_of_le hk hb.size) (fun e => by injection e; omega)).trans (hb.block k hk)⟩

set_option maxHeartbeats 4000000 in
theorem grow_bool (k0 : Nat) (term : Bool) (A0 : Option Addr) (c0 : Nat) (l0 : List S51) (A1 : Option Addr) (c1 : Nat) (l1 : List S63) (A2 : Option Addr) (c2 : Nat) (l2 : List ByteArray) (A3 : Option Addr) (c3 : Nat) (l3 : List S45) (st : Int)
    (bt b5 G n cap base : Nat) (ok : Nat → Prop) (x0 r : List Bool) (w W : World) (hr3 : Kd.C k45 w A3 l3.length l3) (hbel : Below w.heap.size w W) (hG : w.heap.size ≤ G) (hGW : G < W.heap.size)
    (hbt : W.cell? ⟨bt, 0, none⟩ = some (.bool term)) (hb5 : W.cell? ⟨b5, 0, none⟩ = some (.slice (some ⟨G, 0, none⟩) n cap)) (hbtG : bt ≠ G) (hb5G : b5 ≠ G)
    (hR : Kd.R Kd.bool 4 W base ok (.slice (some ⟨G, 0, none⟩) n cap) x0)
    (hs : ∀ p ∈ l3, (0 ≤ p.f1 ∧ p.f1 < n) ∧ ∀ s ∈ p.f2, s < 0 → 0 ≤ IntKind.i64.wrap (-1 - s) ∧ IntKind.i64.wrap (-1 - s) < n)
    (h : growG false (moreB term) l3 k0 x0 = some r) :
    Calls Try.prog 46 #[.agg #[.slice A0 l0.length c0, .slice A1 l1.length c1, .slice A2 l2.length c2, .slice A3 l3.length c3, .int .i64 st], .slice (some ⟨G, 0, none⟩) n cap, .func (.func 47) #[] #[.pointer (some ⟨bt, 0, none⟩), .pointer (some ⟨b5, 0, none⟩)]] W
      fun e w' => e = .returned (.slice (some ⟨G, 0, none⟩) n cap) ∧ Kd.R Kd.bool 4 w' base ok (.slice (some ⟨G, 0, none⟩) n cap) r ∧ W.grownBy w' (some G) := by
  have HR := Aside0.mk hR
  have HR3 := Aside0.mk hr3
  have HS := Aside0.mk hs
  have HBEL := Aside0.mk hbel
  have HG := Aside0.mk hG
  have HGW := Aside0.mk hGW
  have Bt := Aside0.mk hbt
  have B5 := Aside0.mk hb5
  have NB := Aside0.mk (And.intro hbtG hb5G)
  have H := Aside0.mk h
  have hu := Try.underlying45
  have hu27 := Try.underlying27
  clear hR hr3 hs hbel hG hGW hbt hb5 hbtG hb5G h
  go_enter Try.func46, Try.ntmps46
  go_wp2
  have HZ : Aside0 (Below W.heap.size W (W.alloc (Obj.cells #[.slice A0 l0.length c0, .slice A1 l1.length c1, .slice A2 l2.length c2, .slice A3 l3.length c3, .int .i64 st] 27))) := ⟨below_alloc (Below.refl _ _) _⟩
  have G3 : Aside0 ((W.alloc (Obj.cells #[.slice A0 l0.length c0, .slice A1 l1.length c1, .slice A2 l2.length c2, .slice A3 l3.length c3, .int .i64 st] 27)).cell? ⟨W.heap.size, 3, none⟩ = some (.slice A3 l3.length c3)) := ⟨by go_simp⟩
  generalize W.alloc (Obj.cells #[.slice A0 l0.length c0, .slice A1 l1.length c1, .slice A2 l2.length c2, .slice A3 l3.length c3, .int .i64 st] 27) = wy at *
  replace HR := Aside0.mk (Kd.R_below HR.out HZ.out)
  replace Bt := Aside0.mk (pw_cell_below HZ.out Bt.out)
  replace B5 := Aside0.mk (pw_cell_below HZ.out B5.out)
  replace HBEL := Aside0.mk (below_step HBEL.out HZ.out)
  have HGN : Aside0 (W.heap.size ≠ G) := ⟨by have := HGW.out; omega⟩
  generalize hg : W.heap.size = gb at G3 HGN ⊢
  clear hg
  obtain ⟨vg, hvg⟩ : ∃ vg : Value, vg = .agg #[.slice A0 l0.length c0, .slice A1 l1.length c1, .slice A2 l2.length c2, .slice A3 l3.length c3, .int .i64 st] := ⟨_, rfl⟩
  rw [← hvg]
  clear hvg
  refine wp_scope_label 0 k0 (fun k a wr => ∃ (xs : List Bool) (u7 u8 u9 u10 u11 u12 u13 u14 u15 u16 u17 u18 u19 u20 u21 u22 u23 u24 u25 u26 u27 u28 u29 u30 u31 u32 u33 u34 u35 u36 u37 : Value), a = { tmps := #[vg, .slice (some ⟨G, 0, none⟩) n cap, .func (.func 47) #[] #[.pointer (some ⟨bt, 0, none⟩), .pointer (some ⟨b5, 0, none⟩)], .pointer (some ⟨gb, 0, none⟩), undef, undef, .slice none 0 0, u7, u8, u9, u10, u11, u12, u13, u14, u15, u16, u17, u18, u19, u20, u21, u22, u23, u24, u25, u26, u27, u28, u29, u30, u31, u32, u33, u34, u35, u36, u37], defers := [] } ∧ Aside0 (growG false (moreB term) l3 k xs = some r) ∧ Aside0 (Kd.R Kd.bool 4 wr base ok (.slice (some ⟨G, 0, none⟩) n cap) xs) ∧ Aside0 (wy.grownBy wr (some G))) ⟨x0, _, _, _, _, _, _, _, _, _, _, _, _, _, _, _, _, _, _, _, _, _, _, _, _, _, _, _, _, _, _, _, rfl, H, HR, ⟨World.grownBy.refl _ _⟩⟩ ?_
  clear HR H
  rintro kk a wq ⟨xs, u7, u8, u9, u10, u11, u12, u13, u14, u15, u16, u17, u18, u19, u20, u21, u22, u23, u24, u25, u26, u27, u28, u29, u30, u31, u32, u33, u34, u35, u36, u37, rfl, H, HR, HY⟩
  go_hide hQ
  replace hQ := Aside0.mk hQ
  have g3 : wq.cell? ⟨gb, 3, none⟩ = some (.slice A3 l3.length c3) := HY.out.cell G3.out (by intro e; injection e with e; exact HGN.out e)
  go_wp2
  clear g3
  go_loopw [7, 15] (fun v7 v15 wr => ∃ (k : Nat) (ch : Bool) (ys : List Bool), v7 = .bool ch ∧ v15 = .int .i64 k ∧ k ≤ l3.length ∧ Aside0 (Kd.R Kd.bool 4 wr base ok (.slice (some ⟨G, 0, none⟩) n cap) ys) ∧ Aside0 (wy.grownBy wr (some G)) ∧ Aside0 (passG false (moreB term) l3 (xs, false) = passG false (moreB term) (l3.drop k) (ys, ch))) (fun _ v15 _ => l3.length - (intOf v15).toNat)
  case atStart => exact ⟨0, false, xs, rfl, rfl, Nat.zero_le _, HR, HY, ⟨rfl⟩⟩
  case round =>
    obtain ⟨k, ch, ys, rfl, rfl, hk, HRR, HYR, HP⟩ := hrel
    have hmx : l3.length ≤ 9223372036854775807 := HR3.out.2.1
    by_cases hlt : k < l3.length
    · have hltb : decide (k < l3.length) = true := decide_eq_true (by omega)
      have hbw : Aside0 (Below w.heap.size w wr) := ⟨below_grown HBEL.out HYR.out HG.out⟩
      obtain ⟨ad, A4, c4, e4, hx1, hx2, hx3, hx4, hcap, hr4⟩ := at_T45 (Kd.C_below HR3.out hbw.out) (k : Int) (by omega) (by omega)
      rw [Int.toNat_natCast] at hx1 hx2 hx3 hx4
      obtain ⟨p, hp⟩ : ∃ p, rd_T45 l3 k = p := ⟨_, rfl⟩
      rw [hp] at hx1 hx2 hx3 hx4 hr4
      have hpk : l3[k] = p := by rw [← hp]; unfold rd_T45; simp [List.getD, hlt]
      have hmem : p ∈ l3 := by rw [← hpk]; exact List.getElem_mem hlt
      have HPK := Aside0.mk hpk
      have hsp := Aside0.mk (HS.out p hmem)
      have HR4 := Aside0.mk hr4
      clear hp hpk hr4 hcap hmem
      subst e4
      obtain ⟨m, hm⟩ : ∃ m, moreB term ys p = m := ⟨_, rfl⟩
      obtain ⟨o, ho⟩ : ∃ o, rdOf false ys p.f1 = o := ⟨_, rfl⟩
      have hstep : Aside0 (passG false (moreB term) l3 (xs, false) = passG false (moreB term) (l3.drop (k + 1)) (if o = m then (ys, ch) else (ys.set p.f1.toNat m, true))) := ⟨by rw [HP.out, passG_drop _ _ _ k hlt, HPK.out, ho, hm]⟩
      obtain ⟨nl, hnl⟩ : ∃ nl, p.f2.length = nl := ⟨_, rfl⟩
      obtain ⟨lab, hlab⟩ : ∃ lab, p.f0 = lab := ⟨_, rfl⟩
      obtain ⟨srt, hsrt⟩ : ∃ srt, p.f1 = srt := ⟨_, rfl⟩
      obtain ⟨cls, hcls⟩ : ∃ cls, p.f3 = cls := ⟨_, rfl⟩
      have hcont : Aside0 (∀ wz : World, Below wr.heap.size wr wz → Calls Try.prog 47 #[.agg #[.string lab, .int .i64 srt, .slice A4 nl c4, .int .i64 cls], .pointer (some ⟨bt, 0, none⟩), .pointer (some ⟨b5, 0, none⟩)] wz fun e w' => e = .returned (.tuple #[.int .i64 srt, .bool m]) ∧ Below wz.heap.size wz w' ∧ w'.cell? ⟨G, srt.toNat, none⟩ = some (.bool o) ∧ w'.frozen? ⟨G, srt.toNat, none⟩ = false) := ⟨fun wz hz => by
        have hg2 : wy.grownBy wz (some G) := grown_below HYR.out hz
        have hc := all1_calls term bt b5 G n cap ys base ok p A4 c4 wz (hg2.cell Bt.out (by intro e; injection e with e; exact NB.out.1 e)) (hg2.cell B5.out (by intro e; injection e with e; exact NB.out.2 e)) (Kd.R_below HRR.out hz) (Kd.C_below HR4.out hz) hsp.out.2 hsp.out.1.1 hsp.out.1.2
        rw [hnl, hlab, hsrt, hcls, hm] at hc
        refine hc.mono ?_
        rintro e w2 ⟨rfl, hb2⟩
        have hcell := Kd.R_celln false (Kd.R_below (Kd.R_below HRR.out hz) hb2) p.f1 hsp.out.1.1 hsp.out.1.2
        rw [ho, hsrt] at hcell
        exact ⟨rfl, hb2, hcell.1, hcell.2⟩⟩
      rw [hlab] at hx1
      rw [hsrt] at hx2
      rw [hnl] at hx3
      rw [hcls] at hx4
      have hsrt2 := Aside0.mk hsrt
      rw [hsrt] at hsp
      have q0 : (0 ≤ srt) = True := eq_true hsp.out.1.1
      have q1 : (srt < (n : Int)) = True := eq_true hsp.out.1.2
      clear hm ho hlab hnl hcls hsrt
      go_upto_region 5 with fail
      have HZ2 : Aside0 (Below wr.heap.size wr (wr.alloc (Obj.cells #[.string lab, .int .i64 srt, .slice A4 nl c4, .int .i64 cls] 45))) := ⟨below_alloc (Below.refl _ _) _⟩
      have y0 : (wr.alloc (Obj.cells #[.string lab, .int .i64 srt, .slice A4 nl c4, .int .i64 cls] 45)).cell? ⟨wr.heap.size, 0, none⟩ = some (.string lab) := by go_simp
      have y1 : (wr.alloc (Obj.cells #[.string lab, .int .i64 srt, .slice A4 nl c4, .int .i64 cls] 45)).cell? ⟨wr.heap.size, 1, none⟩ = some (.int .i64 srt) := by go_simp
      have y2 : (wr.alloc (Obj.cells #[.string lab, .int .i64 srt, .slice A4 nl c4, .int .i64 cls] 45)).cell? ⟨wr.heap.size, 2, none⟩ = some (.slice A4 nl c4) := by go_simp
      have y3 : (wr.alloc (Obj.cells #[.string lab, .int .i64 srt, .slice A4 nl c4, .int .i64 cls] 45)).cell? ⟨wr.heap.size, 3, none⟩ = some (.int .i64 cls) := by go_simp
      generalize wr.alloc (Obj.cells #[.string lab, .int .i64 srt, .slice A4 nl c4, .int .i64 cls] 45) = wz at *
      clear hx1 hx2 hx3 hx4
      generalize hgy : wr.heap.size = gy at y0 y1 y2 y3 ⊢
      clear hgy
      have hcall := hcont.out wz HZ2.out
      clear hcont
      replace hcall := Aside0.mk hcall
      have HYZ := Aside0.mk (grown_below HYR.out HZ2.out)
      have HRZ := Aside0.mk (Kd.R_below HRR.out HZ2.out)
      cases o <;> cases m
      · go_wp2_with (go_at_call 47; refine hcall.out.mono ?_; rintro e w2 ⟨rfl, hb2, hc2, hf2⟩; replace hb2 := Aside0.mk hb2)
        have hR2 := Aside0.mk (Kd.R_below HRZ.out hb2.out)
        exact ⟨⟨k + 1, ch, ys, rfl, rfl, by omega, hR2, ⟨grown_below HYZ.out hb2.out⟩, ⟨by rw [hstep.out]; simp⟩⟩, by simp [intOf]; omega⟩
      · go_wp2_with (go_at_call 47; refine hcall.out.mono ?_; rintro e w2 ⟨rfl, hb2, hc2, hf2⟩; replace hb2 := Aside0.mk hb2)
        have hR2 := Aside0.mk (Kd.R_putn (Kd.R_below HRZ.out hb2.out) srt true)
        exact ⟨⟨k + 1, true, ys.set srt.toNat true, rfl, rfl, by omega, hR2, ⟨grown_put (grown_below HYZ.out hb2.out)⟩, ⟨by rw [hstep.out, if_neg (by decide), hsrt2.out]⟩⟩, by simp [intOf]; omega⟩
      · go_wp2_with (go_at_call 47; refine hcall.out.mono ?_; rintro e w2 ⟨rfl, hb2, hc2, hf2⟩; replace hb2 := Aside0.mk hb2)
        have hR2 := Aside0.mk (Kd.R_putn (Kd.R_below HRZ.out hb2.out) srt false)
        exact ⟨⟨k + 1, true, ys.set srt.toNat false, rfl, rfl, by omega, hR2, ⟨grown_put (grown_below HYZ.out hb2.out)⟩, ⟨by rw [hstep.out, if_neg (by decide), hsrt2.out]⟩⟩, by simp [intOf]; omega⟩
      · go_wp2_with (go_at_call 47; refine hcall.out.mono ?_; rintro e w2 ⟨rfl, hb2, hc2, hf2⟩; replace hb2 := Aside0.mk hb2)
        have hR2 := Aside0.mk (Kd.R_below HRZ.out hb2.out)
        exact ⟨⟨k + 1, ch, ys, rfl, rfl, by omega, hR2, ⟨grown_below HYZ.out hb2.out⟩, ⟨by rw [hstep.out]; simp⟩⟩, by simp [intOf]; omega⟩
    · have hltb : decide (k < l3.length) = false := decide_eq_false (by omega)
      obtain ⟨k', rfl⟩ : ∃ k', kk = k' + 1 := by
        cases kk with
        | zero => have := H.out; cases this
        | succ k' => exact ⟨k', rfl⟩
      have HF : Aside0 (passG false (moreB term) l3 (xs, false) = (ys, ch)) := ⟨by rw [HP.out, List.drop_eq_nil_of_le (by omega)]; rfl⟩
      cases ch
      · have HE : Aside0 (ys = r) := ⟨by have := H.out; unfold growG at this; rw [HF.out] at this; simpa using this⟩
        go_wp2
        rw [← hQ.out]
        simp only [Exit.jump]
        go_ret
        exact ⟨rfl, by rw [← HE.out]; exact HRR.out, grown_of HZ.out HYR.out⟩
      · have HE : Aside0 (growG false (moreB term) l3 k' ys = some r) := ⟨by have := H.out; unfold growG at this; rw [HF.out] at this; simpa using this⟩
        go_wp2
        go_step3
        rw [← hQ.out]
        exact ⟨rfl, k', Nat.lt_succ_self _, ys, _, _, _, _, _, _, _, _, _, _, _, _, _, _, _, _, _, _, _, _, _, _, _, _, _, _, _, _, _, _, _, rfl, HE, HRR, HYR⟩

end Go.Proofs.Ytggfiopajogiiaa.P
