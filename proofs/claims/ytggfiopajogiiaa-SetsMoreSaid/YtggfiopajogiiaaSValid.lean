/- inst.Valid: whether a grammar may be. -/
import Derived.Test.YtggfiopajogiiaaPx0
import Derived.Test.YtggfiopajogiiaaSOdd
import Derived.Test.YtggfiopajogiiaaSRiseT
import Derived.Test.YtggfiopajogiiaaSRiseP
import Derived.Deep.RegionHeld3
set_option linter.unusedVariables false
set_option linter.unusedSimpArgs false
namespace Go.Proofs.Ytggfiopajogiiaa.P
open Go.Proofs.Ytggfiopajogiiaa.Base Go.RowKit Go.Proofs.YtggfiopajogiiaaW.PrintWords Go.Proofs.YtggfiopajogiiaaW.PrintLast Go.Proofs.YtggfiopajogiiaaW.PrintMore

def pairB (T : Int) (x : S63) : Bool := inB x.f0 T && inB x.f1 T
def prodB (T S : Int) (p : S45) : Bool := inB p.f1 S && !decide (12 < p.f2.length) && !p.f2.any (oddB T S)
def validB (l0 : List S51) (l1 : List S63) (l2 : List ByteArray) (l3 : List S45) (st : Int) : Bool :=
  !decide (60 < l0.length) && !decide (60 < l2.length) && !decide (120 < l3.length) && inB st l2.length && l1.all (pairB l0.length) && l3.all (prodB l0.length l2.length) &&
    rises (rdOf ByteArray.empty l2) l2.length && rises (fun i => (rd_T51 l0 i).f0) l0.length && rises (fun i => (rd_T45 l3 i).f0) l3.length

theorem all_part {α : Type} (f : α → Bool) (l : List α) (k : Nat) (hk : k < l.length) : l.all f = ((l.take k).all f && f l[k] && (l.drop (k + 1)).all f) := by
  conv => lhs; rw [← List.take_append_drop k l, List.drop_eq_getElem_cons hk, List.all_append, List.all_cons]
  rw [Bool.and_assoc]
theorem all_take {α : Type} (f : α → Bool) (l : List α) (k : Nat) (hk : k < l.length) : (l.take (k + 1)).all f = ((l.take k).all f && f l[k]) := by
  rw [List.take_add_one, List.getElem?_eq_getElem hk, List.all_append]
  simp
theorem rd63_at (l : List S63) (k : Nat) (hk : k < l.length) : rd_T63 l (k : Int) = l[k] := by unfold rd_T63; simp [List.getD, hk]
theorem rd45_at (l : List S45) (k : Nat) (hk : k < l.length) : rd_T45 l (k : Int) = l[k] := by unfold rd_T45; simp [List.getD, hk]
theorem rd51_at (l : List S51) (k : Nat) (hk : k < l.length) : rd_T51 l (k : Int) = l[k] := by unfold rd_T51; simp [List.getD, hk]

set_option maxHeartbeats 4000000 in
theorem valid_calls (A0 : Option Addr) (c0 : Nat) (l0 : List S51) (A1 : Option Addr) (c1 : Nat) (l1 : List S63) (A2 : Option Addr) (c2 : Nat) (l2 : List ByteArray) (A3 : Option Addr) (c3 : Nat) (l3 : List S45) (st : Int) (w : World)
    (hr0 : Kd.C k51 w A0 l0.length l0) (hr1 : Kd.C k63 w A1 l1.length l1) (hr2 : Kd.C Kd.string w A2 l2.length l2) (hr3 : Kd.C k45 w A3 l3.length l3) :
    Calls Try.prog 23 #[.agg #[.slice A0 l0.length c0, .slice A1 l1.length c1, .slice A2 l2.length c2, .slice A3 l3.length c3, .int .i64 st]] w fun e w' => e = .returned (.bool (validB l0 l1 l2 l3 st)) ∧ Below w.heap.size w w' := by
  have HR0 := Aside0.mk hr0
  have HR1 := Aside0.mk hr1
  have HR2 := Aside0.mk hr2
  have HR3 := Aside0.mk hr3
  clear hr0 hr1 hr2 hr3
  have hu27 := Try.underlying27
  go_enter Try.func23, Try.ntmps23
  go_upto_region 1 with fail
  have hn : (w.alloc (Obj.cells #[.slice A0 l0.length c0, .slice A1 l1.length c1, .slice A2 l2.length c2, .slice A3 l3.length c3, .int .i64 st] 27)).heap.size = w.heap.size + 1 := by simp
  generalize hw0 : w.alloc (Obj.cells #[.slice A0 l0.length c0, .slice A1 l1.length c1, .slice A2 l2.length c2, .slice A3 l3.length c3, .int .i64 st] 27) = w0
  have f0 : w0.cell? ⟨w.heap.size, 0, none⟩ = some (.slice A0 l0.length c0) := by subst hw0; go_simp
  have f1 : w0.cell? ⟨w.heap.size, 1, none⟩ = some (.slice A1 l1.length c1) := by subst hw0; go_simp
  have f2 : w0.cell? ⟨w.heap.size, 2, none⟩ = some (.slice A2 l2.length c2) := by subst hw0; go_simp
  have f3 : w0.cell? ⟨w.heap.size, 3, none⟩ = some (.slice A3 l3.length c3) := by subst hw0; go_simp
  have f4 : w0.cell? ⟨w.heap.size, 4, none⟩ = some (.int .i64 st) := by subst hw0; go_simp
  have hb0 : Below w.heap.size w w0 := by subst hw0; exact below_alloc (Below.refl _ _) _
  replace f0 := Aside0.mk f0
  replace f1 := Aside0.mk f1
  replace f2 := Aside0.mk f2
  replace f3 := Aside0.mk f3
  replace f4 := Aside0.mk f4
  replace hb0 := Aside0.mk hb0
  have hg : Aside0 (w.heap.size < w0.heap.size) := by subst hw0; exact ⟨by simp⟩
  clear hw0 hn
  generalize hgg : w.heap.size = g at *
  replace hgg := Aside0.mk hgg
  go_cut [3, 4] from 11 to 16 (fun s3 s4 wr => ∃ b1 b2 : Nat, s3 = .pointer (some ⟨b1, 0, none⟩) ∧ s4 = .pointer (some ⟨b2, 0, none⟩) ∧ Aside0 (wr.cell? ⟨b1, 0, none⟩ = some (.int .i64 l0.length) ∧ wr.cell? ⟨b2, 0, none⟩ = some (.int .i64 l2.length) ∧ Below w0.heap.size w0 wr))
  case first =>
    have f0' := f0.out
    have f2' := f2.out
    have n0 := World.new_ne w0 _ f0'
    have n2 := World.new_ne w0 _ f2'
    go_region_held3 (fun w' => w'.cell? ⟨g, 0, none⟩ = some (.slice A0 l0.length c0) ∧ w'.cell? ⟨g, 2, none⟩ = some (.slice A2 l2.length c2)) (go_keep) (fail)
    all_goals (go_wp2_with fail; go_meet; exact ⟨_, _, rfl, rfl, ⟨by go_simp, by go_simp, (below_alloc (below_alloc (Below.refl _ _) _) _).drew⟩⟩)
  case rest =>
    obtain ⟨b1, b2, rfl, rfl, hq⟩ := hcut
    have B1 := hq.out.1
    have B2 := hq.out.2.1
    have HB : Aside0 (Below w0.heap.size w0 wc) := ⟨hq.out.2.2⟩
    have HWK : Aside0 (Below w.heap.size w wc) := ⟨by rw [hgg.out]; exact hb0.out.trans (HB.out.mono (Nat.le_of_lt hg.out))⟩
    have F0 := pw_cell_below HB.out f0.out
    have F1 := pw_cell_below HB.out f1.out
    have F2 := pw_cell_below HB.out f2.out
    have F3 := pw_cell_below HB.out f3.out
    have F4 := pw_cell_below HB.out f4.out
    clear hq f0 f1 f2 f3 f4 HB hb0 hg hgg
    have HW := HWK
    clear HWK
    by_cases h1 : (60 : Int) < l0.length
    · have e1 : Aside0 (60 < l0.length) := ⟨by omega⟩
      go_wp2
      go_ret
      exact ⟨by simp [validB, e1.out], HW.out⟩
    have e1 : Aside0 (¬ 60 < l0.length) := ⟨by omega⟩
    by_cases h2 : (60 : Int) < l2.length
    · have e2 : Aside0 (60 < l2.length) := ⟨by omega⟩
      go_wp2
      go_ret
      exact ⟨by simp [validB, e2.out], HW.out⟩
    have e2 : Aside0 (¬ 60 < l2.length) := ⟨by omega⟩
    by_cases h3 : (120 : Int) < l3.length
    · have e3 : Aside0 (120 < l3.length) := ⟨by omega⟩
      go_wp2
      go_ret
      exact ⟨by simp [validB, e3.out], HW.out⟩
    have e3 : Aside0 (¬ 120 < l3.length) := ⟨by omega⟩
    obtain ⟨p, hp⟩ : ∃ p, inB st l2.length = p := ⟨_, rfl⟩
    have HP := Aside0.mk hp
    clear hp
    cases p
    · go_wp2_with (go_at_call 35; refine (in_calls _ _ _).mono ?_; rintro e wx ⟨rfl, hwx⟩; rw [hwx, HP.out]; clear hwx wx)
      go_ret
      exact ⟨by simp [validB, HP.out], HW.out⟩
    go_wp2_with (go_at_call 35; refine (in_calls _ _ _).mono ?_; rintro e wx ⟨rfl, hwx⟩; rw [hwx, HP.out]; clear hwx wx)
    have C0 := Aside0.mk F0
    have C1 := Aside0.mk F1
    have C2 := Aside0.mk F2
    have C3 := Aside0.mk F3
    have D1 := Aside0.mk B1
    have D2 := Aside0.mk B2
    have X1 := Aside0.mk (Kd.C_below HR1.out HW.out)
    have X3 := Aside0.mk (Kd.C_below HR3.out HW.out)
    clear F0 F1 F2 F3 F4 B1 B2 h1 h2 h3
    go_loopw [39] (fun v wr => ∃ k : Nat, v = .int .i64 k ∧ k ≤ l1.length ∧ Aside0 ((l1.take k).all (pairB l0.length) = true) ∧ Aside0 (Below wc.heap.size wc wr)) (fun v _ => l1.length - (intOf v).toNat)
    case atStart => exact ⟨0, rfl, Nat.zero_le _, ⟨by simp⟩, ⟨Below.refl _ _⟩⟩
    case round =>
      obtain ⟨k, rfl, hk, HT, HD⟩ := hrel
      have hmx : l1.length ≤ 9223372036854775807 := HR1.out.2.1
      by_cases hlt : k < l1.length
      · have hltb : decide (k < l1.length) = true := decide_eq_true (by omega)
        obtain ⟨ad, e1, hx1, hx2⟩ := at_T63 (Kd.C_below X1.out HD.out) (k : Int) (by omega) (by omega)
        rw [Int.toNat_natCast] at hx1 hx2
        have B1 := pw_cell_below HD.out D1.out
        obtain ⟨p, hp⟩ : ∃ p, inB (rd_T63 l1 k).f0 l0.length = p := ⟨_, rfl⟩
        obtain ⟨q, hq⟩ : ∃ q, inB (rd_T63 l1 k).f1 l0.length = q := ⟨_, rfl⟩
        have HP1 := Aside0.mk hp
        have HQ1 := Aside0.mk hq
        clear hp hq
        subst e1
        have hpq : pairB l0.length l1[k] = (p && q) := by rw [← HP1.out, ← HQ1.out, rd63_at l1 k hlt]; rfl
        have hall : Aside0 (l1.all (pairB l0.length) = ((l1.take k).all (pairB l0.length) && (p && q) && (l1.drop (k + 1)).all (pairB l0.length))) := ⟨by rw [all_part _ l1 k hlt, hpq]⟩
        have htk : Aside0 ((l1.take (k + 1)).all (pairB l0.length) = ((l1.take k).all (pairB l0.length) && (p && q))) := ⟨by rw [all_take _ l1 k hlt, hpq]⟩
        clear hpq
        go_upto_region 7 with fail
        have HZ : Aside0 (Below wr.heap.size wr (wr.alloc (Obj.cells #[.int .i64 (rd_T63 l1 k).f0, .int .i64 (rd_T63 l1 k).f1] 63))) := ⟨below_alloc (Below.refl _ _) _⟩
        have G0 : (wr.alloc (Obj.cells #[.int .i64 (rd_T63 l1 k).f0, .int .i64 (rd_T63 l1 k).f1] 63)).cell? ⟨wr.heap.size, 0, none⟩ = some (.int .i64 (rd_T63 l1 k).f0) := by go_simp
        have G1 : (wr.alloc (Obj.cells #[.int .i64 (rd_T63 l1 k).f0, .int .i64 (rd_T63 l1 k).f1] 63)).cell? ⟨wr.heap.size, 1, none⟩ = some (.int .i64 (rd_T63 l1 k).f1) := by go_simp
        generalize wr.alloc (Obj.cells #[.int .i64 (rd_T63 l1 k).f0, .int .i64 (rd_T63 l1 k).f1] 63) = wy at *
        replace B1 := pw_cell_below HZ.out B1
        replace HZ : Aside0 (Below wc.heap.size wc wy) := ⟨below_step HD.out HZ.out⟩
        clear hx1 hx2
        generalize wr.heap.size = gy at *
        cases p
        · go_wp2_with (go_at_call 35; refine (in_calls _ _ _).mono ?_; rintro e wx ⟨rfl, hwx⟩; rw [hwx, HP1.out]; clear hwx wx)
          go_ret
          exact ⟨by simp [validB, hall.out], below_step HW.out HZ.out⟩
        · cases q
          · go_wp2_with (go_at_call 35; refine (in_calls _ _ _).mono ?_; rintro e wx ⟨rfl, hwx⟩; first | (rw [hwx, HP1.out]; clear hwx wx) | (rw [hwx, HQ1.out]; clear hwx wx))
            go_ret
            exact ⟨by simp [validB, hall.out], below_step HW.out HZ.out⟩
          · go_wp2_with (go_at_call 35; refine (in_calls _ _ _).mono ?_; rintro e wx ⟨rfl, hwx⟩; first | (rw [hwx, HP1.out]; clear hwx wx) | (rw [hwx, HQ1.out]; clear hwx wx))
            exact ⟨⟨k + 1, rfl, by omega, ⟨by rw [htk.out, HT.out]; rfl⟩, HZ⟩, by simp [intOf]; omega⟩
      · have hltb : decide (k < l1.length) = false := decide_eq_false (by omega)
        have HA : Aside0 (l1.all (pairB l0.length) = true) := ⟨by have := HT.out; rwa [List.take_of_length_le (by omega)] at this⟩
        have F0 := pw_cell_below HD.out C0.out
        have F2 := pw_cell_below HD.out C2.out
        have F3 := pw_cell_below HD.out C3.out
        have B1 := pw_cell_below HD.out D1.out
        have B2 := pw_cell_below HD.out D2.out
        have Y3 := Aside0.mk (Kd.C_below X3.out HD.out)
        have Y0 := Aside0.mk (Kd.C_below (Kd.C_below HR0.out HW.out) HD.out)
        have Y2 := Aside0.mk (Kd.C_below (Kd.C_below HR2.out HW.out) HD.out)
        have HV : Aside0 (Below w.heap.size w wr) := ⟨below_step HW.out HD.out⟩
        clear HT HD HW X1 X3 C0 C1 C2 C3 D1 D2 HR1 HR0 HR2 HR3
        go_wp2
        clear hltb
        have C0 := Aside0.mk F0
        have C2 := Aside0.mk F2
        have C3 := Aside0.mk F3
        have D1 := Aside0.mk B1
        have D2 := Aside0.mk B2
        clear F0 F2 F3 B1 B2
        obtain ⟨wv, rfl⟩ : ∃ wv, wv = wr := ⟨_, rfl⟩
        have hmf : ∀ (fn : Fn) (first cap : Array Value) (w : World), (Instr.makeFunc fn first cap).run Try.prog w = .ok (.func fn first cap) w := fun _ _ _ _ => rfl
        go_loopw [59] (fun v wr => ∃ k : Nat, v = .int .i64 k ∧ k ≤ l3.length ∧ Aside0 ((l3.take k).all (prodB l0.length l2.length) = true) ∧ Aside0 (Below wv.heap.size wv wr)) (fun v _ => l3.length - (intOf v).toNat)
        case atStart => exact ⟨0, rfl, Nat.zero_le _, ⟨by simp⟩, ⟨Below.refl _ _⟩⟩
        case round =>
          obtain ⟨k, rfl, hk, HT, HD⟩ := hrel
          have hmx : l3.length ≤ 9223372036854775807 := Y3.out.2.1
          by_cases hlt : k < l3.length
          · have hltb : decide (k < l3.length) = true := decide_eq_true (by omega)
            obtain ⟨ad, A4, c4, e4, hx1, hx2, hx3, hx4, hcap, hr4⟩ := at_T45 (Kd.C_below Y3.out HD.out) (k : Int) (by omega) (by omega)
            rw [Int.toNat_natCast] at hx1 hx2 hx3 hx4
            have B1 := pw_cell_below HD.out D1.out
            have B2 := pw_cell_below HD.out D2.out
            have HR4 := Aside0.mk hr4
            clear hr4 hcap
            obtain ⟨p, hp⟩ : ∃ p, inB (rd_T45 l3 k).f1 l2.length = p := ⟨_, rfl⟩
            obtain ⟨o, ho⟩ : ∃ o, (rd_T45 l3 k).f2.any (oddB l0.length l2.length) = o := ⟨_, rfl⟩
            have HP1 := Aside0.mk hp
            have HO1 := Aside0.mk ho
            clear hp ho
            subst e4
            have hpq : prodB l0.length l2.length l3[k] = (p && !decide (12 < (rd_T45 l3 k).f2.length) && !o) := by rw [← HP1.out, ← HO1.out, rd45_at l3 k hlt]; rfl
            have hall : Aside0 (l3.all (prodB l0.length l2.length) = ((l3.take k).all (prodB l0.length l2.length) && (p && !decide (12 < (rd_T45 l3 k).f2.length) && !o) && (l3.drop (k + 1)).all (prodB l0.length l2.length))) := ⟨by rw [all_part _ l3 k hlt, hpq]⟩
            have htk : Aside0 ((l3.take (k + 1)).all (prodB l0.length l2.length) = ((l3.take k).all (prodB l0.length l2.length) && (p && !decide (12 < (rd_T45 l3 k).f2.length) && !o))) := ⟨by rw [all_take _ l3 k hlt, hpq]⟩
            clear hpq
            obtain ⟨n4, hn4⟩ : ∃ n4, (rd_T45 l3 k).f2.length = n4 := ⟨_, rfl⟩
            have HN4 := Aside0.mk hn4
            rw [hn4] at hx3
            clear hn4
            go_upto_region 14 with fail
            have HZ : Aside0 (Below wr.heap.size wr (wr.alloc (Obj.cells #[.string (rd_T45 l3 k).f0, .int .i64 (rd_T45 l3 k).f1, .slice A4 n4 c4, .int .i64 (rd_T45 l3 k).f3] 45))) := ⟨below_alloc (Below.refl _ _) _⟩
            have G1 : (wr.alloc (Obj.cells #[.string (rd_T45 l3 k).f0, .int .i64 (rd_T45 l3 k).f1, .slice A4 n4 c4, .int .i64 (rd_T45 l3 k).f3] 45)).cell? ⟨wr.heap.size, 1, none⟩ = some (.int .i64 (rd_T45 l3 k).f1) := by go_simp
            have G2 : (wr.alloc (Obj.cells #[.string (rd_T45 l3 k).f0, .int .i64 (rd_T45 l3 k).f1, .slice A4 n4 c4, .int .i64 (rd_T45 l3 k).f3] 45)).cell? ⟨wr.heap.size, 2, none⟩ = some (.slice A4 n4 c4) := by go_simp
            generalize wr.alloc (Obj.cells #[.string (rd_T45 l3 k).f0, .int .i64 (rd_T45 l3 k).f1, .slice A4 n4 c4, .int .i64 (rd_T45 l3 k).f3] 45) = wy at *
            replace B1 := pw_cell_below HZ.out B1
            replace B2 := pw_cell_below HZ.out B2
            replace HR4 := Aside0.mk (Kd.C_below HR4.out HZ.out)
            replace HZ : Aside0 (Below wv.heap.size wv wy) := ⟨below_step HD.out HZ.out⟩
            have K1 := Aside0.mk B1
            have K2 := Aside0.mk B2
            clear hx1 hx2 hx3 hx4
            generalize wr.heap.size = gy at *
            cases p
            · go_wp2_with (go_at_call 35; refine (in_calls _ _ _).mono ?_; rintro e wx ⟨rfl, hwx⟩; rw [hwx, HP1.out]; clear hwx wx)
              go_ret
              exact ⟨by simp [validB, hall.out], below_step HV.out HZ.out⟩
            · by_cases h12 : (12 : Int) < n4
              · have h12' : 12 < (rd_T45 l3 k).f2.length := by rw [HN4.out]; omega
                replace h12' := Aside0.mk h12'
                go_wp2_with (go_at_call 35; refine (in_calls _ _ _).mono ?_; rintro e wx ⟨rfl, hwx⟩; rw [hwx, HP1.out]; clear hwx wx)
                go_ret
                exact ⟨by simp [validB, hall.out, h12'.out], below_step HV.out HZ.out⟩
              · have h12' : ¬ 12 < (rd_T45 l3 k).f2.length := by rw [HN4.out]; omega
                replace h12' := Aside0.mk h12'
                have hcont : Aside0 (Calls Try.prog 37 #[.slice A4 n4 c4, .func (.func 36) #[] #[.pointer (some ⟨b1, 0, none⟩), .pointer (some ⟨b2, 0, none⟩)]] wy fun e w' => e = .returned (.bool o) ∧ w' = wy) := ⟨by have := contains_odd _ _ _ _ _ c4 _ _ HR4.out K1.out K2.out; rwa [HN4.out, HO1.out] at this⟩
                cases o
                · go_wp2_with (first | (go_at_call 35; refine (in_calls _ _ _).mono ?_; rintro e wx ⟨rfl, hwx⟩; rw [hwx, HP1.out]; clear hwx wx) | (go_at_call 37; refine hcont.out.mono ?_; rintro e wx ⟨rfl, hwx⟩; rw [hwx]; clear hwx wx))
                  exact ⟨⟨k + 1, rfl, by omega, ⟨by rw [htk.out, HT.out]; simp [h12'.out]⟩, HZ⟩, by simp [intOf]; omega⟩
                · go_wp2_with (first | (go_at_call 35; refine (in_calls _ _ _).mono ?_; rintro e wx ⟨rfl, hwx⟩; rw [hwx, HP1.out]; clear hwx wx) | (go_at_call 37; refine hcont.out.mono ?_; rintro e wx ⟨rfl, hwx⟩; rw [hwx]; clear hwx wx))
                  go_ret
                  exact ⟨by simp [validB, hall.out], below_step HV.out HZ.out⟩
          · have hltb : decide (k < l3.length) = false := decide_eq_false (by omega)
            have HB3 : Aside0 (l3.all (prodB l0.length l2.length) = true) := ⟨by have := HT.out; rwa [List.take_of_length_le (by omega)] at this⟩
            obtain ⟨r1, hr1⟩ : ∃ r, rises (rdOf ByteArray.empty l2) l2.length = r := ⟨_, rfl⟩
            obtain ⟨r2, hr2⟩ : ∃ r, rises (fun i => (rd_T51 l0 i).f0) l0.length = r := ⟨_, rfl⟩
            obtain ⟨r3, hr3⟩ : ∃ r, rises (fun i => (rd_T45 l3 i).f0) l3.length = r := ⟨_, rfl⟩
            replace hr1 := Aside0.mk hr1
            replace hr2 := Aside0.mk hr2
            replace hr3 := Aside0.mk hr3
            have F0 := pw_cell_below HD.out C0.out
            have F2 := pw_cell_below HD.out C2.out
            have F3 := pw_cell_below HD.out C3.out
            have Z0 := Aside0.mk (Kd.C_below Y0.out HD.out)
            have Z2 := Aside0.mk (Kd.C_below Y2.out HD.out)
            have Z3 := Aside0.mk (Kd.C_below Y3.out HD.out)
            replace HV : Aside0 (Below w.heap.size w wr) := ⟨below_step HV.out HD.out⟩
            clear HD HT C0 C2 C3 D1 D2 Y0 Y2 Y3
            have Q0 := Aside0.mk F0
            have Q3 := Aside0.mk F3
            have hv : Aside0 (validB l0 l1 l2 l3 st = (r1 && r2 && r3)) := ⟨by simp [validB, e1.out, e2.out, e3.out, HP.out, HA.out, HB3.out, hr1.out, hr2.out, hr3.out, Bool.and_assoc]⟩
            cases r1
            · go_wp2_with (go_at_call 39; refine (rising_strings _ _ _ _ Z2.out).mono ?_; rintro e wx ⟨rfl, m, rfl⟩; rw [hr1.out])
              go_ret
              exact ⟨by rw [hv.out]; rfl, pw_below_drewN HV.out _⟩
            · cases r2
              · go_wp2_with (first | (go_at_call 39; refine (rising_strings _ _ _ _ Z2.out).mono ?_; rintro e wx ⟨rfl, m, rfl⟩; rw [hr1.out]) | (go_at_call 40; refine (rising_terms _ _ _ _ (Kd.C_below Z0.out (pw_below_drewN (Below.refl _ _) _))).mono ?_; rintro e wy ⟨rfl, hwy⟩; rw [hr2.out]; replace hwy := Aside0.mk hwy))
                go_ret
                exact ⟨by rw [hv.out]; rfl, below_step (pw_below_drewN HV.out _) hwy.out⟩
              · go_wp2_with (first | (go_at_call 39; refine (rising_strings _ _ _ _ Z2.out).mono ?_; rintro e wx ⟨rfl, m, rfl⟩; rw [hr1.out]) | (go_at_call 40; refine (rising_terms _ _ _ _ (Kd.C_below Z0.out (pw_below_drewN (Below.refl _ _) _))).mono ?_; rintro e wy ⟨rfl, hwy⟩; rw [hr2.out]; have F3 := pw_cell_below hwy (pw_cell_below (pw_below_drewN (Below.refl _ _) _) Q3.out); replace hwy := Aside0.mk hwy) | (go_at_call 42; refine (rising_prods _ _ _ _ (Kd.C_below (Kd.C_below Z3.out (pw_below_drewN (Below.refl _ _) _)) hwy.out)).mono ?_; rintro e wu ⟨rfl, hwu⟩; rw [hr3.out]; replace hwu := Aside0.mk hwu))
                go_ret
                exact ⟨by rw [hv.out]; simp, below_step (below_step (pw_below_drewN HV.out _) hwy.out) hwu.out⟩

end Go.Proofs.Ytggfiopajogiiaa.P
