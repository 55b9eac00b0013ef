/- Functions of the given program as plain Lean functions, each with the proof that its call comes to that function's answer (conditions: the hypotheses of each '.calls'). Printed by wip/tools/pw.py, a wrapper round the kit's print. -/
import Derived.Test.YtageaahlkiaigaaDoorPx0
import Derived.Test.YtageaahlkiaigaaDoorPx5
import Derived.Test.YtageaahlkiaigaaDoorWd9
namespace Go.Proofs.YtageaahlkiaigaaDoor.P
open Go.RowKit Go.Proofs.YtageaahlkiaigaaDoorW.PrintWords Go.Proofs.YtageaahlkiaigaaDoorW.PrintLast Go.Proofs.YtageaahlkiaigaaDoorW.PrintMore
attribute [local go_sem] max2_int min2_int max_two min_two max_three min_three max_four min_four   -- for this text's walks alone
set_option linter.unusedVariables false
set_option linter.unusedSimpArgs false

/-! ### syntagmlaw08_WordsNumbers: function 8 -/
def syntagmlaw08_WordsNumbers.l0 : Nat → Int → Bool → ByteArray → Int → Option (Bool)
  | 0, _, _, _, _ => none
  | k + 1, x0, x3, x4, x5 => if x5 > 0 then ((some (([((48 + (Int.tmod x5 10)) % 4294967296) % 256] : List Int) : List Int)).bind fun y236 => (if (strOfNums y236).size + x4.size ≤ 9223372036854775807 then (syntagmlaw08_WordsNumbers.l0 k x0 x3 ((strOfNums y236) ++ x4) ((Int.tdiv x5 10) % 4294967296)) else (none))) else (if x4.toList = ([] : List UInt8) then ((some (([((48 + (Int.tmod x5 10)) % 4294967296) % 256] : List Int) : List Int)).bind fun y239 => (if (strOfNums y239).size + x4.size ≤ 9223372036854775807 then (syntagmlaw08_WordsNumbers.l0 k x0 x3 ((strOfNums y239) ++ x4) ((Int.tdiv x5 10) % 4294967296)) else (none))) else ((word_Words.f x4).bind fun bt242 => (if 1 + x4.size ≤ 9223372036854775807 then ((word_Words.f ((⟨#[48]⟩ : ByteArray) ++ x4)).bind fun bt247 => (if x3 = true then (if bt242.2.1 = 0 then (if bt247.2.1 = 0 then (if (bt242.1.length : Int) = 2 then (if (bt247.1.length : Int) = 2 then (if 0 < (bt242.1.length : Int) then (if ((rd_T32 bt242.1 0).f0) = 1 then (if ((rd_T32 bt242.1 0).f2) = (wrap64 (x0)) then (if 0 < (bt247.1.length : Int) then (if ((rd_T32 bt247.1 0).f2) = (wrap64 (x0)) then (some (((rd_T32 bt242.1 0).f1).toList == x4.toList)) else (some false)) else (none)) else (some false)) else (some false)) else (none)) else (some false)) else (some false)) else (some false)) else (some false)) else (some false))) else (none))))
def syntagmlaw08_WordsNumbers.f (k : Nat) (a0 : Int) : Option (Bool) := (syntagmlaw08_works.f).bind fun t235 => (if t235 = true then (syntagmlaw08_WordsNumbers.l0 k (Int.tmod a0 10000000) t235 (⟨#[]⟩ : ByteArray) (Int.tmod a0 10000000)) else (some false))
theorem syntagmlaw08_WordsNumbers.mono_l : ∀ k, (∀ y0 y1 y2 y3, LeO (syntagmlaw08_WordsNumbers.l0 k y0 y1 y2 y3) (syntagmlaw08_WordsNumbers.l0 (k + 1) y0 y1 y2 y3))
  | 0 => fun _ _ _ _ r h => by simp [syntagmlaw08_WordsNumbers.l0] at h
  | k + 1 => by
    have ih0 := syntagmlaw08_WordsNumbers.mono_l k
    · intro y0 y1 y2 y3
      unfold syntagmlaw08_WordsNumbers.l0
      repeat' first
      | (with_reducible exact ih0 _ _ _ _)
      | (with_reducible exact LeO.refl _)
      | (with_reducible exact LeO.none _)
      | (with_reducible refine LeO.ite ?_ ?_)
      | (with_reducible refine LeO.bind ?_ (fun _ => ?_))
      | exact ih0 _ _ _ _
      | exact LeO.none _
      | refine LeO.ite ?_ ?_
      | refine LeO.bind ?_ (fun _ => ?_)
theorem syntagmlaw08_WordsNumbers.mono : ∀ a0 k, LeO (syntagmlaw08_WordsNumbers.f k a0) (syntagmlaw08_WordsNumbers.f (k + 1) a0) := by
  intro a0 k
  have ih0 := syntagmlaw08_WordsNumbers.mono_l k
  unfold syntagmlaw08_WordsNumbers.f
  repeat' first
      | (with_reducible exact ih0 _ _ _ _)
      | (with_reducible exact LeO.refl _)
      | (with_reducible exact LeO.none _)
      | (with_reducible refine LeO.ite ?_ ?_)
      | (with_reducible refine LeO.bind ?_ (fun _ => ?_))
      | exact ih0 _ _ _ _
      | exact LeO.none _
      | refine LeO.ite ?_ ?_
      | refine LeO.bind ?_ (fun _ => ?_)
set_option maxHeartbeats 8000000 in
set_option maxRecDepth 100000 in
theorem syntagmlaw08_WordsNumbers.calls (k : Nat) (a0 : Int) (r : Bool) (w : World) (hT : r = true) (h : syntagmlaw08_WordsNumbers.f k a0 = some r) :
    Calls Tryd.prog 8 #[.int .u32 a0] w fun e w' => e = .returned (.bool r) ∧ Below w.heap.size w w' := by
  have HT := Aside0.mk hT
  clear hT
  have HB := Aside0.mk (Below.refl w.heap.size w)
  have H : ((syntagmlaw08_works.f).bind fun t235 => (if t235 = true then (syntagmlaw08_WordsNumbers.l0 k (Int.tmod a0 10000000) t235 (⟨#[]⟩ : ByteArray) (Int.tmod a0 10000000)) else (some false))) = some r := h
  clear h
  replace H := Option.bind_eq_some_iff.mp H
  obtain ⟨t235, A20, H⟩ := H
  replace H : (if t235 = true then (syntagmlaw08_WordsNumbers.l0 k (Int.tmod a0 10000000) t235 (⟨#[]⟩ : ByteArray) (Int.tmod a0 10000000)) else (some false)) = some r := H
  have A2 := Aside0.mk A20
  clear A20
  by_cases c3 : t235 = true
  · subst c3
    have H1 : (syntagmlaw08_WordsNumbers.l0 k (Int.tmod a0 10000000) true (⟨#[]⟩ : ByteArray) (Int.tmod a0 10000000)) = some r := by rw [if_pos rfl] at H; exact H
    clear H
    have H := H1
    clear H1
    have H' := Aside0.mk H
    clear H
    go_enter Tryd.func8, Tryd.ntmps8
    go_wp2_with (first | ((with_reducible refine gate_callee (f := 9) rfl ?_); refine goesL_ (some 12) rfl rfl Tryd.func9 (by kernel_rfl) rfl #[] rfl (by (try simp only [List.map_toArray, List.map_cons, List.map_nil]); first | done | rfl | (simp only [List.length_drop, List.length_take]; rfl)) ?_; (with_reducible refine (syntagmlaw08_works.calls  true _ ?side1 A2.out).mono ?_); (case side1 => rfl); rintro e w4 ⟨rfl, hb⟩; refine ⟨_, rfl, ?_⟩; have n0_ := Aside0.mk (below_step (by repeat (first | (with_reducible first | exact HB.out | apply below_alloc | apply pw_below_drewN | apply below_drew1) | exact HB.out)) hb); clear HB; have HB := n0_; clear n0_; (try clear hb); (try clear hb2); (try clear hk); (try clear hi)))
    go_loopg [4, 5] k (fun kq v4 v5 w' => ∃ (x4_1 : ByteArray) (x5_1 : Int), v4 = .string x4_1 ∧ v5 = .int .u32 x5_1 ∧ Aside0 (syntagmlaw08_WordsNumbers.l0 kq (Int.tmod a0 10000000) true x4_1 x5_1 = some r) ∧ Aside0 (kq ≤ k) ∧ Aside0 (Below w.heap.size w w'))
    case atStart => exact ⟨((⟨#[]⟩ : ByteArray)), (Int.tmod a0 10000000), (by first | rfl | (simp; done) | (simp [*]; done)), (by first | rfl | (simp; done) | (simp [*]; done)), H', ⟨Nat.le_refl _⟩, ⟨by repeat (first | (with_reducible first | exact HB.out | apply below_alloc | apply pw_below_drewN | apply below_drew1) | exact HB.out)⟩⟩
    case round =>
      clear H'
      try clear p2
      try clear c3
      obtain ⟨x4_1, x5_1, rfl, rfl, HA, HK1, HB⟩ := hrel
      cases gk with
      | zero => exact absurd HA.out (by simp [syntagmlaw08_WordsNumbers.l0])
      | succ k1 =>
        have H := HA.out
        clear HA
        simp only [syntagmlaw08_WordsNumbers.l0] at H
        by_cases c5 : x5_1 > 0
        · rw [if_pos c5] at H
          have c5b0 : decide (0 < x5_1) = true := decide_eq_true c5
          clear c5
          obtain ⟨y236, hy236⟩ : ∃ y_ : List Int, y_ = (([((48 + (Int.tmod x5_1 10)) % 4294967296) % 256] : List Int)) := ⟨_, rfl⟩
          replace H : (if (strOfNums y236).size + x4_1.size ≤ 9223372036854775807 then (syntagmlaw08_WordsNumbers.l0 k1 (Int.tmod a0 10000000) true ((strOfNums y236) ++ x4_1) ((Int.tdiv x5_1 10) % 4294967296)) else (none)) = some r := by first | (rw [hy236]; with_reducible exact H) | (have H2_ := (Option.bind_some _ _).symm.trans H; rw [hy236]; with_reducible exact H2_) | (have H2_ := (Option.bind_some _ _).symm.trans H; with_reducible exact H2_) | with_reducible exact H | (rw [hy236]; exact H) | exact H
          have Ny236 := Aside0.mk hy236
          clear hy236
          by_cases c6 : (strOfNums y236).size + x4_1.size ≤ 9223372036854775807
          · rw [if_pos c6] at H
            have c6b0 := eq_true c6
            have c6b1 : decide ((strOfNums y236).size + x4_1.size ≤ 9223372036854775807) = true := decide_eq_true c6
            try have c6b2 : (9223372036854775807 < (strOfNums y236).size + x4_1.size) = False := eq_false (Nat.not_lt.2 c6)
            have H' := Aside0.mk H
            clear H
            go_wp2_with (first | ((with_reducible refine gate_dst (N := 30) rfl ?_); (try (refine gate_guard (by rfl) ?_; dsimp only)); refine Kd.R_lit (Kd.int .u8) _ 5 ?hg (N := 30) ?hd (xs := ([((48 + (Int.tmod x5_1 10)) % 4294967296) % 256] : List Int)) (inner := [.int .u8 (((48 + (Int.tmod x5_1 10)) % 4294967296) % 256)]) (ok := fun _ => True) (okp := fun _ => True) ?hr ?hp (fun _ hk => hk) trivial (Below.refl _ _) (Nat.le_refl _) (by simp) ?_; (case hd => rfl); (case hg => rfl); (case hr => first | (go_simp; done) | (go_simp; rfl)); (case hp => exact (Reps.one (show Kd.M (Kd.int .u8) _ _ _ (((48 + (Int.tmod x5_1 10)) % 4294967296) % 256) [.int .u8 (((48 + (Int.tmod x5_1 10)) % 4294967296) % 256)] from rfl) (Reps.none _ _))); intro v237 w7 ho8 hb hg_ hnew_; clear hg_ hnew_; (first | rw [← Ny236.out] at ho8 | (simp only [Int.reduceToNat] at ho8; rw [← Ny236.out] at ho8)); have n0_ := Aside0.mk (Kd.R_lower ho8 (below_size (by repeat (first | (with_reducible first | exact HB.out | apply below_alloc | apply pw_below_drewN | apply below_drew1) | exact HB.out)))); have n1_ := Aside0.mk (below_step (by repeat (first | (with_reducible first | exact HB.out | apply below_alloc | apply pw_below_drewN | apply below_drew1) | exact HB.out)) hb); clear HB; have HO238 := n0_; have HB := n1_; clear n0_ n1_; clear hb ho8; have hcv9 := own_string (P := Tryd.prog) Tryd.underlying35 Tryd.underlying5 Tryd.underlying9 (Kd.own_of_R HO238.out)))
            go_roundg k1
            case measure => have := HK1.out; omega
            case rel => exact ⟨((strOfNums y236) ++ x4_1), ((Int.tdiv x5_1 10) % 4294967296), (by first | rfl | (simp; done) | (simp [*]; done)), (by first | rfl | (simp; done) | (simp [*]; done)), H', ⟨by have := HK1.out; omega⟩, ⟨by repeat (first | (with_reducible first | exact HB.out | apply below_alloc | apply pw_below_drewN | apply below_drew1) | exact HB.out)⟩⟩
          · rw [if_neg c6] at H
            exact absurd H (by simp)
        · rw [if_neg c5] at H
          have c5b0 : decide (0 < x5_1) = false := decide_eq_false c5
          clear c5
          by_cases c10 : x4_1.toList = ([] : List UInt8)
          · rw [if_pos c10] at H
            have c10b0 : (x4_1.toList == ([] : List UInt8)) = true := beq_iff_eq.mpr c10
            have c10b1 : (x4_1.toList != ([] : List UInt8)) = false := bne_eq_false_iff_eq.mpr c10
            clear c10
            obtain ⟨y239, hy239⟩ : ∃ y_ : List Int, y_ = (([((48 + (Int.tmod x5_1 10)) % 4294967296) % 256] : List Int)) := ⟨_, rfl⟩
            replace H : (if (strOfNums y239).size + x4_1.size ≤ 9223372036854775807 then (syntagmlaw08_WordsNumbers.l0 k1 (Int.tmod a0 10000000) true ((strOfNums y239) ++ x4_1) ((Int.tdiv x5_1 10) % 4294967296)) else (none)) = some r := by first | (rw [hy239]; with_reducible exact H) | (have H2_ := (Option.bind_some _ _).symm.trans H; rw [hy239]; with_reducible exact H2_) | (have H2_ := (Option.bind_some _ _).symm.trans H; with_reducible exact H2_) | with_reducible exact H | (rw [hy239]; exact H) | exact H
            have Ny239 := Aside0.mk hy239
            clear hy239
            by_cases c11 : (strOfNums y239).size + x4_1.size ≤ 9223372036854775807
            · rw [if_pos c11] at H
              have c11b0 := eq_true c11
              have c11b1 : decide ((strOfNums y239).size + x4_1.size ≤ 9223372036854775807) = true := decide_eq_true c11
              try have c11b2 : (9223372036854775807 < (strOfNums y239).size + x4_1.size) = False := eq_false (Nat.not_lt.2 c11)
              have H' := Aside0.mk H
              clear H
              go_wp2_with (first | ((with_reducible refine gate_dst (N := 30) rfl ?_); (try (refine gate_guard (by rfl) ?_; dsimp only)); refine Kd.R_lit (Kd.int .u8) _ 5 ?hg (N := 30) ?hd (xs := ([((48 + (Int.tmod x5_1 10)) % 4294967296) % 256] : List Int)) (inner := [.int .u8 (((48 + (Int.tmod x5_1 10)) % 4294967296) % 256)]) (ok := fun _ => True) (okp := fun _ => True) ?hr ?hp (fun _ hk => hk) trivial (Below.refl _ _) (Nat.le_refl _) (by simp) ?_; (case hd => rfl); (case hg => rfl); (case hr => first | (go_simp; done) | (go_simp; rfl)); (case hp => exact (Reps.one (show Kd.M (Kd.int .u8) _ _ _ (((48 + (Int.tmod x5_1 10)) % 4294967296) % 256) [.int .u8 (((48 + (Int.tmod x5_1 10)) % 4294967296) % 256)] from rfl) (Reps.none _ _))); intro v240 w12 ho13 hb hg_ hnew_; clear hg_ hnew_; (first | rw [← Ny239.out] at ho13 | (simp only [Int.reduceToNat] at ho13; rw [← Ny239.out] at ho13)); have n0_ := Aside0.mk (Kd.R_lower ho13 (below_size (by repeat (first | (with_reducible first | exact HB.out | apply below_alloc | apply pw_below_drewN | apply below_drew1) | exact HB.out)))); have n1_ := Aside0.mk (below_step (by repeat (first | (with_reducible first | exact HB.out | apply below_alloc | apply pw_below_drewN | apply below_drew1) | exact HB.out)) hb); clear HB; have HO241 := n0_; have HB := n1_; clear n0_ n1_; clear hb ho13; have hcv14 := own_string (P := Tryd.prog) Tryd.underlying35 Tryd.underlying5 Tryd.underlying9 (Kd.own_of_R HO241.out)))
              go_roundg k1
              case measure => have := HK1.out; omega
              case rel => exact ⟨((strOfNums y239) ++ x4_1), ((Int.tdiv x5_1 10) % 4294967296), (by first | rfl | (simp; done) | (simp [*]; done)), (by first | rfl | (simp; done) | (simp [*]; done)), H', ⟨by have := HK1.out; omega⟩, ⟨by repeat (first | (with_reducible first | exact HB.out | apply below_alloc | apply pw_below_drewN | apply below_drew1) | exact HB.out)⟩⟩
            · rw [if_neg c11] at H
              exact absurd H (by simp)
          · rw [if_neg c10] at H
            have c10b0 : (x4_1.toList == ([] : List UInt8)) = false := beq_eq_false_iff_ne.mpr c10
            have c10b1 : (x4_1.toList != ([] : List UInt8)) = true := bne_iff_ne.mpr c10
            replace H := Option.bind_eq_some_iff.mp H
            obtain ⟨⟨t242, t243, t244⟩, A150, H⟩ := H
            replace H : (if 1 + x4_1.size ≤ 9223372036854775807 then ((word_Words.f ((⟨#[48]⟩ : ByteArray) ++ x4_1)).bind fun bt247 => (if true = true then (if t243 = 0 then (if bt247.2.1 = 0 then (if (t242.length : Int) = 2 then (if (bt247.1.length : Int) = 2 then (if 0 < (t242.length : Int) then (if ((rd_T32 t242 0).f0) = 1 then (if ((rd_T32 t242 0).f2) = (wrap64 ((Int.tmod a0 10000000))) then (if 0 < (bt247.1.length : Int) then (if ((rd_T32 bt247.1 0).f2) = (wrap64 ((Int.tmod a0 10000000))) then (some (((rd_T32 t242 0).f1).toList == x4_1.toList)) else (some false)) else (none)) else (some false)) else (some false)) else (none)) else (some false)) else (some false)) else (some false)) else (some false)) else (some false))) else (none)) = some r := H
            have A15 := Aside0.mk A150
            clear A150
            by_cases c16 : 1 + x4_1.size ≤ 9223372036854775807
            · rw [if_pos c16] at H
              have c16b0 := eq_true c16
              have c16b1 : decide (1 + x4_1.size ≤ 9223372036854775807) = true := decide_eq_true c16
              try have c16b2 : (9223372036854775807 < 1 + x4_1.size) = False := eq_false (Nat.not_lt.2 c16)
              replace H := Option.bind_eq_some_iff.mp H
              obtain ⟨⟨t247, t248, t249⟩, A170, H⟩ := H
              replace H : (if true = true then (if t243 = 0 then (if t248 = 0 then (if (t242.length : Int) = 2 then (if (t247.length : Int) = 2 then (if 0 < (t242.length : Int) then (if ((rd_T32 t242 0).f0) = 1 then (if ((rd_T32 t242 0).f2) = (wrap64 ((Int.tmod a0 10000000))) then (if 0 < (t247.length : Int) then (if ((rd_T32 t247 0).f2) = (wrap64 ((Int.tmod a0 10000000))) then (some (((rd_T32 t242 0).f1).toList == x4_1.toList)) else (some false)) else (none)) else (some false)) else (some false)) else (none)) else (some false)) else (some false)) else (some false)) else (some false)) else (some false)) = some r := H
              have A17 := Aside0.mk A170
              clear A170
              replace H : (if t243 = 0 then (if t248 = 0 then (if (t242.length : Int) = 2 then (if (t247.length : Int) = 2 then (if 0 < (t242.length : Int) then (if ((rd_T32 t242 0).f0) = 1 then (if ((rd_T32 t242 0).f2) = (wrap64 ((Int.tmod a0 10000000))) then (if 0 < (t247.length : Int) then (if ((rd_T32 t247 0).f2) = (wrap64 ((Int.tmod a0 10000000))) then (some (((rd_T32 t242 0).f1).toList == x4_1.toList)) else (some false)) else (none)) else (some false)) else (some false)) else (none)) else (some false)) else (some false)) else (some false)) else (some false)) = some r := by first | (rw [if_pos rfl] at H; exact H) | (rw [if_pos trivial] at H; exact H)
              by_cases c18 : t243 = 0
              · rw [if_pos c18] at H
                have c18b0 : (t243 == 0) = true := beq_iff_eq.mpr c18
                have c18b1 : (t243 != 0) = false := bne_eq_false_iff_eq.mpr c18
                clear c18
                by_cases c19 : t248 = 0
                · rw [if_pos c19] at H
                  have c19b0 : (t248 == 0) = true := beq_iff_eq.mpr c19
                  have c19b1 : (t248 != 0) = false := bne_eq_false_iff_eq.mpr c19
                  clear c19
                  by_cases c20 : (t242.length : Int) = 2
                  · rw [if_pos c20] at H
                    have c20b0 : ((t242.length : Int) == 2) = true := beq_iff_eq.mpr c20
                    have c20b1 : ((t242.length : Int) != 2) = false := bne_eq_false_iff_eq.mpr c20
                    clear c20
                    by_cases c21 : (t247.length : Int) = 2
                    · rw [if_pos c21] at H
                      have c21b0 : ((t247.length : Int) == 2) = true := beq_iff_eq.mpr c21
                      have c21b1 : ((t247.length : Int) != 2) = false := bne_eq_false_iff_eq.mpr c21
                      clear c21
                      by_cases c22 : 0 < (t242.length : Int)
                      · rw [if_pos c22] at H
                        have c22b0 : decide (0 < (t242.length : Int)) = true := decide_eq_true c22
                        have c22b1 : decide (0 < t242.length) = true := decide_eq_true (by omega)
                        clear c22
                        by_cases c23 : ((rd_T32 t242 0).f0) = 1
                        · rw [if_pos c23] at H
                          have c23b0 : (((rd_T32 t242 0).f0) == 1) = true := beq_iff_eq.mpr c23
                          have c23b1 : (((rd_T32 t242 0).f0) != 1) = false := bne_eq_false_iff_eq.mpr c23
                          clear c23
                          by_cases c24 : ((rd_T32 t242 0).f2) = (wrap64 ((Int.tmod a0 10000000)))
                          · rw [if_pos c24] at H
                            have c24b0 : (((rd_T32 t242 0).f2) == (wrap64 ((Int.tmod a0 10000000)))) = true := beq_iff_eq.mpr c24
                            have c24b1 : (((rd_T32 t242 0).f2) != (wrap64 ((Int.tmod a0 10000000)))) = false := bne_eq_false_iff_eq.mpr c24
                            clear c24
                            by_cases c25 : 0 < (t247.length : Int)
                            · rw [if_pos c25] at H
                              have c25b0 : decide (0 < (t247.length : Int)) = true := decide_eq_true c25
                              have c25b1 : decide (0 < t247.length) = true := decide_eq_true (by omega)
                              clear c25
                              by_cases c26 : ((rd_T32 t247 0).f2) = (wrap64 ((Int.tmod a0 10000000)))
                              · rw [if_pos c26] at H
                                have c26b0 : (((rd_T32 t247 0).f2) == (wrap64 ((Int.tmod a0 10000000)))) = true := beq_iff_eq.mpr c26
                                have c26b1 : (((rd_T32 t247 0).f2) != (wrap64 ((Int.tmod a0 10000000)))) = false := bne_eq_false_iff_eq.mpr c26
                                clear c26
                                obtain rfl := Option.some.inj H
                                go_wp2_with (first | ((with_reducible refine gate_callee (f := 14) rfl ?_); refine goesL_ (some 36) rfl rfl Tryd.func14 (by kernel_rfl) rfl #[.string x4_1] rfl (by (try simp only [List.map_toArray, List.map_cons, List.map_nil]); first | done | rfl | (simp only [List.length_drop, List.length_take]; rfl)) ?_; (with_reducible refine (word_Words.calls x4_1 t242 t243 t244 _ A15.out).mono ?_); rintro e w27 ⟨v245, rfl, ho0, hb⟩; refine ⟨_, rfl, ?_⟩; have n0_ := Aside0.mk (Kd.R_lower ho0 (below_size (by repeat (first | (with_reducible first | exact HB.out | apply below_alloc | apply pw_below_drewN | apply below_drew1) | exact HB.out)))); have n1_ := Aside0.mk (below_step (by repeat (first | (with_reducible first | exact HB.out | apply below_alloc | apply pw_below_drewN | apply below_drew1) | exact HB.out)) hb); clear HB; have HO246 := n0_; have HB := n1_; clear n0_ n1_; (try clear hb); (try clear hb2); (try clear hk); (try clear hi); (try clear ho0)) | ((with_reducible refine gate_callee (f := 14) rfl ?_); refine goesL_ (some 43) rfl rfl Tryd.func14 (by kernel_rfl) rfl #[.string ((⟨#[48]⟩ : ByteArray) ++ x4_1)] rfl (by (try simp only [List.map_toArray, List.map_cons, List.map_nil]); first | done | rfl | (simp only [List.length_drop, List.length_take]; rfl)) ?_; (with_reducible refine (word_Words.calls ((⟨#[48]⟩ : ByteArray) ++ x4_1) t247 t248 t249 _ A17.out).mono ?_); rintro e w28 ⟨v250, rfl, ho0, hb⟩; refine ⟨_, rfl, ?_⟩; have n0_ := Aside0.mk (Kd.R_elder' (by (with_reducible repeat (first | apply Kd.R_alloc | apply Kd.R_drewN | apply Kd.R_drew)); exact HO246.out) (Kd.R_base ho0) hb); have n1_ := Aside0.mk (Kd.R_lower (Kd.R_new' ho0 (Kd.R_lt (by (with_reducible repeat (first | apply Kd.R_alloc | apply Kd.R_drewN | apply Kd.R_drew)); exact HO246.out))) (below_size (by repeat (first | (with_reducible first | exact HB.out | apply below_alloc | apply pw_below_drewN | apply below_drew1) | exact HB.out)))); have n2_ := Aside0.mk (below_step (by repeat (first | (with_reducible first | exact HB.out | apply below_alloc | apply pw_below_drewN | apply below_drew1) | exact HB.out)) hb); clear HO246; clear HB; have HO246 := n0_; have HO251 := n1_; have HB := n2_; clear n0_ n1_ n2_; (try clear hb); (try clear hb2); (try clear hk); (try clear hi); (try clear ho0); obtain ⟨Ao29, co29, eo29⟩ := Kd.R_slice HO246.out; subst eo29; obtain ⟨Ao30, co30, eo30⟩ := Kd.R_slice HO251.out; subst eo30; have p252 : 0 ≤ (0 : Int) := (by omega); have q252 : 0 < (t242.length : Int) := of_decide_eq_true (by first | (with_reducible assumption) | assumption); obtain ⟨ad252, e252, hx252_0, hx252_1, hx252_2, hx252_3⟩ := at_T32 (Kd.R_reads' HO246.out).2.2 0 p252 q252; cases e252; have qi252 : (0 < t242.length) = True := eq_true (by omega); (try rw [show ((0 : Int)).toNat = 0 from rfl] at hx252_0); (try rw [show 0 * 4 = 0 from rfl] at hx252_0); (try rw [Addr.add_zero'] at hx252_0); (try rw [show ((0 : Int)).toNat = 0 from rfl] at hx252_1); (try rw [show 0 * 4 = 0 from rfl] at hx252_1); (try rw [Addr.add_zero'] at hx252_1); (try rw [show ((0 : Int)).toNat = 0 from rfl] at hx252_2); (try rw [show 0 * 4 = 0 from rfl] at hx252_2); (try rw [Addr.add_zero'] at hx252_2); (try rw [show ((0 : Int)).toNat = 0 from rfl] at hx252_3); (try rw [show 0 * 4 = 0 from rfl] at hx252_3); (try rw [Addr.add_zero'] at hx252_3); replace p252 := eq_true p252; replace q252 := eq_true q252; have p253 : 0 ≤ (0 : Int) := (by omega); have q253 : 0 < (t242.length : Int) := of_decide_eq_true (by first | (with_reducible assumption) | assumption); obtain ⟨ad253, e253, hx253_0, hx253_1, hx253_2, hx253_3⟩ := at_T32 (Kd.R_reads' HO246.out).2.2 0 p253 q253; obtain rfl : ad252 = ad253 := (by injection e253); have qi253 : (0 < t242.length) = True := eq_true (by omega); (try rw [show ((0 : Int)).toNat = 0 from rfl] at hx253_0); (try rw [show 0 * 4 = 0 from rfl] at hx253_0); (try rw [Addr.add_zero'] at hx253_0); (try rw [show ((0 : Int)).toNat = 0 from rfl] at hx253_1); (try rw [show 0 * 4 = 0 from rfl] at hx253_1); (try rw [Addr.add_zero'] at hx253_1); (try rw [show ((0 : Int)).toNat = 0 from rfl] at hx253_2); (try rw [show 0 * 4 = 0 from rfl] at hx253_2); (try rw [Addr.add_zero'] at hx253_2); (try rw [show ((0 : Int)).toNat = 0 from rfl] at hx253_3); (try rw [show 0 * 4 = 0 from rfl] at hx253_3); (try rw [Addr.add_zero'] at hx253_3); replace p253 := eq_true p253; replace q253 := eq_true q253; have p254 : 0 ≤ (0 : Int) := (by omega); have q254 : 0 < (t247.length : Int) := of_decide_eq_true (by first | (with_reducible assumption) | assumption); obtain ⟨ad254, e254, hx254_0, hx254_1, hx254_2, hx254_3⟩ := at_T32 (Kd.R_reads' HO251.out).2.2 0 p254 q254; cases e254; have qi254 : (0 < t247.length) = True := eq_true (by omega); (try rw [show ((0 : Int)).toNat = 0 from rfl] at hx254_0); (try rw [show 0 * 4 = 0 from rfl] at hx254_0); (try rw [Addr.add_zero'] at hx254_0); (try rw [show ((0 : Int)).toNat = 0 from rfl] at hx254_1); (try rw [show 0 * 4 = 0 from rfl] at hx254_1); (try rw [Addr.add_zero'] at hx254_1); (try rw [show ((0 : Int)).toNat = 0 from rfl] at hx254_2); (try rw [show 0 * 4 = 0 from rfl] at hx254_2); (try rw [Addr.add_zero'] at hx254_2); (try rw [show ((0 : Int)).toNat = 0 from rfl] at hx254_3); (try rw [show 0 * 4 = 0 from rfl] at hx254_3); (try rw [Addr.add_zero'] at hx254_3); replace p254 := eq_true p254; replace q254 := eq_true q254; have p255 : 0 ≤ (0 : Int) := (by omega); have q255 : 0 < (t242.length : Int) := of_decide_eq_true (by first | (with_reducible assumption) | assumption); obtain ⟨ad255, e255, hx255_0, hx255_1, hx255_2, hx255_3⟩ := at_T32 (Kd.R_reads' HO246.out).2.2 0 p255 q255; obtain rfl : ad252 = ad255 := (by injection e255); have qi255 : (0 < t242.length) = True := eq_true (by omega); (try rw [show ((0 : Int)).toNat = 0 from rfl] at hx255_0); (try rw [show 0 * 4 = 0 from rfl] at hx255_0); (try rw [Addr.add_zero'] at hx255_0); (try rw [show ((0 : Int)).toNat = 0 from rfl] at hx255_1); (try rw [show 0 * 4 = 0 from rfl] at hx255_1); (try rw [Addr.add_zero'] at hx255_1); (try rw [show ((0 : Int)).toNat = 0 from rfl] at hx255_2); (try rw [show 0 * 4 = 0 from rfl] at hx255_2); (try rw [Addr.add_zero'] at hx255_2); (try rw [show ((0 : Int)).toNat = 0 from rfl] at hx255_3); (try rw [show 0 * 4 = 0 from rfl] at hx255_3); (try rw [Addr.add_zero'] at hx255_3); replace p255 := eq_true p255; replace q255 := eq_true q255))
                                go_ret
                                exact ⟨by first | rfl | (simp [errW_none, errW_some] <;> rfl) | (simp [*, errW_none, errW_some] <;> rfl), by repeat (first | (with_reducible first | exact HB.out | apply below_alloc | apply pw_below_drewN | apply below_drew1) | exact HB.out)⟩
                              · rw [if_neg c26] at H
                                have c26b0 : (((rd_T32 t247 0).f2) == (wrap64 ((Int.tmod a0 10000000)))) = false := beq_eq_false_iff_ne.mpr c26
                                have c26b1 : (((rd_T32 t247 0).f2) != (wrap64 ((Int.tmod a0 10000000)))) = true := bne_iff_ne.mpr c26
                                exact absurd ((Option.some.inj H).trans HT.out) (by decide)
                            · rw [if_neg c25] at H
                              exact absurd H (by simp)
                          · rw [if_neg c24] at H
                            have c24b0 : (((rd_T32 t242 0).f2) == (wrap64 ((Int.tmod a0 10000000)))) = false := beq_eq_false_iff_ne.mpr c24
                            have c24b1 : (((rd_T32 t242 0).f2) != (wrap64 ((Int.tmod a0 10000000)))) = true := bne_iff_ne.mpr c24
                            exact absurd ((Option.some.inj H).trans HT.out) (by decide)
                        · rw [if_neg c23] at H
                          have c23b0 : (((rd_T32 t242 0).f0) == 1) = false := beq_eq_false_iff_ne.mpr c23
                          have c23b1 : (((rd_T32 t242 0).f0) != 1) = true := bne_iff_ne.mpr c23
                          exact absurd ((Option.some.inj H).trans HT.out) (by decide)
                      · rw [if_neg c22] at H
                        exact absurd H (by simp)
                    · rw [if_neg c21] at H
                      have c21b0 : ((t247.length : Int) == 2) = false := beq_eq_false_iff_ne.mpr c21
                      have c21b1 : ((t247.length : Int) != 2) = true := bne_iff_ne.mpr c21
                      exact absurd ((Option.some.inj H).trans HT.out) (by decide)
                  · rw [if_neg c20] at H
                    have c20b0 : ((t242.length : Int) == 2) = false := beq_eq_false_iff_ne.mpr c20
                    have c20b1 : ((t242.length : Int) != 2) = true := bne_iff_ne.mpr c20
                    exact absurd ((Option.some.inj H).trans HT.out) (by decide)
                · rw [if_neg c19] at H
                  have c19b0 : (t248 == 0) = false := beq_eq_false_iff_ne.mpr c19
                  have c19b1 : (t248 != 0) = true := bne_iff_ne.mpr c19
                  exact absurd ((Option.some.inj H).trans HT.out) (by decide)
              · rw [if_neg c18] at H
                have c18b0 : (t243 == 0) = false := beq_eq_false_iff_ne.mpr c18
                have c18b1 : (t243 != 0) = true := bne_iff_ne.mpr c18
                exact absurd ((Option.some.inj H).trans HT.out) (by decide)
            · rw [if_neg c16] at H
              exact absurd H (by simp)
  · replace c3 := Bool.eq_false_iff.mpr c3
    subst c3
    have H1 : (some false) = some r := by rw [if_neg (show ¬ (false = true) by decide)] at H; exact H
    clear H
    have H := H1
    clear H1
    exact absurd ((Option.some.inj H).trans HT.out) (by decide)

end Go.Proofs.YtageaahlkiaigaaDoor.P
