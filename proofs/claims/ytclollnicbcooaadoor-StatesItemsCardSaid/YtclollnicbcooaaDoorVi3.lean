/- Texts of this claim put together: Px8, SRefV, Px9, Px10, Px2, Px11. -/
import Derived.Test.YtclollnicbcooaaDoorVi2
import Derived.Test.YtclollnicbcooaaDoorVi0
import Derived.IntWalk
set_option linter.unusedVariables false
set_option linter.unusedSimpArgs false
set_option linter.unusedSectionVars false
section
namespace Go.Proofs.YtclollnicbcooaaDoor.P
open Go.RowKit Go.Proofs.YtclollnicbcooaaDoorW.PrintWords Go.Proofs.YtclollnicbcooaaDoorW.PrintLast Go.Proofs.YtclollnicbcooaaDoorW.PrintMore
attribute [local go_sem] max2_int min2_int max_two min_two max_three min_three max_four min_four

/-! ### syntagmlaw14_Row: function 14 -/
def syntagmlaw14_Row.l0 : Nat → List (S37) → List (S39) → Int → Option ((List (S39)))
 | 0, _, _, _ => none
 | k + 1, x0, x3, x4 => if x4 < (x0.length : Int) then (if 0 ≤ x4 then (if x3.length < 8796093022208 then (syntagmlaw14_Row.l0 k x0 (x3 ++ [(⟨(rd_T37 x0 x4).f0, (rd_T37 x0 x4).f1⟩ : S39)]) (wrap64 (x4 + 1))) else (none)) else (none)) else (some x3)
def syntagmlaw14_Row.f (k : Nat) (l0 : List (S37)) : Option ((List (S39))) := syntagmlaw14_Row.l0 k l0 ([] : List (S39)) 0
def syntagmlaw14_Row.T5 : Bool × List (List Nat × List Nat) := (true, [([], []), ([], []), ([], []), ([1, 2], [1, 2]), ([3], [3]), ([4], [4]), ([], []), ([], []), ([6, 7], [6, 7]), ([8], [8]), ([9], [9]), ([5, 10], [5, 10]), ([11], [11]), ([0, 12], [0, 12]), ([13, 13, 0, 1, 2, 3, 4, 5, 6, 7, 8, 9, 10, 11, 12, 13], [0, 13])])
def syntagmlaw14_Row.B5 : List Nat := [0, 0, 0, 6, 14, 30, 0, 0, 192, 448, 960, 2046, 4094, 8191, 16383]
theorem syntagmlaw14_Row.tab5 : rtab .any (opsOf Tryd.f14 5) = syntagmlaw14_Row.T5 := by kernel_rfl
theorem syntagmlaw14_Row.bits5 : waitsOk syntagmlaw14_Row.T5.2 syntagmlaw14_Row.B5 = true := by kernel_rfl
set_option maxHeartbeats 8000000 in
set_option maxRecDepth 100000 in
theorem syntagmlaw14_Row.calls (k : Nat) (A0 : Option Addr) (c0 : Nat) (l0 : List (S37)) (r : List (S39)) (w : World) (hr0 : Kd.C k37 w A0 l0.length l0) (hc0 : l0.length ≤ c0) (h : syntagmlaw14_Row.f k l0 = some r) :
  Calls Tryd.prog 14 #[.slice A0 l0.length c0] w fun e w' => ∃ v0_ : Value, e = .returned (v0_) ∧ Kd.R k39 39 w' w.heap.size (fun _ => True) v0_ r ∧ Below w.heap.size w w' := by
 have hu39 := Tryd.underlying39
 have HR0 := jM hr0
 have HC0 := jM hc0
 clear hr0 hc0
 have HB := jM (Below.refl w.heap.size w)
 have H : (syntagmlaw14_Row.l0 k l0 ([] : List (S39)) 0) = some r := h
 clear h
 have H' := jM H
 clear H
 go_enter Tryd.func14, Tryd.ntmps14
 go_wp2
 go_loopg [3, 4] k (fun kq v3 v4 w' => ∃ (x3_1 : List (S39)) (x4_1 : Int), v4 = .int .i64 x4_1 ∧ Aside0 (syntagmlaw14_Row.l0 kq l0 x3_1 x4_1 = some r) ∧ Aside0 (kq ≤ k) ∧ Aside0 (Kd.R k39 39 w' w.heap.size (fun _ => True) v3 x3_1) ∧ Aside0 (Below w.heap.size w w'))
 case atStart => exact ⟨(([] : List (S39))), (0), (by first | rfl | (simp; done) | (simp [*]; done)), H', ⟨Nat.le_refl _⟩, ⟨by first | exact Kd.R_nil _ _ _ _ _ | exact Kd.N_nil _ _ _ _ _ | exact Kd.V_nil _ _ _ _ _ | exact Kd.Q_nil _ _ _ _ _ | exact Kd.S_nil _ _ _ _ _⟩, ⟨by repeat (first | (with_reducible first | exact HB.out | apply jA | apply jN | apply jD) | exact HB.out)⟩⟩
 case round =>
  clear H'
  try clear c1
  obtain ⟨x3_1, x4_1, rfl, HA, HK1, HO_3, HB⟩ := hrel
  cases gk with
  | zero => exact absurd HA.out (by simp [syntagmlaw14_Row.l0])
  | succ k1 =>
   have H := HA.out
   clear HA
   simp only [syntagmlaw14_Row.l0] at H
   by_cases c2 : x4_1 < (l0.length : Int)
   ·rw [if_pos c2] at H
    have c2b0 : decide (x4_1 < (l0.length : Int)) = true := decide_eq_true c2
    clear c2
    by_cases c3 : 0 ≤ x4_1
    ·rw [if_pos c3] at H
     have c3b0 : decide (0 ≤ x4_1) = true := decide_eq_true c3
     clear c3
     by_cases c4 : x3_1.length < 8796093022208
     ·rw [if_pos c4] at H
      have LMc4 := jM c4
      clear c4
      obtain ⟨y210, hy210⟩ : ∃ y_ : List (S39), y_ = (x3_1 ++ [(⟨(rd_T37 l0 x4_1).f0, (rd_T37 l0 x4_1).f1⟩ : S39)]) := ⟨_, rfl⟩
      replace H : (syntagmlaw14_Row.l0 k1 l0 y210 (wrap64 (x4_1 + 1))) = some r := by first | (rw [hy210]; with_reducible exact H) | (have H2_ := (Option.bind_some _ _).symm.trans H; rw [hy210]; with_reducible exact H2_) | (have H2_ := (Option.bind_some _ _).symm.trans H; with_reducible exact H2_) | with_reducible exact H | (rw [hy210]; exact H) | exact H
      have Ny210 := jM hy210
      clear hy210
      have H' := jM H
      clear H
      try go_wp2
      have n0_ := jM (Kd.R_drew HO_3.out)
      have n1_ := jM (jD HB.out)
      clear HO_3
      clear HB
      have HO_3 := n0_
      have HB := n1_
      clear n0_ n1_
      have p208 : 0 ≤ (x4_1 : Int) := of_decide_eq_true (by first | (with_reducible assumption) | assumption)
      have q208 : x4_1 < (l0.length : Int) := of_decide_eq_true (by first | (with_reducible assumption) | assumption)
      obtain ⟨ad208, e208, hx208_0, hx208_1⟩ := at_T37 HR0.out x4_1 p208 q208
      have hw208_1 := hx208_1
      have hw208_0 := hx208_0
      cases e208
      replace hx208_0 := (HB.out.cell (jL w _ hx208_0)).trans hx208_0
      replace hx208_1 := (HB.out.cell (jL w _ hx208_1)).trans hx208_1
      replace p208 := eq_true p208
      replace q208 := eq_true q208
      have p209 : 0 ≤ (x4_1 : Int) := of_decide_eq_true (by first | (with_reducible assumption) | assumption)
      have q209 : x4_1 < (l0.length : Int) := of_decide_eq_true (by first | (with_reducible assumption) | assumption)
      obtain ⟨ad209, e209, hx209_0, hx209_1⟩ := at_T37 HR0.out x4_1 p209 q209
      have hw209_1 := hx209_1
      have hw209_0 := hx209_0
      obtain rfl : ad208 = ad209 := (by injection e209)
      replace hx209_0 := (HB.out.cell (jL w _ hx209_0)).trans hx209_0
      replace hx209_1 := (HB.out.cell (jL w _ hx209_1)).trans hx209_1
      replace p209 := eq_true p209
      replace q209 := eq_true q209
      refine start_ (n := 15) (S := fun w' => w'.cell? (ad208.add ((x4_1).toNat * 2)) = some (.int .i64 ((rd_T37 l0 x4_1).f0)) ∧ w'.cell? ⟨(ad208.add ((x4_1).toNat * 2)).block, (ad208.add ((x4_1).toNat * 2)).off + 1, none⟩ = some (.int .i64 ((rd_T37 l0 x4_1).f1)) ∧ w'.cell? (ad208.add ((x4_1).toNat * 2)) = some (.int .i64 ((rd_T37 l0 x4_1).f0)) ∧ w'.cell? ⟨(ad208.add ((x4_1).toNat * 2)).block, (ad208.add ((x4_1).toNat * 2)).off + 1, none⟩ = some (.int .i64 ((rd_T37 l0 x4_1).f1))) (ds := []) (tf 0 15) (by kernel_rfl) rfl rfl ⟨((HB.out.cell (jL w _ hw208_0)).trans hw208_0), ((HB.out.cell (jL w _ hw208_1)).trans hw208_1), ((HB.out.cell (jL w _ hw209_0)).trans hw209_0), ((HB.out.cell (jL w _ hw209_1)).trans hw209_1)⟩ (fun hHeld => ?_); refine with_tabW syntagmlaw14_Row.tab5 syntagmlaw14_Row.bits5 (fun HT_ HW_ => ?_)
      generalize wr.drew = w5 at HO_3 HB hx208_0 hx208_1 hx209_0 hx209_1 hHeld ⊢
      refine pure_ (i := 0) (N := some 11) (v := ?_) (a' := ?_) (tf 1 14) rfl rfl (any_of HT_.out (by kernel_rfl)) (fun _ _ _ h => h) (Or.inl ⟨by rfl, ?_⟩) ?_ ?_
      rotate_left
      ·intro w';go_simp;with_reducible rfl
      rotate_left
      ·simp only [Act.put, sA, i64_w, i32_w];rfl
      refine pure_ (i := 1) (N := some 12) (v := ?_) (a' := ?_) (tf 2 13) rfl rfl (any_of HT_.out (by kernel_rfl)) (fun _ _ _ h => h) (Or.inl ⟨by rfl, ?_⟩) ?_ ?_
      rotate_left
      ·intro w';go_simp;with_reducible rfl
      rotate_left
      ·simp only [Act.put, sA, i64_w, i32_w];rfl
      refine pure_ (i := 2) (N := some 13) (v := ?_) (a' := ?_) (tf 3 12) rfl rfl (any_of HT_.out (by kernel_rfl)) (fun _ _ _ h => h) (Or.inl ⟨by rfl, ?_⟩) ?_ ?_
      rotate_left
      ·intro w';go_simp;with_reducible rfl
      rotate_left
      ·simp only [Act.put, sA, i64_w, i32_w];rfl
      refine pure_ (i := 3) (N := some 14) (v := ?_) (a' := ?_) (tf 4 11) rfl rfl (any_of HT_.out (by kernel_rfl)) (fun _ _ _ h => h) (Or.inl ⟨by rfl, ?_⟩) ?_ ?_
      rotate_left
      ·intro w';go_simp;with_reducible rfl
      rotate_left
      ·simp only [Act.put, sA, i64_w, i32_w];rfl
      refine pure_ (i := 4) (N := some 15) (v := ?_) (a' := ?_) (tf 5 10) rfl rfl (any_of HT_.out (by kernel_rfl)) (fun _ _ _ h => h) (Or.inl ⟨by rfl, ?_⟩) ?_ ?_
      rotate_left
      ·intro w';go_simp;with_reducible rfl
      rotate_left
      ·simp only [Act.put, sA, i64_w, i32_w];rfl
      refine pure_ (i := 6) (N := some 17) (v := ?_) (a' := ?_) #[true, true, true, true, true, false, true, false, false, false, false, false, false, false, false] rfl rfl (any_of HT_.out (by kernel_rfl)) (fun _ _ _ h => h) (Or.inl ⟨by rfl, ?_⟩) ?_ ?_
      rotate_left
      ·intro w';go_simp;with_reducible rfl
      rotate_left
      ·simp only [Act.put, sA, i64_w, i32_w];rfl
      refine pure_ (i := 7) (N := some 18) (v := ?_) (a' := ?_) #[true, true, true, true, true, false, true, true, false, false, false, false, false, false, false] rfl rfl (any_of HT_.out (by kernel_rfl)) (fun _ _ _ h => h) (Or.inl ⟨by rfl, ?_⟩) ?_ ?_
      rotate_left
      ·intro w';go_simp;with_reducible rfl
      rotate_left
      ·simp only [Act.put, sA, i64_w, i32_w];rfl
      refine pure_ (i := 8) (N := some 19) (v := ?_) (a' := ?_) #[true, true, true, true, true, false, true, true, true, false, false, false, false, false, false] rfl rfl (any_of HT_.out (by kernel_rfl)) (fun _ _ _ h => h) (Or.inl ⟨by rfl, ?_⟩) ?_ ?_
      rotate_left
      ·intro w';go_simp;with_reducible rfl
      rotate_left
      ·simp only [Act.put, sA, i64_w, i32_w];rfl
      refine pure_ (i := 9) (N := some 20) (v := ?_) (a' := ?_) #[true, true, true, true, true, false, true, true, true, true, false, false, false, false, false] rfl rfl (any_of HT_.out (by kernel_rfl)) (fun _ _ _ h => h) (Or.inl ⟨by rfl, ?_⟩) ?_ ?_
      rotate_left
      ·intro w';go_simp;with_reducible rfl
      rotate_left
      ·simp only [Act.put, sA, i64_w, i32_w];rfl
      refine take_ (i := 5) (N := some 16) (v := ?_) (a' := ?_) (tf 10 5) rfl rfl (take_ofW HT_.out HW_.out (by kernel_rfl)) (fun _ _ _ h => h) (Or.inl ⟨by rfl, ?_⟩) hHeld ?_ ?_
      rotate_left
      ·rintro w' ⟨s0, s1, s2, s3⟩;go_simp;with_reducible rfl
      rotate_left
      ·simp only [Act.put, sA, i64_w, i32_w];rfl
      refine take_ (i := 10) (N := some 21) (v := ?_) (a' := ?_) (tf 11 4) rfl rfl (take_ofW HT_.out HW_.out (by kernel_rfl)) (fun _ _ _ h => h) (Or.inl ⟨by rfl, ?_⟩) hHeld ?_ ?_
      rotate_left
      ·rintro w' ⟨s0, s1, s2, s3⟩;go_simp;with_reducible rfl
      rotate_left
      ·simp only [Act.put, sA, i64_w, i32_w];rfl
      refine pure_ (i := 11) (N := some 22) (v := ?_) (a' := ?_) (tf 12 3) rfl rfl (any_of HT_.out (by kernel_rfl)) (fun _ _ _ h => h) (Or.inl ⟨by rfl, ?_⟩) ?_ ?_
      rotate_left
      ·intro w';go_simp;with_reducible rfl
      rotate_left
      ·simp only [Act.put, sA, i64_w, i32_w];rfl
      refine one_ (i := 12) (N := some 23) (tf 13 2) rfl rfl (one_of HT_.out (by kernel_rfl)) (by decide) (fun K hK => ?_)
      refine value_ (w1 := ?_) (v := ?_) (by rfl) rfl ?_ ?_
      rotate_left 2
      ·go_simp
       constructor
       ·rfl
       ·rfl
      refine hK.out _ _ ⟨(World.cell?_alloc_lt _ _ _ (jL _ _ (((HB.out.cell (jL w _ hw208_0)).trans hw208_0)))).trans (((HB.out.cell (jL w _ hw208_0)).trans hw208_0)), (World.cell?_alloc_lt _ _ _ (jL _ _ (((HB.out.cell (jL w _ hw208_1)).trans hw208_1)))).trans (((HB.out.cell (jL w _ hw208_1)).trans hw208_1)), (World.cell?_alloc_lt _ _ _ (jL _ _ (((HB.out.cell (jL w _ hw209_0)).trans hw209_0)))).trans (((HB.out.cell (jL w _ hw209_0)).trans hw209_0)), (World.cell?_alloc_lt _ _ _ (jL _ _ (((HB.out.cell (jL w _ hw209_1)).trans hw209_1)))).trans (((HB.out.cell (jL w _ hw209_1)).trans hw209_1))⟩ (fun hHeld => ?_)
      clear hK K
      refine norm_ (a' := ?_) ?_ ?_
      rotate_left
      ·show Act.put _ (some 23) _ = _
       simp only [Act.put, sA, i64_w, i32_w]
       rfl
      refine one_ (i := 13) (N := some 24) (tf 14 1) rfl rfl (one_of HT_.out (by kernel_rfl)) (by decide) (fun K hK => ?_)
      refine Kd.R_append_step k39 (w0 := w) w.heap.size (by rfl) (.tmp 11) (.tmp 23) 32 39 (.agg #[(.int .i64 0), (.int .i64 0)]) 16 rfl Tryd.underlying32 info39 rfl (by decide) (by omega) u3 x3_1 (⟨(rd_T37 l0 x4_1).f0, (rd_T37 l0 x4_1).f1⟩ : S39) [.int .i64 ((rd_T37 l0 x4_1).f0), .int .i64 ((rd_T37 l0 x4_1).f1)] (fun _ => True) (fun _ => False) rfl rfl ?aP (fun _ hk => hk.elim) ?aF ?aO ?aB ?aS ?aL ?_
      (case aP => exact k39_mkM _ _ _ (⟨(rd_T37 l0 x4_1).f0, (rd_T37 l0 x4_1).f1⟩ : S39))
      (case aB => exact (by repeat (first | (with_reducible first | exact HB.out | apply jA | apply jN | apply jD) | exact HB.out)))
      (case aF => exact (fun _ _ => trivial))
      (case aO => exact (by (with_reducible repeat (first | apply Kd.R_alloc | apply Kd.R_drewN | apply Kd.R_drew)); exact HO_3.out))
      (case aS => exact (below_size (by repeat (first | (with_reducible first | exact HB.out | apply jA | apply jN | apply jD) | exact HB.out))))
      (case aL => have := LMc4.out; omega)
      intro v211 w6 ho hb hg hat
      rw [← Ny210.out] at ho
      have n0_ := jM (hb)
      have n1_ := jM (ho)
      clear HB
      clear HO_3
      have HB := n0_
      have HO212 := n1_
      clear n0_ n1_
      clear ho hb hg hat
      refine hK.out _ _ ⟨((HB.out.cell (jL w _ hw208_0)).trans hw208_0), ((HB.out.cell (jL w _ hw208_1)).trans hw208_1), ((HB.out.cell (jL w _ hw209_0)).trans hw209_0), ((HB.out.cell (jL w _ hw209_1)).trans hw209_1)⟩ (fun hHeld => ?_)
      clear hK K
      refine norm_ (a' := ?_) ?_ ?_
      rotate_left
      ·show Act.put _ (some 24) _ = _
       simp only [Act.put, sA, i64_w, i32_w]
       rfl
      refine pure_ (i := 14) (N := some 3) (v := ?_) (a' := ?_) (tf 15 0) rfl rfl (any_of HT_.out (by kernel_rfl)) (fun _ _ _ h => h) (Or.inl ⟨by rfl, ?_⟩) ?_ ?_
      rotate_left
      ·intro w';go_simp;with_reducible rfl
      rotate_left
      ·simp only [Act.put, sA, i64_w, i32_w];rfl
      refine done_ (done_of HT_.out (by kernel_rfl)) ?_
      try go_wp2
      go_roundg k1
      case measure => have := HK1.out; omega
      case rel => exact ⟨(y210), (wrap64 (x4_1 + 1)), (by first | rfl | (simp; done) | (simp [*]; done)), H', ⟨by have := HK1.out; omega⟩, ⟨by (with_reducible repeat (first | apply Kd.R_alloc | apply Kd.R_drewN | apply Kd.R_drew)); exact HO212.out⟩, ⟨by repeat (first | (with_reducible first | exact HB.out | apply jA | apply jN | apply jD) | exact HB.out)⟩⟩
     ·rw [if_neg c4] at H
      exact absurd H (by simp)
    ·rw [if_neg c3] at H
     exact absurd H (by simp)
   ·rw [if_neg c2] at H
    have c2b0 : decide (x4_1 < (l0.length : Int)) = false := decide_eq_false c2
    clear c2
    obtain rfl := Option.some.inj H
    go_wp2
    go_ret
    exact ⟨_, by first | rfl | (simp [errW_none, errW_some] <;> rfl) | (simp [*, errW_none, errW_some] <;> rfl), by (with_reducible repeat (first | apply Kd.R_alloc | apply Kd.R_drewN | apply Kd.R_drew)); exact HO_3.out, by repeat (first | (with_reducible first | exact HB.out | apply jA | apply jN | apply jD) | exact HB.out)⟩

/-! ### syntagmref14_Right: function 37 -/
def syntagmref14_Right.f (l0_0 : List (S82)) (l0_1 : List (S101)) (l0_2 : List ByteArray) (l0_3 : List (S64)) (a0_4 : Int) (a1 : Int) : Option (List Int) := if a1 = (-1) then (some (([wrap64 ((-1) - a0_4)] : List Int))) else (if 0 ≤ a1 then (if a1 < (l0_3.length : Int) then (some ((rd_T64 l0_3 a1).f2)) else (none)) else (none))
set_option maxHeartbeats 8000000 in
set_option maxRecDepth 100000 in
theorem syntagmref14_Right.calls (A0_0 : Option Addr) (c0_0 : Nat) (l0_0 : List (S82)) (A0_1 : Option Addr) (c0_1 : Nat) (l0_1 : List (S101)) (A0_2 : Option Addr) (c0_2 : Nat) (l0_2 : List ByteArray) (P0_3_ : Nat → Prop) (A0_3 : Option Addr) (c0_3 : Nat) (l0_3 : List (S64)) (a0_4 : Int) (a1 : Int) (r : List Int) (w : World) (hr0_0 : Kd.C k82 w A0_0 l0_0.length l0_0) (hc0_0 : l0_0.length ≤ c0_0) (hr0_1 : Kd.C k101 w A0_1 l0_1.length l0_1) (hc0_1 : l0_1.length ≤ c0_1) (hr0_2 : Kd.C Kd.string w A0_2 l0_2.length l0_2) (hc0_2 : l0_2.length ≤ c0_2) (hs0_3 : Kd.V k64 64 w w.heap.size (fun k_ => P0_3_ k_) (.slice A0_3 l0_3.length c0_3) l0_3) (h : syntagmref14_Right.f l0_0 l0_1 l0_2 l0_3 a0_4 a1 = some r) :
  Calls Tryd.prog 37 #[.agg #[.slice A0_0 l0_0.length c0_0, .slice A0_1 l0_1.length c0_1, .slice A0_2 l0_2.length c0_2, .slice A0_3 l0_3.length c0_3, .int .i64 a0_4], .int .i64 a1] w fun e w' => ∃ v0_ : Value, e = .returned (v0_) ∧ Kd.V (Kd.int .i64) 29 w' w.heap.size (fun k_ => (P0_3_ k_ ∨ w.heap.size ≤ k_)) v0_ r ∧ Below w.heap.size w w' := by
 have hu27 := Tryd.underlying27
 have HR0_0 := jM hr0_0
 have HC0_0 := jM hc0_0
 clear hr0_0 hc0_0
 have HR0_1 := jM hr0_1
 have HC0_1 := jM hc0_1
 clear hr0_1 hc0_1
 have HR0_2 := jM hr0_2
 have HC0_2 := jM hc0_2
 clear hr0_2 hc0_2
 have HO0_3 := jM (show Kd.V k64 64 w w.heap.size (fun k_ => (P0_3_ k_ ∨ w.heap.size ≤ k_)) (.slice A0_3 l0_3.length c0_3) l0_3 from Kd.V_mono hs0_3 (fun k_ hk => .inl hk))
 have HB := jM (Below.refl w.heap.size w)
 have H : (if a1 = (-1) then (some (([wrap64 ((-1) - a0_4)] : List Int))) else (if 0 ≤ a1 then (if a1 < (l0_3.length : Int) then (some ((rd_T64 l0_3 a1).f2)) else (none)) else (none))) = some r := h
 clear h
 by_cases c3 : a1 = (-1)
 ·rw [if_pos c3] at H
  have c3b0 : (a1 == (-1)) = true := beq_iff_eq.mpr c3
  have c3b1 : (a1 != (-1)) = false := bne_eq_false_iff_eq.mpr c3
  clear c3
  obtain ⟨y214, hy214⟩ : ∃ y_ : List Int, y_ = (([wrap64 ((-1) - a0_4)] : List Int)) := ⟨_, rfl⟩
  replace H : (some y214) = some r := by first | (rw [hy214]; with_reducible exact H) | (have H2_ := (Option.bind_some _ _).symm.trans H; rw [hy214]; with_reducible exact H2_) | (have H2_ := (Option.bind_some _ _).symm.trans H; with_reducible exact H2_) | with_reducible exact H | (rw [hy214]; exact H) | exact H
  have Ny214 := jM hy214
  clear hy214
  obtain rfl := Option.some.inj H
  go_enter Tryd.func37, Tryd.ntmps37
  go_wp2_with (first | ((with_reducible refine gate_dst (N := 2) rfl ?_); refine box_event ?hg (N := 2) ?hd (cs := #[.slice A0_0 l0_0.length c0_0, .slice A0_1 l0_1.length c0_1, .slice A0_2 l0_2.length c0_2, .slice A0_3 l0_3.length c0_3, .int .i64 a0_4]) (t := 27) ?hr ?_; (case hd => rfl); (case hg => rfl); (case hr => first | (go_simp; done) | (go_simp; rfl)); intro gb213 hg w4 hbox hb; have n0_ := jM (Kd.V_below (Kd.V_elderB (by (with_reducible repeat (first | apply Kd.V_alloc | apply Kd.V_drewN | apply Kd.V_drew)); exact HO0_3.out) gb213 (Nat.le_of_eq hg.symm)) hb); have n1_ := jM (jT (by repeat (first | (with_reducible first | exact HB.out | apply jA | apply jN | apply jD) | exact HB.out)) hb); have n2_ := jM (hbox); have n3_ := jM ((by rw [hg]; exact (below_size (by repeat (first | (with_reducible first | exact HB.out | apply jA | apply jN | apply jD) | exact HB.out))) : w.heap.size ≤ gb213)); have n4_ := jM ((by rw [hg]; exact (below_size (by repeat (first | (with_reducible first | exact HB.out | apply jA | apply jN | apply jD) | exact HB.out))) : w.heap.size ≤ gb213)); clear HO0_3; clear HB; have HO0_3 := n0_; have HB := n1_; have BK213 := n2_; have GW213 := n3_; have GE213 := n4_; clear n0_ n1_ n2_ n3_ n4_; clear hb hbox hg; have hcz5_0 : w4.cell? ⟨gb213, 0, none⟩ = some (.slice A0_0 l0_0.length c0_0) := (jC BK213.out 0).trans rfl; have hcz5_1 : w4.cell? ⟨gb213, 1, none⟩ = some (.slice A0_1 l0_1.length c0_1) := (jC BK213.out 1).trans rfl; have hcz5_2 : w4.cell? ⟨gb213, 2, none⟩ = some (.slice A0_2 l0_2.length c0_2) := (jC BK213.out 2).trans rfl; have hcz5_3 : w4.cell? ⟨gb213, 3, none⟩ = some (.slice A0_3 l0_3.length c0_3) := (jC BK213.out 3).trans rfl; have hcz5_4 : w4.cell? ⟨gb213, 4, none⟩ = some (.int .i64 a0_4) := (jC BK213.out 4).trans rfl; have hfz5_0 := jF BK213.out 0; have hfz5_1 := jF BK213.out 1; have hfz5_2 := jF BK213.out 2; have hfz5_3 := jF BK213.out 3; have hfz5_4 := jF BK213.out 4) | ((with_reducible refine gate_dst (N := 10) rfl ?_); refine Kd.R_lit (Kd.int .i64) _ 29 ?hg (N := 10) ?hd (xs := ([wrap64 ((-1) - a0_4)] : List Int)) (inner := [.int .i64 (wrap64 ((-1) - a0_4))]) (ok := fun _ => True) (okp := fun _ => True) ?hr ?hp (fun _ hk => hk) trivial (Below.refl _ _) (Nat.le_refl _) (by simp) ?_; (case hd => rfl); (case hg => rfl); (case hr => first | (go_simp; done) | (go_simp; rfl)); (case hp => exact (Reps.one (show Kd.M (Kd.int .i64) _ _ _ (wrap64 ((-1) - a0_4)) [.int .i64 (wrap64 ((-1) - a0_4))] from rfl) (Reps.none _ _))); intro v215 w6 ho7 hb hg_ hnew_; clear hg_ hnew_; (first | rw [← Ny214.out] at ho7 | (simp only [Int.reduceToNat] at ho7; rw [← Ny214.out] at ho7)); have n0_ := jM (Kd.V_elder' (by (with_reducible repeat (first | apply Kd.V_alloc | apply Kd.V_drewN | apply Kd.V_drew)); exact HO0_3.out) (Kd.R_base ho7) hb); have n1_ := jM (Kd.R_lower (Kd.R_newM (M := fun k_ => (w.heap.size ≤ k_)) ho7 (below_size (by repeat (first | (with_reducible first | exact HB.out | apply jA | apply jN | apply jD | refine jS ?_ GE213.out) | exact HB.out))) (fun k_ h_ => h_)) (below_size (by repeat (first | (with_reducible first | exact HB.out | apply jA | apply jN | apply jD | refine jS ?_ GE213.out) | exact HB.out)))); have n2_ := jM (jW (g := gb213) (o := .cells #[.slice A0_0 l0_0.length c0_0, .slice A0_1 l0_1.length c0_1, .slice A0_2 l0_2.length c0_2, .slice A0_3 l0_3.length c0_3, .int .i64 a0_4] 27 (0, 0)) (by (with_reducible repeat (first | refine jY ?_ _ | refine jZ ?_ | refine jX ?_ _)); exact BK213.out) hb); have n3_ := jM (jT (by repeat (first | (with_reducible first | exact HB.out | apply jA | apply jN | apply jD | refine jS ?_ GE213.out) | exact HB.out)) hb); clear HO0_3; clear BK213; clear HB; have HO0_3 := n0_; have HO216 := n1_; have BK213 := n2_; have HB := n3_; clear n0_ n1_ n2_ n3_; clear hb ho7))
  go_ret
  exact ⟨_, by first | rfl | (simp [errW_none, errW_some] <;> rfl) | (simp [*, errW_none, errW_some] <;> rfl), Kd.V_mono (Kd.R_V (by (with_reducible repeat (first | apply Kd.R_alloc | apply Kd.R_drewN | apply Kd.R_drew)); exact Kd.R_mono HO216.out (fun _ hk => hk.1))) (fun k_ hk => by first | exact ⟨(.inr (hk.1)), hk.2⟩ | exact (.inr (hk))), by repeat (first | (with_reducible first | exact HB.out | apply jA | apply jN | apply jD | refine jS ?_ GE213.out) | exact HB.out)⟩
 ·rw [if_neg c3] at H
  have c3b0 : (a1 == (-1)) = false := beq_eq_false_iff_ne.mpr c3
  have c3b1 : (a1 != (-1)) = true := bne_iff_ne.mpr c3
  by_cases c8 : 0 ≤ a1
  ·rw [if_pos c8] at H
   have c8b0 : decide (0 ≤ a1) = true := decide_eq_true c8
   clear c8
   by_cases c9 : a1 < (l0_3.length : Int)
   ·rw [if_pos c9] at H
    have c9b0 : decide (a1 < (l0_3.length : Int)) = true := decide_eq_true c9
    clear c9
    obtain rfl := Option.some.inj H
    go_enter Tryd.func37, Tryd.ntmps37
    go_wp2_with (first | ((with_reducible refine gate_dst (N := 2) rfl ?_); refine box_event ?hg (N := 2) ?hd (cs := #[.slice A0_0 l0_0.length c0_0, .slice A0_1 l0_1.length c0_1, .slice A0_2 l0_2.length c0_2, .slice A0_3 l0_3.length c0_3, .int .i64 a0_4]) (t := 27) ?hr ?_; (case hd => rfl); (case hg => rfl); (case hr => first | (go_simp; done) | (go_simp; rfl)); intro gb213 hg w10 hbox hb; have n0_ := jM (Kd.V_below (Kd.V_elderB (by (with_reducible repeat (first | apply Kd.V_alloc | apply Kd.V_drewN | apply Kd.V_drew)); exact HO0_3.out) gb213 (Nat.le_of_eq hg.symm)) hb); have n1_ := jM (jT (by repeat (first | (with_reducible first | exact HB.out | apply jA | apply jN | apply jD) | exact HB.out)) hb); have n2_ := jM (hbox); have n3_ := jM ((by rw [hg]; exact (below_size (by repeat (first | (with_reducible first | exact HB.out | apply jA | apply jN | apply jD) | exact HB.out))) : w.heap.size ≤ gb213)); have n4_ := jM ((by rw [hg]; exact (below_size (by repeat (first | (with_reducible first | exact HB.out | apply jA | apply jN | apply jD) | exact HB.out))) : w.heap.size ≤ gb213)); clear HO0_3; clear HB; have HO0_3 := n0_; have HB := n1_; have BK213 := n2_; have GW213 := n3_; have GE213 := n4_; clear n0_ n1_ n2_ n3_ n4_; clear hb hbox hg; have hcz11_0 : w10.cell? ⟨gb213, 0, none⟩ = some (.slice A0_0 l0_0.length c0_0) := (jC BK213.out 0).trans rfl; have hcz11_1 : w10.cell? ⟨gb213, 1, none⟩ = some (.slice A0_1 l0_1.length c0_1) := (jC BK213.out 1).trans rfl; have hcz11_2 : w10.cell? ⟨gb213, 2, none⟩ = some (.slice A0_2 l0_2.length c0_2) := (jC BK213.out 2).trans rfl; have hcz11_3 : w10.cell? ⟨gb213, 3, none⟩ = some (.slice A0_3 l0_3.length c0_3) := (jC BK213.out 3).trans rfl; have hcz11_4 : w10.cell? ⟨gb213, 4, none⟩ = some (.int .i64 a0_4) := (jC BK213.out 4).trans rfl; have hfz11_0 := jF BK213.out 0; have hfz11_1 := jF BK213.out 1; have hfz11_2 := jF BK213.out 2; have hfz11_3 := jF BK213.out 3; have hfz11_4 := jF BK213.out 4; have p217 : 0 ≤ (a1 : Int) := of_decide_eq_true (by first | (with_reducible assumption) | assumption); have q217 : a1 < (l0_3.length : Int) := of_decide_eq_true (by first | (with_reducible assumption) | assumption); obtain ⟨ad217, A217_2, c217_2, e217, hx217_0, hx217_1, hx217_2, hx217_3, hl217_2, hi217_2⟩ := at_T64 (Kd.V_reads' HO0_3.out).2.2 a1 p217 q217; cases e217; obtain ⟨ce217, hce217, hMe217, hcc217⟩ := Kd.V_get HO0_3.out z64 a1 p217 (by first | exact q217 | exact of_decide_eq_true (by first | (with_reducible assumption) | assumption) | (have e_ := (Kd.V_reads' HO0_3.out).1; omega)); obtain ⟨ua217_2, uc217_2, rfl, ul217_2, ge217_2⟩ := k64_openF hMe217; have hv217_2 := hcc217 2 _ rfl; rw [add_field _ _ 2 (by omega)] at hv217_2; replace hv217_2 := Option.some.inj (hv217_2.symm.trans hx217_2); injection hv217_2 with hva_ hvn_ hvc_; rw [hva_] at ge217_2; rw [hvc_] at ul217_2; have HL217_2 := jM (show Kd.V (Kd.int .i64) 29 _ w.heap.size _ _ ((rd_T64 l0_3 a1).f2) from Kd.V_mk ul217_2 ge217_2); clear hva_ hvn_ hvc_ ge217_2 ul217_2; clear hcc217 hce217; have HR217_2 := jM hi217_2; have HC217_2 := jM hl217_2; clear hi217_2 hl217_2; replace p217 := eq_true p217; replace q217 := eq_true q217))
    go_ret
    exact ⟨_, by first | rfl | (simp [errW_none, errW_some] <;> rfl) | (simp [*, errW_none, errW_some] <;> rfl), by (with_reducible repeat (first | apply Kd.V_alloc | apply Kd.V_drewN | apply Kd.V_drew)); exact Kd.V_mono HL217_2.out (fun _ hk => hk.1), by repeat (first | (with_reducible first | exact HB.out | apply jA | apply jN | apply jD | refine jS ?_ GE213.out) | exact HB.out)⟩
   ·rw [if_neg c9] at H
    exact absurd H (by simp)
  ·rw [if_neg c8] at H
   exact absurd H (by simp)

end Go.Proofs.YtclollnicbcooaaDoor.P
end

section
namespace Go.Proofs.YtclollnicbcooaaDoor.P
open Go.Proofs.YtclollnicbcooaaDoor.Base Go.RowKit Go.Proofs.YtclollnicbcooaaDoorW.PrintWords Go.Proofs.YtclollnicbcooaaDoorW.PrintLast Go.Proofs.YtclollnicbcooaaDoorW.PrintMore

def bad5 (l0 : List S82) (l2 : List ByteArray) (l3 : List S64) (st : Int) : Bool := decide (60 < l0.length) || decide (60 < l2.length) || decide (120 < l3.length) || decide (st < 0) || decide ((l2.length : Int) ≤ st)
section
variable {l0 : List S82} {l1 : List S101} {l2 : List ByteArray} {l3 : List S64} {st : Int}
theorem not_five (h : bad5 l0 l2 l3 st = true) : validB l0 l1 l2 l3 st = false := by
 simp only [bad5, Bool.or_eq_true, decide_eq_true_eq] at h
 rw [Bool.eq_false_iff]
 intro hv
 simp only [validB, Bool.and_eq_true, Bool.not_eq_true', decide_eq_false_iff_not, inB, decide_eq_true_eq] at hv
 obtain ⟨⟨⟨⟨⟨⟨⟨⟨h0, h1⟩, h2⟩, h3⟩, -⟩, -⟩, -⟩, -⟩, -⟩ := hv
 omega
theorem not_over (h : l1.all (pairB l0.length) = false) : validB l0 l1 l2 l3 st = false := by simp [validB, h]
theorem not_prods (h : l3.all (prodB l0.length l2.length) = false) : validB l0 l1 l2 l3 st = false := by simp [validB, h]
theorem not_sorts (h : rises (rdOf ByteArray.empty l2) l2.length = false) : validB l0 l1 l2 l3 st = false := by simp [validB, h]
theorem not_terms (h : rises (fun i => (rd_T82 l0 i).f0) l0.length = false) : validB l0 l1 l2 l3 st = false := by simp [validB, h]
theorem not_labels (h : rises (fun i => (rd_T64 l3 i).f0) l3.length = false) : validB l0 l1 l2 l3 st = false := by simp [validB, h]
theorem all_valid (h : bad5 l0 l2 l3 st = false) (h1 : l1.all (pairB l0.length) = true) (h2 : l3.all (prodB l0.length l2.length) = true) (h3 : rises (rdOf ByteArray.empty l2) l2.length = true) (h4 : rises (fun i => (rd_T82 l0 i).f0) l0.length = true) (h5 : rises (fun i => (rd_T64 l3 i).f0) l3.length = true) : validB l0 l1 l2 l3 st = true := by
 simp only [bad5, Bool.or_eq_false_iff, decide_eq_false_iff_not] at h
 obtain ⟨⟨⟨⟨g0, g1⟩, g2⟩, g3⟩, g4⟩ := h
 simp only [validB, h1, h2, h3, h4, h5, inB, Bool.and_true, Bool.and_eq_true, Bool.not_eq_true', decide_eq_false_iff_not, decide_eq_true_eq]
 exact ⟨⟨⟨g0, g1⟩, g2⟩, by omega, by omega⟩
theorem odd_is (T S : Nat) (s : Int) (hS : S ≤ 60) (hs : -9223372036854775808 ≤ s ∧ s ≤ 9223372036854775807) : oddB T S s = (decide ((T : Int) ≤ s) || decide (s < -(S : Int))) := by
 unfold oddB inB
 by_cases h0 : 0 ≤ s
 ·rw [decide_eq_true h0, decide_eq_false (by omega : ¬ s < 0), decide_eq_false (by omega : ¬ s < -(S : Int))]
  by_cases h1 : s < T
  ·rw [decide_eq_true h1, decide_eq_false (by omega : ¬ (T : Int) ≤ s)]; rfl
  ·rw [decide_eq_false h1, decide_eq_true (by omega : (T : Int) ≤ s)]; rfl
 ·rw [decide_eq_false h0, decide_eq_true (by omega : s < 0), decide_eq_false (by omega : ¬ (T : Int) ≤ s), IntWalk.i64_in _ (by omega), decide_eq_true (by omega : 0 ≤ -1 - s)]
  by_cases h1 : -1 - s < S
  ·rw [decide_eq_true h1, decide_eq_false (by omega : ¬ s < -(S : Int))]; rfl
  ·rw [decide_eq_false h1, decide_eq_true (by omega : s < -(S : Int))]; rfl
theorem RisesTo.down {f : Int → ByteArray} {k n : Nat} (h : RisesTo f k) (hn : n ≤ k) : RisesTo f n := fun i h0 hi => h i h0 (by omega)
end
theorem fives {w w' : World} {gb : Nat} {u0 u1 u2 u3 u4 : Value} (hb : Below w.heap.size w w') (h : w.cell? ⟨gb, 0, none⟩ = some u0 ∧ w.cell? ⟨gb, 1, none⟩ = some u1 ∧ w.cell? ⟨gb, 2, none⟩ = some u2 ∧ w.cell? ⟨gb, 3, none⟩ = some u3 ∧ w.cell? ⟨gb, 4, none⟩ = some u4) :
  w'.cell? ⟨gb, 0, none⟩ = some u0 ∧ w'.cell? ⟨gb, 1, none⟩ = some u1 ∧ w'.cell? ⟨gb, 2, none⟩ = some u2 ∧ w'.cell? ⟨gb, 3, none⟩ = some u3 ∧ w'.cell? ⟨gb, 4, none⟩ = some u4 :=
 ⟨pw_cell_below hb h.1, pw_cell_below hb h.2.1, pw_cell_below hb h.2.2.1, pw_cell_below hb h.2.2.2.1, pw_cell_below hb h.2.2.2.2⟩

set_option maxHeartbeats 8000000 in
set_option maxRecDepth 100000 in
theorem refv_walk (A0 : Option Addr) (c0 : Nat) (l0 : List S82) (A1 : Option Addr) (c1 : Nat) (l1 : List S101) (A2 : Option Addr) (c2 : Nat) (l2 : List ByteArray) (A3 : Option Addr) (c3 : Nat) (l3 : List S64) (st : Int) (w : World)
  (hr0 : Kd.C k82 w A0 l0.length l0) (hr1 : Kd.C k101 w A1 l1.length l1) (hr2 : Kd.C Kd.string w A2 l2.length l2) (hr3 : Kd.C k64 w A3 l3.length l3) (hrg : ∀ p ∈ l3, ∀ s ∈ p.f2, -9223372036854775808 ≤ s ∧ s ≤ 9223372036854775807) :
  Calls Tryd.prog 45 #[.agg #[.slice A0 l0.length c0, .slice A1 l1.length c1, .slice A2 l2.length c2, .slice A3 l3.length c3, .int .i64 st]] w fun e w' => e = .returned (.bool (validB l0 l1 l2 l3 st)) ∧ Below w.heap.size w w' := by
 have HR0 := Aside0.mk hr0
 have HR1 := Aside0.mk hr1
 have HR2 := Aside0.mk hr2
 have HR3 := Aside0.mk hr3
 have HRG := Aside0.mk hrg
 have hm0 : l0.length ≤ 9223372036854775807 := hr0.2.1
 have hm1 : l1.length ≤ 9223372036854775807 := hr1.2.1
 have hm2 : l2.length ≤ 9223372036854775807 := hr2.2.1
 have hm3 : l3.length ≤ 9223372036854775807 := hr3.2.1
 clear hr0 hr1 hr2 hr3 hrg
 have hu27 := Tryd.underlying27
 have hu64 := Tryd.underlying64
 have hu82 := Tryd.underlying82
 have hu101 := Tryd.underlying101
 go_enter Tryd.func45, Tryd.ntmps45
 go_upto_region 1 with fail
 have HB : Aside0 (Below w.heap.size w (w.alloc (Obj.cells #[.slice A0 l0.length c0, .slice A1 l1.length c1, .slice A2 l2.length c2, .slice A3 l3.length c3, .int .i64 st] 27))) := ⟨below_alloc (Below.refl _ _) _⟩
 have hY : (w.alloc (Obj.cells #[.slice A0 l0.length c0, .slice A1 l1.length c1, .slice A2 l2.length c2, .slice A3 l3.length c3, .int .i64 st] 27)).cell? ⟨w.heap.size, 0, none⟩ = some (.slice A0 l0.length c0) ∧ (w.alloc (Obj.cells #[.slice A0 l0.length c0, .slice A1 l1.length c1, .slice A2 l2.length c2, .slice A3 l3.length c3, .int .i64 st] 27)).cell? ⟨w.heap.size, 1, none⟩ = some (.slice A1 l1.length c1) ∧ (w.alloc (Obj.cells #[.slice A0 l0.length c0, .slice A1 l1.length c1, .slice A2 l2.length c2, .slice A3 l3.length c3, .int .i64 st] 27)).cell? ⟨w.heap.size, 2, none⟩ = some (.slice A2 l2.length c2) ∧ (w.alloc (Obj.cells #[.slice A0 l0.length c0, .slice A1 l1.length c1, .slice A2 l2.length c2, .slice A3 l3.length c3, .int .i64 st] 27)).cell? ⟨w.heap.size, 3, none⟩ = some (.slice A3 l3.length c3) ∧ (w.alloc (Obj.cells #[.slice A0 l0.length c0, .slice A1 l1.length c1, .slice A2 l2.length c2, .slice A3 l3.length c3, .int .i64 st] 27)).cell? ⟨w.heap.size, 4, none⟩ = some (.int .i64 st) := by
  refine ⟨?_, ?_, ?_, ?_, ?_⟩ <;> go_simp
 generalize w.alloc (Obj.cells #[.slice A0 l0.length c0, .slice A1 l1.length c1, .slice A2 l2.length c2, .slice A3 l3.length c3, .int .i64 st] 27) = w1 at *
 replace hY := Aside0.mk hY
 obtain ⟨z0, z1, z2, z3, z4⟩ := hY.out
 go_upto_region 3 with fail
 go_cut [39] from 17 to 39 (fun v39 wc => ∃ b : Bool, v39 = .bool b ∧ Aside0 (Below w1.heap.size w1 wc) ∧ Aside0 (bad5 l0 l2 l3 st = b))
 case first =>
  by_cases g1 : 60 < l0.length
  ·have d1 : decide (60 < l0.length) = true := decide_eq_true g1
   have e1 : Aside0 (bad5 l0 l2 l3 st = true) := ⟨by unfold bad5; rw [d1]; rfl⟩
   go_wp2_with fail
   go_meet
   exact ⟨true, by first | rfl | (simp; omega), ⟨Below.refl _ _⟩, e1⟩
  ·have d1 : decide (60 < l0.length) = false := decide_eq_false g1
   by_cases g2 : 60 < l2.length
   ·have d2 : decide (60 < l2.length) = true := decide_eq_true g2
    have e1 : Aside0 (bad5 l0 l2 l3 st = true) := ⟨by unfold bad5; rw [d1, d2]; rfl⟩
    go_wp2_with fail
    go_meet
    exact ⟨true, by first | rfl | (simp; omega), ⟨Below.refl _ _⟩, e1⟩
   ·have d2 : decide (60 < l2.length) = false := decide_eq_false g2
    by_cases g3 : 120 < l3.length
    ·have d3 : decide (120 < l3.length) = true := decide_eq_true g3
     have e1 : Aside0 (bad5 l0 l2 l3 st = true) := ⟨by unfold bad5; rw [d1, d2, d3]; rfl⟩
     go_wp2_with fail
     go_meet
     exact ⟨true, by first | rfl | (simp; omega), ⟨Below.refl _ _⟩, e1⟩
    ·have d3 : decide (120 < l3.length) = false := decide_eq_false g3
     by_cases g4 : st < 0
     ·have d4 : decide (st < 0) = true := decide_eq_true g4
      have e1 : Aside0 (bad5 l0 l2 l3 st = true) := ⟨by unfold bad5; rw [d1, d2, d3, d4]; rfl⟩
      go_wp2_with fail
      go_meet
      exact ⟨true, by first | rfl | (simp; omega), ⟨Below.refl _ _⟩, e1⟩
     ·have d4 : decide (st < 0) = false := decide_eq_false g4
      by_cases g5 : (l2.length : Int) ≤ st
      ·have d5 : decide ((l2.length : Int) ≤ st) = true := decide_eq_true g5
       have e1 : Aside0 (bad5 l0 l2 l3 st = true) := ⟨by unfold bad5; rw [d1, d2, d3, d4, d5]; rfl⟩
       go_wp2_with fail
       go_meet
       exact ⟨true, by first | rfl | (simp; omega), ⟨Below.refl _ _⟩, e1⟩
      ·have d5 : decide ((l2.length : Int) ≤ st) = false := decide_eq_false g5
       have e1 : Aside0 (bad5 l0 l2 l3 st = false) := ⟨by unfold bad5; rw [d1, d2, d3, d4, d5]; rfl⟩
       go_wp2_with fail
       go_meet
       exact ⟨false, by first | rfl | (simp; omega), ⟨Below.refl _ _⟩, e1⟩
 case rest =>
  obtain ⟨b, rfl, HB1, H5⟩ := hcut
  clear z0 z1 z2 z3 z4
  obtain ⟨w2, rfl⟩ : ∃ x, x = wc := ⟨_, rfl⟩
  have HBw : Aside0 (Below w.heap.size w w2) := ⟨below_step HB.out HB1.out⟩
  have hY2 := Aside0.mk (fives HB1.out hY.out)
  clear hY HB HB1
  cases b
  ·have hS : l2.length ≤ 60 := by
    have := H5.out
    simp only [bad5, Bool.or_eq_false_iff, decide_eq_false_iff_not] at this
    omega
   have HR0' := Aside0.mk (Kd.C_below HR0.out HBw.out)
   have HR1' := Aside0.mk (Kd.C_below HR1.out HBw.out)
   have HR2' := Aside0.mk (Kd.C_below HR2.out HBw.out)
   have HR3' := Aside0.mk (Kd.C_below HR3.out HBw.out)
   clear HR0 HR1 HR2 HR3
   obtain ⟨z0, z1, z2, z3, z4⟩ := hY2.out
   go_wp2
   clear z0 z1 z2 z3 z4
   go_loopw [5] (fun v wr => ∃ i : Nat, v = .int .i64 i ∧ i ≤ l1.length ∧ Aside0 ((l1.take i).all (pairB l0.length) = true) ∧ Aside0 (Below w2.heap.size w2 wr)) (fun v _ => l1.length - (intOf v).toNat)
   case atStart => exact ⟨0, rfl, Nat.zero_le _, ⟨by simp⟩, ⟨Below.refl _ _⟩⟩
   case round =>
    obtain ⟨i, rfl, hi, HA, HBR⟩ := hrel
    obtain ⟨z0, z1, z2, z3, z4⟩ := fives HBR.out hY2.out
    by_cases hlt : i < l1.length
    ·have hltb : decide (i < l1.length) = true := decide_eq_true hlt
     obtain ⟨ad, e1, hx0, hx1⟩ := at_T101 (Kd.C_below HR1'.out HBR.out) (i : Int) (by omega) (by omega)
     rw [Int.toNat_natCast] at hx0 hx1
     obtain ⟨q, hq⟩ : ∃ q, rd_T101 l1 i = q := ⟨_, rfl⟩
     rw [hq] at hx0 hx1
     have HQ : Aside0 (l1[i] = q) := ⟨by rw [← hq, rd63_at l1 i hlt]⟩
     clear hq
     subst e1
     obtain ⟨qa, hqa⟩ : ∃ a, q.f0 = a := ⟨_, rfl⟩
     obtain ⟨qb, hqb⟩ : ∃ a, q.f1 = a := ⟨_, rfl⟩
     rw [hqa] at hx0
     rw [hqb] at hx1
     have HP : Aside0 (pairB l0.length q = (inB qa l0.length && inB qb l0.length)) := ⟨by unfold pairB; rw [hqa, hqb]⟩
     clear hqa hqb
     go_upto_region 8 with fail
     go_cut [82] from 47 to 82 (fun v82 wc => ∃ b : Bool, v82 = .bool b ∧ Aside0 (Below w2.heap.size w2 wc) ∧ Aside0 (pairB l0.length q = !b))
     case first =>
      by_cases g1 : qa < 0
      ·have d1 : decide (qa < 0) = true := decide_eq_true g1
       have e1 : Aside0 (pairB l0.length q = false) := ⟨by rw [HP.out]; unfold inB; rw [decide_eq_false (by omega : ¬ 0 ≤ qa)]; rfl⟩
       go_wp2_with fail
       go_meet
       exact ⟨true, rfl, HBR, e1⟩
      ·have d1 : decide (qa < 0) = false := decide_eq_false g1
       by_cases g2 : (l0.length : Int) ≤ qa
       ·have d2 : decide ((l0.length : Int) ≤ qa) = true := decide_eq_true g2
        have e1 : Aside0 (pairB l0.length q = false) := ⟨by rw [HP.out]; unfold inB; rw [decide_eq_false (by omega : ¬ qa < l0.length), Bool.and_false]; rfl⟩
        go_wp2_with fail
        go_meet
        exact ⟨true, rfl, HBR, e1⟩
       ·have d2 : decide ((l0.length : Int) ≤ qa) = false := decide_eq_false g2
        by_cases g3 : qb < 0
        ·have d3 : decide (qb < 0) = true := decide_eq_true g3
         have e1 : Aside0 (pairB l0.length q = false) := ⟨by rw [HP.out]; unfold inB; rw [decide_eq_false (by omega : ¬ 0 ≤ qb), Bool.false_and, Bool.and_false]⟩
         go_wp2_with fail
         go_meet
         exact ⟨true, rfl, HBR, e1⟩
        ·have d3 : decide (qb < 0) = false := decide_eq_false g3
         by_cases g4 : (l0.length : Int) ≤ qb
         ·have d4 : decide ((l0.length : Int) ≤ qb) = true := decide_eq_true g4
          have e1 : Aside0 (pairB l0.length q = false) := ⟨by rw [HP.out]; unfold inB; rw [decide_eq_false (by omega : ¬ qb < l0.length), Bool.and_false, Bool.and_false]⟩
          go_wp2_with fail
          go_meet
          exact ⟨true, rfl, HBR, e1⟩
         ·have d4 : decide ((l0.length : Int) ≤ qb) = false := decide_eq_false g4
          have e1 : Aside0 (pairB l0.length q = true) := ⟨by rw [HP.out]; unfold inB; rw [decide_eq_true (by omega : 0 ≤ qa), decide_eq_true (by omega : qa < l0.length), decide_eq_true (by omega : 0 ≤ qb), decide_eq_true (by omega : qb < l0.length)]; rfl⟩
          go_wp2_with fail
          go_meet
          exact ⟨false, rfl, HBR, e1⟩
     case rest =>
      obtain ⟨b, rfl, HB2, HP2⟩ := hcut
      cases b
      ·go_wp2
       exact ⟨⟨i + 1, rfl, by omega, ⟨by rw [all_take _ _ i hlt, HA.out, HQ.out, HP2.out]; rfl⟩, HB2⟩, by simp [intOf]; omega⟩
      ·go_wp2
       go_ret
       exact ⟨by rw [not_over (by rw [all_part _ _ i hlt, HQ.out, HP2.out]; simp)]; rfl, below_step HBw.out HB2.out⟩
    ·have hltb : decide (i < l1.length) = false := decide_eq_false hlt
     have HOV : Aside0 (l1.all (pairB l0.length) = true) := ⟨by have := HA.out; rwa [List.take_of_length_le (by omega)] at this⟩
     clear HA hlt
     obtain ⟨w3, rfl⟩ : ∃ x, x = wr := ⟨_, rfl⟩
     have HB3 : Aside0 (Below w.heap.size w w3) := ⟨below_step HBw.out HBR.out⟩
     have hY3 := Aside0.mk (fives HBR.out hY2.out)
     have HR0'' := Aside0.mk (Kd.C_below HR0'.out HBR.out)
     have HR2'' := Aside0.mk (Kd.C_below HR2'.out HBR.out)
     have HR3'' := Aside0.mk (Kd.C_below HR3'.out HBR.out)
     clear HR0' HR1' HR2' HR3' HBw hY2 HBR
     go_wp2
     clear z0 z1 z2 z3 z4 hltb
     go_loopw [6] (fun v wr => ∃ k : Nat, v = .int .i64 k ∧ 1 ≤ k ∧ (k ≤ l0.length ∨ k = 1) ∧ Aside0 (RisesTo (fun i => (rd_T82 l0 i).f0) k) ∧ Aside0 (Below w3.heap.size w3 wr)) (fun v _ => l0.length - (intOf v).toNat)
     case atStart => exact ⟨1, rfl, Nat.le_refl _, .inr rfl, ⟨fun i h0 hi => by omega⟩, ⟨Below.refl _ _⟩⟩
     case round =>
      obtain ⟨k, rfl, hk1, hk, HT, HBR⟩ := hrel
      obtain ⟨z0, z1, z2, z3, z4⟩ := fives HBR.out hY3.out
      by_cases hlt : k < l0.length
      ·have hltb : decide (k < l0.length) = true := decide_eq_true hlt
       obtain ⟨j, hj⟩ : ∃ j : Int, (k : Int) - 1 = j := ⟨_, rfl⟩
       obtain ⟨ad, e1, hx1, -⟩ := at_T82 (Kd.C_below HR0''.out HBR.out) j (by omega) (by omega)
       obtain ⟨ad', e2, hx2, -⟩ := at_T82 (Kd.C_below HR0''.out HBR.out) (k : Int) (by omega) (by omega)
       obtain rfl : ad = ad' := Option.some.inj (e1.symm.trans e2)
       subst e1
       clear e2
       rw [Int.toNat_natCast] at hx2
       have q2 : (0 ≤ j) = True := eq_true (by omega)
       have q3 : (j < (l0.length : Int)) = True := eq_true (by omega)
       have hw : IntKind.i64.wrap ((k : Int) - 1) = j := by rw [IntWalk.i64_in _ (by omega)]; exact hj
       have HJ := Aside0.mk hj
       clear hj
       cases hb : Op.bytesLess (rd_T82 l0 j).f0.toList (rd_T82 l0 (k : Int)).f0.toList
       ·go_wp2
        go_quiet (fail)
        go_wp2
        go_ret
        exact ⟨by rw [not_terms (rises_not k (by omega) hlt (by rw [HJ.out]; exact hb))]; rfl, pw_below_drewN (below_step HB3.out HBR.out) _⟩
       ·go_wp2
        go_quiet (fail)
        go_wp2
        exact ⟨⟨k + 1, rfl, by omega, by omega, ⟨HT.out.step (.inr (by rw [HJ.out]; exact hb))⟩, ⟨pw_below_drewN HBR.out _⟩⟩, by simp [intOf]; omega⟩
      ·have hltb : decide (k < l0.length) = false := decide_eq_false hlt
       have HTE : Aside0 (rises (fun i => (rd_T82 l0 i).f0) l0.length = true) := ⟨rises_all (HT.out.down (by omega))⟩
       clear HT hlt hk hk1
       obtain ⟨w4, rfl⟩ : ∃ x, x = wr := ⟨_, rfl⟩
       have HB4 : Aside0 (Below w.heap.size w w4) := ⟨below_step HB3.out HBR.out⟩
       have hY4 := Aside0.mk (fives HBR.out hY3.out)
       have HR2' := Aside0.mk (Kd.C_below HR2''.out HBR.out)
       have HR3' := Aside0.mk (Kd.C_below HR3''.out HBR.out)
       clear HR0'' HR2'' HR3'' HB3 hY3 HBR
       go_wp2
       clear z0 z1 z2 z3 z4 hltb
       go_loopw [7] (fun v wr => ∃ k : Nat, v = .int .i64 k ∧ 1 ≤ k ∧ (k ≤ l2.length ∨ k = 1) ∧ Aside0 (RisesTo (rdOf ByteArray.empty l2) k) ∧ Aside0 (Below w4.heap.size w4 wr)) (fun v _ => l2.length - (intOf v).toNat)
       case atStart => exact ⟨1, rfl, Nat.le_refl _, .inr rfl, ⟨fun i h0 hi => by omega⟩, ⟨Below.refl _ _⟩⟩
       case round =>
        obtain ⟨k, rfl, hk1, hk, HT, HBR⟩ := hrel
        obtain ⟨z0, z1, z2, z3, z4⟩ := fives HBR.out hY4.out
        by_cases hlt : k < l2.length
        ·have hltb : decide (k < l2.length) = true := decide_eq_true hlt
         obtain ⟨j, hj⟩ : ∃ j : Int, (k : Int) - 1 = j := ⟨_, rfl⟩
         obtain ⟨ad, e1, hx1⟩ := Kd.at_string (Kd.C_below HR2'.out HBR.out) j (by omega) (by omega)
         obtain ⟨ad', e2, hx2⟩ := Kd.at_string (Kd.C_below HR2'.out HBR.out) (k : Int) (by omega) (by omega)
         obtain rfl : ad = ad' := Option.some.inj (e1.symm.trans e2)
         subst e1
         clear e2
         rw [Int.toNat_natCast] at hx2
         have q2 : (0 ≤ j) = True := eq_true (by omega)
         have q3 : (j < (l2.length : Int)) = True := eq_true (by omega)
         have hw : IntKind.i64.wrap ((k : Int) - 1) = j := by rw [IntWalk.i64_in _ (by omega)]; exact hj
         have HJ := Aside0.mk hj
         clear hj
         cases hb : Op.bytesLess (rdOf ByteArray.empty l2 j).toList (rdOf ByteArray.empty l2 (k : Int)).toList
         ·go_wp2
          go_quiet (fail)
          go_wp2
          go_ret
          exact ⟨by rw [not_sorts (rises_not k (by omega) hlt (by rw [HJ.out]; exact hb))]; rfl, pw_below_drewN (below_step HB4.out HBR.out) _⟩
         ·go_wp2
          go_quiet (fail)
          go_wp2
          exact ⟨⟨k + 1, rfl, by omega, by omega, ⟨HT.out.step (.inr (by rw [HJ.out]; exact hb))⟩, ⟨pw_below_drewN HBR.out _⟩⟩, by simp [intOf]; omega⟩
        ·have hltb : decide (k < l2.length) = false := decide_eq_false hlt
         have HSE : Aside0 (rises (rdOf ByteArray.empty l2) l2.length = true) := ⟨rises_all (HT.out.down (by omega))⟩
         clear HT hlt hk hk1
         obtain ⟨w5, rfl⟩ : ∃ x, x = wr := ⟨_, rfl⟩
         have HB5 : Aside0 (Below w.heap.size w w5) := ⟨below_step HB4.out HBR.out⟩
         have hY5 := Aside0.mk (fives HBR.out hY4.out)
         have HR3 := Aside0.mk (Kd.C_below HR3'.out HBR.out)
         clear HR2' HR3' HB4 hY4 HBR
         go_wp2
         clear z0 z1 z2 z3 z4 hltb
         go_loopw [8] (fun v wr => ∃ i : Nat, v = .int .i64 i ∧ i ≤ l3.length ∧ Aside0 (RisesTo (fun i => (rd_T64 l3 i).f0) i) ∧ Aside0 ((l3.take i).all (prodB l0.length l2.length) = true) ∧ Aside0 (Below w5.heap.size w5 wr)) (fun v _ => l3.length - (intOf v).toNat)
         case atStart => exact ⟨0, rfl, Nat.zero_le _, ⟨fun i h0 hi => by omega⟩, ⟨by simp⟩, ⟨Below.refl _ _⟩⟩
         case round =>
          obtain ⟨i, rfl, hi, HT, HA, HBR⟩ := hrel
          obtain ⟨z0, z1, z2, z3, z4⟩ := fives HBR.out hY5.out
          by_cases hlt : i < l3.length
          ·have hltb : decide (i < l3.length) = true := decide_eq_true hlt
           obtain ⟨ad, A4, c4, e4, hx1, hx2, hx3, hx4, hcap, hr4⟩ := at_T64 (Kd.C_below HR3.out HBR.out) (i : Int) (by omega) (by omega)
           rw [Int.toNat_natCast] at hx1 hx2 hx3 hx4
           obtain ⟨p, hp⟩ : ∃ p, rd_T64 l3 i = p := ⟨_, rfl⟩
           rw [hp] at hx1 hx2 hx3 hx4 hr4 hcap
           have HPI := Aside0.mk hp
           have HPK : Aside0 (l3[i] = p) := ⟨by rw [← hp, rd45_at l3 i hlt]⟩
           have HM : Aside0 (p ∈ l3) := ⟨by rw [← HPK.out]; exact List.getElem_mem hlt⟩
           have hbad : prodB l0.length l2.length p = false → validB l0 l1 l2 l3 st = false := fun h => not_prods (by rw [all_part _ _ i hlt, HPK.out, h]; simp)
           have HBD := Aside0.mk hbad
           clear hp hcap hbad
           subst e4
           obtain ⟨nl, hnl⟩ : ∃ nl, p.f2.length = nl := ⟨_, rfl⟩
           obtain ⟨lab, hlab⟩ : ∃ lab, p.f0 = lab := ⟨_, rfl⟩
           obtain ⟨srt, hsrt⟩ : ∃ srt, p.f1 = srt := ⟨_, rfl⟩
           obtain ⟨cls, hcls⟩ : ∃ cls, p.f3 = cls := ⟨_, rfl⟩
           rw [hlab] at hx1
           rw [hsrt] at hx2
           rw [hnl] at hx3
           rw [hcls] at hx4
           have HPB : Aside0 (prodB l0.length l2.length p = (inB srt l2.length && !decide (12 < nl) && !p.f2.any (oddB l0.length l2.length))) := ⟨by unfold prodB; rw [hsrt, hnl]⟩
           have HNL := Aside0.mk hnl
           have HLB := Aside0.mk hlab
           have HR4 := Aside0.mk hr4
           clear hlab hnl hcls hsrt hr4
           go_upto_region 24 with fail
           have HZ : Aside0 (Below wr.heap.size wr (wr.alloc (Obj.cells #[.string lab, .int .i64 srt, .slice A4 nl c4, .int .i64 cls] 64))) := ⟨below_alloc (Below.refl _ _) _⟩
           have x0 : (wr.alloc (Obj.cells #[.string lab, .int .i64 srt, .slice A4 nl c4, .int .i64 cls] 64)).cell? ⟨wr.heap.size, 0, none⟩ = some (.string lab) := by go_simp
           have x1 : (wr.alloc (Obj.cells #[.string lab, .int .i64 srt, .slice A4 nl c4, .int .i64 cls] 64)).cell? ⟨wr.heap.size, 1, none⟩ = some (.int .i64 srt) := by go_simp
           have x2 : (wr.alloc (Obj.cells #[.string lab, .int .i64 srt, .slice A4 nl c4, .int .i64 cls] 64)).cell? ⟨wr.heap.size, 2, none⟩ = some (.slice A4 nl c4) := by go_simp
           generalize wr.alloc (Obj.cells #[.string lab, .int .i64 srt, .slice A4 nl c4, .int .i64 cls] 64) = wz at *
           have HBZ : Aside0 (Below w5.heap.size w5 wz) := ⟨below_step HBR.out HZ.out⟩
           have HBwZ : Aside0 (Below w.heap.size w wz) := ⟨below_step HB5.out HBZ.out⟩
           have HR4Z := Aside0.mk (Kd.C_below HR4.out HZ.out)
           clear hx1 hx2 hx3 hx4 z0 z1 z2 z3 z4
           obtain ⟨z0, z1, z2, z3, z4⟩ := fives HBZ.out hY5.out
           have X2 := Aside0.mk x2
           clear HR4
           generalize wr.heap.size = gy at x0 x1 x2 X2 ⊢
           obtain ⟨wo, rfl⟩ : ∃ wo, wo = wr := ⟨_, rfl⟩
           go_cut [161] from 131 to 161 (fun v161 wc => ∃ b : Bool, v161 = .bool b ∧ Aside0 (Below wz.heap.size wz wc) ∧ Aside0 (b = false → (i = 0 ∨ Op.bytesLess (rd_T64 l3 ((i : Int) - 1)).f0.toList (rd_T64 l3 i).f0.toList = true) ∧ prodB l0.length l2.length p = !p.f2.any (oddB l0.length l2.length)) ∧ Aside0 (b = true → validB l0 l1 l2 l3 st = false))
           case first =>
            have hbad := HBD.out
            by_cases h0 : i = 0
            ·have d0 : decide (0 < i) = false := decide_eq_false (by omega)
             have H0 := Aside0.mk h0
             clear h0
             by_cases g1 : srt < 0
             ·have d1 : decide (srt < 0) = true := decide_eq_true g1
              have e1 : Aside0 (validB l0 l1 l2 l3 st = false) := ⟨hbad (by rw [HPB.out]; unfold inB; rw [decide_eq_false (by omega : ¬ 0 ≤ srt)]; rfl)⟩
              go_quiet (fail)
              go_wp2
              go_meet
              exact ⟨true, by first | rfl | (simp; omega), ⟨pw_below_drewN (Below.refl _ _) _⟩, ⟨fun h => by cases h⟩, ⟨fun _ => e1.out⟩⟩
             ·have d1 : decide (srt < 0) = false := decide_eq_false g1
              by_cases g2 : (l2.length : Int) ≤ srt
              ·have d2 : decide ((l2.length : Int) ≤ srt) = true := decide_eq_true g2
               have e1 : Aside0 (validB l0 l1 l2 l3 st = false) := ⟨hbad (by rw [HPB.out]; unfold inB; rw [decide_eq_false (by omega : ¬ srt < l2.length), Bool.and_false]; rfl)⟩
               go_quiet (fail)
               go_wp2
               go_meet
               exact ⟨true, by first | rfl | (simp; omega), ⟨pw_below_drewN (Below.refl _ _) _⟩, ⟨fun h => by cases h⟩, ⟨fun _ => e1.out⟩⟩
              ·have d2 : decide ((l2.length : Int) ≤ srt) = false := decide_eq_false g2
               by_cases g3 : 12 < nl
               ·have d3 : decide (12 < nl) = true := decide_eq_true g3
                have e1 : Aside0 (validB l0 l1 l2 l3 st = false) := ⟨hbad (by rw [HPB.out, d3]; simp)⟩
                go_quiet (fail)
                go_wp2
                go_meet
                exact ⟨true, by first | rfl | (simp; omega), ⟨pw_below_drewN (Below.refl _ _) _⟩, ⟨fun h => by cases h⟩, ⟨fun _ => e1.out⟩⟩
               ·have d3 : decide (12 < nl) = false := decide_eq_false g3
                have e1 : Aside0 (prodB l0.length l2.length p = !p.f2.any (oddB l0.length l2.length)) := ⟨by rw [HPB.out, d3]; unfold inB; rw [decide_eq_true (by omega : 0 ≤ srt), decide_eq_true (by omega : srt < l2.length)]; simp⟩
                go_quiet (fail)
                go_wp2
                go_meet
                exact ⟨false, by first | rfl | (simp; omega), ⟨pw_below_drewN (Below.refl _ _) _⟩, ⟨fun _ => ⟨.inl H0.out, e1.out⟩⟩, ⟨fun h => by cases h⟩⟩
            ·have d0 : decide (0 < i) = true := decide_eq_true (by omega)
             obtain ⟨j, hj⟩ : ∃ j : Int, (i : Int) - 1 = j := ⟨_, rfl⟩
             obtain ⟨ad', A5, c5, e5, hy1, -⟩ := at_T64 (Kd.C_below HR3.out HBZ.out) j (by omega) (by omega)
             cases e5
             have q2 : (0 ≤ j) = True := eq_true (by omega)
             have q3 : (j < (l3.length : Int)) = True := eq_true (by omega)
             have hw : IntKind.i64.wrap ((i : Int) - 1) = j := by rw [IntWalk.i64_in _ (by omega)]; exact hj
             have HJ := Aside0.mk hj
             clear hj
             cases hb : Op.bytesLess (rd_T64 l3 j).f0.toList lab.toList
             ·have e1 : Aside0 (validB l0 l1 l2 l3 st = false) := ⟨not_labels (rises_not i (by omega) hlt (by rw [HJ.out, HPI.out, HLB.out]; exact hb))⟩
              go_quiet (fail)
              go_wp2
              go_meet
              exact ⟨true, by first | rfl | (simp; omega), ⟨pw_below_drewN (Below.refl _ _) _⟩, ⟨fun h => by cases h⟩, ⟨fun _ => e1.out⟩⟩
             ·have HLT : Aside0 (Op.bytesLess (rd_T64 l3 ((i : Int) - 1)).f0.toList (rd_T64 l3 i).f0.toList = true) := ⟨by rw [HJ.out, HPI.out, HLB.out]; exact hb⟩
              by_cases g1 : srt < 0
              ·have d1 : decide (srt < 0) = true := decide_eq_true g1
               have e1 : Aside0 (validB l0 l1 l2 l3 st = false) := ⟨hbad (by rw [HPB.out]; unfold inB; rw [decide_eq_false (by omega : ¬ 0 ≤ srt)]; rfl)⟩
               go_quiet (fail)
               go_wp2
               go_meet
               exact ⟨true, by first | rfl | (simp; omega), ⟨pw_below_drewN (Below.refl _ _) _⟩, ⟨fun h => by cases h⟩, ⟨fun _ => e1.out⟩⟩
              ·have d1 : decide (srt < 0) = false := decide_eq_false g1
               by_cases g2 : (l2.length : Int) ≤ srt
               ·have d2 : decide ((l2.length : Int) ≤ srt) = true := decide_eq_true g2
                have e1 : Aside0 (validB l0 l1 l2 l3 st = false) := ⟨hbad (by rw [HPB.out]; unfold inB; rw [decide_eq_false (by omega : ¬ srt < l2.length), Bool.and_false]; rfl)⟩
                go_quiet (fail)
                go_wp2
                go_meet
                exact ⟨true, by first | rfl | (simp; omega), ⟨pw_below_drewN (Below.refl _ _) _⟩, ⟨fun h => by cases h⟩, ⟨fun _ => e1.out⟩⟩
               ·have d2 : decide ((l2.length : Int) ≤ srt) = false := decide_eq_false g2
                by_cases g3 : 12 < nl
                ·have d3 : decide (12 < nl) = true := decide_eq_true g3
                 have e1 : Aside0 (validB l0 l1 l2 l3 st = false) := ⟨hbad (by rw [HPB.out, d3]; simp)⟩
                 go_quiet (fail)
                 go_wp2
                 go_meet
                 exact ⟨true, by first | rfl | (simp; omega), ⟨pw_below_drewN (Below.refl _ _) _⟩, ⟨fun h => by cases h⟩, ⟨fun _ => e1.out⟩⟩
                ·have d3 : decide (12 < nl) = false := decide_eq_false g3
                 have e1 : Aside0 (prodB l0.length l2.length p = !p.f2.any (oddB l0.length l2.length)) := ⟨by rw [HPB.out, d3]; unfold inB; rw [decide_eq_true (by omega : 0 ≤ srt), decide_eq_true (by omega : srt < l2.length)]; simp⟩
                 go_quiet (fail)
                 go_wp2
                 go_meet
                 exact ⟨false, by first | rfl | (simp; omega), ⟨pw_below_drewN (Below.refl _ _) _⟩, ⟨fun _ => ⟨.inr HLT.out, e1.out⟩⟩, ⟨fun h => by cases h⟩⟩
           case rest =>
            obtain ⟨b, rfl, HB6, HF, HTR⟩ := hcut
            clear x0 x1 x2 z0 z1 z2 z3 z4
            obtain ⟨w6, rfl⟩ : ∃ x, x = wc := ⟨_, rfl⟩
            have HBw6 : Aside0 (Below w.heap.size w w6) := ⟨below_step HBwZ.out HB6.out⟩
            have x2 := pw_cell_below HB6.out X2.out
            cases b
            ·have HF2 := Aside0.mk (HF.out rfl)
             clear HF HTR
             have hneg : IntKind.i64.wrap (-(l2.length : Int)) = -(l2.length : Int) := IntWalk.i64_in _ (by omega)
             go_wp2
             clear x2 hltb
             go_loopw [10] (fun v wi => ∃ j : Nat, v = .int .i64 j ∧ j ≤ nl ∧ Aside0 ((p.f2.take j).any (oddB l0.length l2.length) = false) ∧ Aside0 (Below w6.heap.size w6 wi)) (fun v _ => nl - (intOf v).toNat)
             case atStart => exact ⟨0, rfl, Nat.zero_le _, ⟨by simp⟩, ⟨Below.refl _ _⟩⟩
             case round =>
              obtain ⟨j, rfl, hj, HO, HBI⟩ := hrel
              have HZI : Aside0 (Below wz.heap.size wz wr) := ⟨below_step HB6.out HBI.out⟩
              have x2 := pw_cell_below HZI.out X2.out
              have hmj : nl ≤ 9223372036854775807 := by have := HR4Z.out.2.1; rw [HNL.out] at this; exact this
              by_cases hjl : j < nl
              ·have hjb : decide (j < nl) = true := decide_eq_true hjl
               have hjl2 : j < p.f2.length := by rw [HNL.out]; exact hjl
               obtain ⟨ad5, e5, hxs⟩ := Kd.at_int (Kd.C_below HR4Z.out HZI.out) (j : Int) (by omega) (by omega)
               rw [Int.toNat_natCast] at hxs
               have hrk : rd p.f2 (j : Int) = p.f2[j] := by unfold rd; simp [List.getD, hjl2]
               have hrs := HRG.out p HM.out p.f2[j] (List.getElem_mem hjl2)
               have hat : Aside0 ((p.f2.take (j + 1)).any (oddB l0.length l2.length) = ((p.f2.take j).any (oddB l0.length l2.length) || oddB l0.length l2.length p.f2[j])) := ⟨by rw [List.take_add_one, List.getElem?_eq_getElem hjl2, List.any_append]; simp⟩
               have han : Aside0 (oddB l0.length l2.length p.f2[j] = true → p.f2.any (oddB l0.length l2.length) = true) := ⟨fun h => List.any_eq_true.2 ⟨_, List.getElem_mem hjl2, h⟩⟩
               obtain ⟨s, hs⟩ : ∃ s, p.f2[j] = s := ⟨_, rfl⟩
               rw [hrk, hs] at hxs
               rw [hs] at hrs hat han
               have HOD := Aside0.mk (odd_is l0.length l2.length s hS hrs)
               clear hrk hs hrs hjl2
               subst e5
               go_upto_region 29 with fail
               go_cut [185] from 169 to 185 (fun v185 wc => ∃ b : Bool, v185 = .bool b ∧ Aside0 (Below w6.heap.size w6 wc) ∧ Aside0 (oddB l0.length l2.length s = b))
               case first =>
                by_cases g1 : (l0.length : Int) ≤ s
                ·have d1 : decide ((l0.length : Int) ≤ s) = true := decide_eq_true g1
                 have e1 : Aside0 (oddB l0.length l2.length s = true) := ⟨by rw [HOD.out, d1]; rfl⟩
                 go_wp2_with fail
                 go_meet
                 exact ⟨true, by first | rfl | (simp; omega), HBI, e1⟩
                ·have d1 : decide ((l0.length : Int) ≤ s) = false := decide_eq_false g1
                 by_cases g2 : s < -(l2.length : Int)
                 ·have d2 : decide (s < -(l2.length : Int)) = true := decide_eq_true g2
                  have e1 : Aside0 (oddB l0.length l2.length s = true) := ⟨by rw [HOD.out, d1, d2]; rfl⟩
                  go_wp2_with fail
                  go_meet
                  exact ⟨true, by first | rfl | (simp; omega), HBI, e1⟩
                 ·have d2 : decide (s < -(l2.length : Int)) = false := decide_eq_false g2
                  have e1 : Aside0 (oddB l0.length l2.length s = false) := ⟨by rw [HOD.out, d1, d2]; rfl⟩
                  go_wp2_with fail
                  go_meet
                  exact ⟨false, by first | rfl | (simp; omega), HBI, e1⟩
               case rest =>
                obtain ⟨b, rfl, HB7, HOS⟩ := hcut
                cases b
                ·go_wp2
                 exact ⟨⟨j + 1, rfl, by omega, ⟨by rw [hat.out, HO.out, HOS.out]; rfl⟩, HB7⟩, by simp [intOf]; omega⟩
                ·go_wp2
                 go_ret
                 exact ⟨by rw [HBD.out (by rw [HF2.out.2, han.out HOS.out]; rfl)]; rfl, below_step HBw6.out HB7.out⟩
              ·have hjb : decide (j < nl) = false := decide_eq_false hjl
               have HPR : Aside0 (prodB l0.length l2.length p = true) := ⟨by have := HO.out; rw [List.take_of_length_le (by have := HNL.out; omega)] at this; rw [HF2.out.2, this]; rfl⟩
               go_wp2
               exact ⟨⟨i + 1, rfl, by omega, ⟨HT.out.step HF2.out.1⟩, ⟨by rw [all_take _ _ i hlt, HA.out, HPK.out, HPR.out]; rfl⟩, ⟨below_step HBZ.out HZI.out⟩⟩, by simp [intOf]; omega⟩
            ·have HTR2 := Aside0.mk (HTR.out rfl)
             clear HF HTR
             go_wp2
             go_ret
             exact ⟨by rw [HTR2.out]; rfl, HBw6.out⟩
          ·have hltb : decide (i < l3.length) = false := decide_eq_false hlt
           have HLE : Aside0 (rises (fun i => (rd_T64 l3 i).f0) l3.length = true) := ⟨rises_all (HT.out.down (by omega))⟩
           have HPE : Aside0 (l3.all (prodB l0.length l2.length) = true) := ⟨by have := HA.out; rwa [List.take_of_length_le (by omega)] at this⟩
           go_wp2
           go_ret
           exact ⟨by rw [all_valid H5.out HOV.out HPE.out HSE.out HTE.out HLE.out]; rfl, below_step HB5.out HBR.out⟩
  ·go_wp2
   go_ret
   exact ⟨by rw [not_five H5.out]; rfl, HBw.out⟩

/-- As a printed function: the answer of symbols within what numbers there are. -/
def syntagmref12_Valid.f (l0 : List S82) (l1 : List S101) (l2 : List ByteArray) (l3 : List S64) (st : Int) : Option Bool :=
 if ∀ p ∈ l3, ∀ s ∈ p.f2, -9223372036854775808 ≤ s ∧ s ≤ 9223372036854775807 then some (validB l0 l1 l2 l3 st) else none
theorem syntagmref12_Valid.calls (A0 : Option Addr) (c0 : Nat) (l0 : List S82) (A1 : Option Addr) (c1 : Nat) (l1 : List S101) (A2 : Option Addr) (c2 : Nat) (l2 : List ByteArray) (A3 : Option Addr) (c3 : Nat) (l3 : List S64) (st : Int) (r : Bool) (w : World)
  (hr0 : Kd.C k82 w A0 l0.length l0) (_ : l0.length ≤ c0) (hr1 : Kd.C k101 w A1 l1.length l1) (_ : l1.length ≤ c1) (hr2 : Kd.C Kd.string w A2 l2.length l2) (_ : l2.length ≤ c2) (hr3 : Kd.C k64 w A3 l3.length l3) (_ : l3.length ≤ c3) (h : syntagmref12_Valid.f l0 l1 l2 l3 st = some r) :
  Calls Tryd.prog 45 #[.agg #[.slice A0 l0.length c0, .slice A1 l1.length c1, .slice A2 l2.length c2, .slice A3 l3.length c3, .int .i64 st]] w fun e w' => e = .returned (.bool r) ∧ Below w.heap.size w w' := by
 unfold syntagmref12_Valid.f at h
 split at h
 ·rw [← Option.some.inj h]
  exact refv_walk A0 c0 l0 A1 c1 l1 A2 c2 l2 A3 c3 l3 st w hr0 hr1 hr2 hr3 (by assumption)
 ·cases h

end Go.Proofs.YtclollnicbcooaaDoor.P
end

section
namespace Go.Proofs.YtclollnicbcooaaDoor.P
open Go.RowKit Go.Proofs.YtclollnicbcooaaDoorW.PrintWords Go.Proofs.YtclollnicbcooaaDoorW.PrintLast Go.Proofs.YtclollnicbcooaaDoorW.PrintMore
attribute [local go_sem] max2_int min2_int max_two min_two max_three min_three max_four min_four

/-! ### syntagmref14_Is: function 36 -/
def syntagmref14_Is.f (l0_0 : List (S82)) (l0_1 : List (S101)) (l0_2 : List ByteArray) (l0_3 : List (S64)) (a0_4 : Int) (a1_0 : Int) (a1_1 : Int) : Option (Bool) := (syntagmref12_Valid.f l0_0 l0_1 l0_2 l0_3 a0_4).bind fun t220 => (if t220 = true then (if a1_0 ≥ (-1) then (if a1_0 < (l0_3.length : Int) then (if a1_1 ≥ 0 then ((syntagmref14_Right.f l0_0 l0_1 l0_2 l0_3 a0_4 a1_0).bind fun t221 => (some (decide (a1_1 ≤ (t221.length : Int))))) else (some false)) else (some false)) else (some false)) else (some false))
def syntagmref14_Is.T2 : Bool × List (List Nat × List Nat) := (true, [([], []), ([0], [0]), ([1], [1]), ([2, 1], [1, 2]), ([3, 1], [1, 3]), ([1, 4], [1, 4]), ([5, 1], [5]), ([6], [6]), ([7, 6], [6, 7]), ([6], [6]), ([9, 6], [6, 9]), ([10, 6], [6, 10]), ([8, 11, 6], [6, 8, 11]), ([6, 12], [6, 12]), ([13, 6], [13]), ([14], [14]), ([15, 14], [14, 15]), ([16, 14], [14, 16]), ([14, 17], [14, 17]), ([18, 14], [18]), ([19], [19]), ([20, 19], [19, 20]), ([19], [19]), ([19], [19]), ([23, 19], [19, 23]), ([22, 24, 19, 19], [19, 22, 24]), ([25, 19], [19, 25]), ([21, 26, 19], [19, 21, 26]), ([19, 27], [19, 27]), ([28, 25, 0, 1, 2, 3, 4, 5, 6, 7, 8, 9, 10, 11, 12, 13, 14, 15, 16, 17, 18, 19, 20, 21, 22, 23, 24, 25, 26, 27, 28], [28])])
def syntagmref14_Is.B2 : List Nat := [0, 1, 3, 7, 15, 31, 63, 127, 255, 127, 639, 1663, 4095, 8191, 16383, 32767, 65535, 131071, 262143, 524287, 1048575, 2097151, 1048575, 1048575, 9437183, 30408703, 63963135, 134217727, 268435455, 536870911]
theorem syntagmref14_Is.tab2 : rtab .any (opsOf Tryd.f36 2) = syntagmref14_Is.T2 := by kernel_rfl
theorem syntagmref14_Is.bits2 : waitsOk syntagmref14_Is.T2.2 syntagmref14_Is.B2 = true := by kernel_rfl
set_option maxHeartbeats 8000000 in
set_option maxRecDepth 100000 in
theorem syntagmref14_Is.calls (A0_0 : Option Addr) (c0_0 : Nat) (l0_0 : List (S82)) (A0_1 : Option Addr) (c0_1 : Nat) (l0_1 : List (S101)) (A0_2 : Option Addr) (c0_2 : Nat) (l0_2 : List ByteArray) (A0_3 : Option Addr) (c0_3 : Nat) (l0_3 : List (S64)) (a0_4 : Int) (a1_0 : Int) (a1_1 : Int) (r : Bool) (w : World) (hr0_0 : Kd.C k82 w A0_0 l0_0.length l0_0) (hc0_0 : l0_0.length ≤ c0_0) (hr0_1 : Kd.C k101 w A0_1 l0_1.length l0_1) (hc0_1 : l0_1.length ≤ c0_1) (hr0_2 : Kd.C Kd.string w A0_2 l0_2.length l0_2) (hc0_2 : l0_2.length ≤ c0_2) (hr0_3 : Kd.C k64 w A0_3 l0_3.length l0_3) (hc0_3 : l0_3.length ≤ c0_3) (h : syntagmref14_Is.f l0_0 l0_1 l0_2 l0_3 a0_4 a1_0 a1_1 = some r) :
  Calls Tryd.prog 36 #[.agg #[.slice A0_0 l0_0.length c0_0, .slice A0_1 l0_1.length c0_1, .slice A0_2 l0_2.length c0_2, .slice A0_3 l0_3.length c0_3, .int .i64 a0_4], .agg #[.int .i64 a1_0, .int .i64 a1_1]] w fun e w' => e = .returned (.bool r) ∧ Below w.heap.size w w' := by
 have hu27 := Tryd.underlying27
 have hu39 := Tryd.underlying39
 have HR0_0 := jM hr0_0
 have HC0_0 := jM hc0_0
 clear hr0_0 hc0_0
 have HR0_1 := jM hr0_1
 have HC0_1 := jM hc0_1
 clear hr0_1 hc0_1
 have HR0_2 := jM hr0_2
 have HC0_2 := jM hc0_2
 clear hr0_2 hc0_2
 have HR0_3 := jM hr0_3
 have HC0_3 := jM hc0_3
 clear hr0_3 hc0_3
 have HB := jM (Below.refl w.heap.size w)
 have H : ((syntagmref12_Valid.f l0_0 l0_1 l0_2 l0_3 a0_4).bind fun t220 => (if t220 = true then (if a1_0 ≥ (-1) then (if a1_0 < (l0_3.length : Int) then (if a1_1 ≥ 0 then ((syntagmref14_Right.f l0_0 l0_1 l0_2 l0_3 a0_4 a1_0).bind fun t221 => (some (decide (a1_1 ≤ (t221.length : Int))))) else (some false)) else (some false)) else (some false)) else (some false))) = some r := h
 clear h
 replace H := Option.bind_eq_some_iff.mp H
 obtain ⟨t220, A30, H⟩ := H
 replace H : (if t220 = true then (if a1_0 ≥ (-1) then (if a1_0 < (l0_3.length : Int) then (if a1_1 ≥ 0 then ((syntagmref14_Right.f l0_0 l0_1 l0_2 l0_3 a0_4 a1_0).bind fun t221 => (some (decide (a1_1 ≤ (t221.length : Int))))) else (some false)) else (some false)) else (some false)) else (some false)) = some r := H
 have A3 := jM A30
 clear A30
 by_cases c4 : t220 = true
 ·subst c4
  have H1 : (if a1_0 ≥ (-1) then (if a1_0 < (l0_3.length : Int) then (if a1_1 ≥ 0 then ((syntagmref14_Right.f l0_0 l0_1 l0_2 l0_3 a0_4 a1_0).bind fun t221 => (some (decide (a1_1 ≤ (t221.length : Int))))) else (some false)) else (some false)) else (some false)) = some r := by rw [if_pos rfl] at H; exact H
  clear H
  have H := H1
  clear H1
  by_cases c5 : a1_0 ≥ (-1)
  ·rw [if_pos c5] at H
   have c5b0 : decide ((-1) ≤ a1_0) = true := decide_eq_true c5
   clear c5
   by_cases c6 : a1_0 < (l0_3.length : Int)
   ·rw [if_pos c6] at H
    have c6b0 : decide (a1_0 < (l0_3.length : Int)) = true := decide_eq_true c6
    clear c6
    by_cases c7 : a1_1 ≥ 0
    ·rw [if_pos c7] at H
     have c7b0 : decide (0 ≤ a1_1) = true := decide_eq_true c7
     clear c7
     replace H := Option.bind_eq_some_iff.mp H
     obtain ⟨t221, A80, H⟩ := H
     replace H : (some (decide (a1_1 ≤ (t221.length : Int)))) = some r := H
     have A8 := jM A80
     clear A80
     obtain rfl := Option.some.inj H
     go_enter Tryd.func36, Tryd.ntmps36
     try go_wp2_with (first | ((with_reducible refine gate_dst (N := 2) rfl ?_); (try (refine gate_guard (by rfl) ?_; dsimp only)); refine box_event ?hg (N := 2) ?hd (cs := #[.slice A0_0 l0_0.length c0_0, .slice A0_1 l0_1.length c0_1, .slice A0_2 l0_2.length c0_2, .slice A0_3 l0_3.length c0_3, .int .i64 a0_4]) (t := 27) ?hr ?_; (case hd => rfl); (case hg => rfl); (case hr => first | (go_simp; done) | (go_simp; rfl)); intro gb218 hg w9 hbox hb; have n0_ := jM (jT (by repeat (first | (with_reducible first | exact HB.out | apply jA | apply jN | apply jD) | exact HB.out)) hb); have n1_ := jM (hbox); have n2_ := jM ((by rw [hg]; exact (below_size (by repeat (first | (with_reducible first | exact HB.out | apply jA | apply jN | apply jD) | exact HB.out))) : w.heap.size ≤ gb218)); have n3_ := jM ((by rw [hg]; exact (below_size (by repeat (first | (with_reducible first | exact HB.out | apply jA | apply jN | apply jD) | exact HB.out))) : w.heap.size ≤ gb218)); clear HB; have HB := n0_; have BK218 := n1_; have GW218 := n2_; have GE218 := n3_; clear n0_ n1_ n2_ n3_; clear hb hbox hg) | ((with_reducible refine gate_dst (N := 3) rfl ?_); (try (refine gate_guard (by rfl) ?_; dsimp only)); refine box_event ?hg (N := 3) ?hd (cs := #[.int .i64 a1_0, .int .i64 a1_1]) (t := 39) ?hr ?_; (case hd => rfl); (case hg => rfl); (case hr => first | (go_simp; done) | (go_simp; rfl)); intro gb219 hg w10 hbox hb; have n0_ := jM (jW (g := gb218) (o := .cells #[.slice A0_0 l0_0.length c0_0, .slice A0_1 l0_1.length c0_1, .slice A0_2 l0_2.length c0_2, .slice A0_3 l0_3.length c0_3, .int .i64 a0_4] 27 (0, 0)) (by (with_reducible repeat (first | refine jY ?_ _ | refine jZ ?_ | refine jX ?_ _)); exact BK218.out) hb); have n1_ := jM (jT (by repeat (first | (with_reducible first | exact HB.out | apply jA | apply jN | apply jD | refine jS ?_ GE218.out) | exact HB.out)) hb); have n2_ := jM (hbox); have n3_ := jM ((by rw [hg]; exact (below_size (by repeat (first | (with_reducible first | exact HB.out | apply jA | apply jN | apply jD | refine jS ?_ GE218.out) | exact HB.out))) : w.heap.size ≤ gb219)); have n4_ := jM ((by rw [hg]; exact (below_size (by repeat (first | (with_reducible first | exact HB.out | apply jA | apply jN | apply jD | refine jS ?_ GE218.out) | exact HB.out))) : w.heap.size ≤ gb219)); have n5_ := jM ((by rw [hg]; exact Nat.ne_of_lt (blk_lt (g := gb218) (o := .cells #[.slice A0_0 l0_0.length c0_0, .slice A0_1 l0_1.length c0_1, .slice A0_2 l0_2.length c0_2, .slice A0_3 l0_3.length c0_3, .int .i64 a0_4] 27 (0, 0)) (by (with_reducible repeat (first | refine jY ?_ _ | refine jZ ?_ | refine jX ?_ _)); exact BK218.out)) : gb218 ≠ gb219)); have n6_ := jM ((by rw [hg]; exact Nat.ne_of_gt (blk_lt (g := gb218) (o := .cells #[.slice A0_0 l0_0.length c0_0, .slice A0_1 l0_1.length c0_1, .slice A0_2 l0_2.length c0_2, .slice A0_3 l0_3.length c0_3, .int .i64 a0_4] 27 (0, 0)) (by (with_reducible repeat (first | refine jY ?_ _ | refine jZ ?_ | refine jX ?_ _)); exact BK218.out)) : gb219 ≠ gb218)); clear BK218; clear HB; have BK218 := n0_; have HB := n1_; have BK219 := n2_; have GW219 := n3_; have GE219 := n4_; have NB218_219 := n5_; have NB219_218 := n6_; clear n0_ n1_ n2_ n3_ n4_ n5_ n6_; clear hb hbox hg; have hnb11 := NB218_219.out; have hnc11 := NB219_218.out; have hcz12_0 : w10.cell? ⟨gb218, 0, none⟩ = some (.slice A0_0 l0_0.length c0_0) := (jC BK218.out 0).trans rfl; have hcz12_1 : w10.cell? ⟨gb218, 1, none⟩ = some (.slice A0_1 l0_1.length c0_1) := (jC BK218.out 1).trans rfl; have hcz12_2 : w10.cell? ⟨gb218, 2, none⟩ = some (.slice A0_2 l0_2.length c0_2) := (jC BK218.out 2).trans rfl; have hcz12_3 : w10.cell? ⟨gb218, 3, none⟩ = some (.slice A0_3 l0_3.length c0_3) := (jC BK218.out 3).trans rfl; have hcz12_4 : w10.cell? ⟨gb218, 4, none⟩ = some (.int .i64 a0_4) := (jC BK218.out 4).trans rfl; have hfz12_0 := jF BK218.out 0; have hfz12_1 := jF BK218.out 1; have hfz12_2 := jF BK218.out 2; have hfz12_3 := jF BK218.out 3; have hfz12_4 := jF BK218.out 4) | ((with_reducible refine gate_callee (f := 45) rfl ?_); refine goesL_ (some 7) rfl rfl Tryd.func45 (by kernel_rfl) rfl #[.agg #[.slice A0_0 l0_0.length c0_0, .slice A0_1 l0_1.length c0_1, .slice A0_2 l0_2.length c0_2, .slice A0_3 l0_3.length c0_3, .int .i64 a0_4]] rfl (by (try simp only [List.map_toArray, List.map_cons, List.map_nil]); first | done | rfl | (simp only [List.length_drop, List.length_take]; rfl)) ?_; (with_reducible refine (syntagmref12_Valid.calls _ _ l0_0 _ _ l0_1 _ _ l0_2 _ _ l0_3 a0_4 true _ ?side1 ?side2 ?side3 ?side4 ?side5 ?side6 ?side7 ?side8 A3.out).mono ?_); (case side1 => repeat (first | exact (jB HR0_0.out HB.out) | (with_reducible refine Kd.C_alloc ?_ _) | (with_reducible refine Kd.C_drewN ?_ _) | (with_reducible refine Kd.C_drew ?_))); (case side2 => exact HC0_0.out); (case side3 => repeat (first | exact (jB HR0_1.out HB.out) | (with_reducible refine Kd.C_alloc ?_ _) | (with_reducible refine Kd.C_drewN ?_ _) | (with_reducible refine Kd.C_drew ?_))); (case side4 => exact HC0_1.out); (case side5 => repeat (first | exact (jB HR0_2.out HB.out) | (with_reducible refine Kd.C_alloc ?_ _) | (with_reducible refine Kd.C_drewN ?_ _) | (with_reducible refine Kd.C_drew ?_))); (case side6 => exact HC0_2.out); (case side7 => repeat (first | exact (jB HR0_3.out HB.out) | (with_reducible refine Kd.C_alloc ?_ _) | (with_reducible refine Kd.C_drewN ?_ _) | (with_reducible refine Kd.C_drew ?_))); (case side8 => exact HC0_3.out); rintro e w13 ⟨rfl, hb⟩; refine ⟨_, rfl, ?_⟩; have n0_ := jM (jW (g := gb218) (o := .cells #[.slice A0_0 l0_0.length c0_0, .slice A0_1 l0_1.length c0_1, .slice A0_2 l0_2.length c0_2, .slice A0_3 l0_3.length c0_3, .int .i64 a0_4] 27 (0, 0)) (by (with_reducible repeat (first | refine jY ?_ _ | refine jZ ?_ | refine jX ?_ _)); exact BK218.out) hb); have n1_ := jM (jW (g := gb219) (o := .cells #[.int .i64 a1_0, .int .i64 a1_1] 39 (0, 0)) (by (with_reducible repeat (first | refine jY ?_ _ | refine jZ ?_ | refine jX ?_ _)); exact BK219.out) hb); have n2_ := jM (jT (by repeat (first | (with_reducible first | exact HB.out | apply jA | apply jN | apply jD | refine jS ?_ GE218.out | refine jS ?_ GE219.out) | exact HB.out)) hb); clear BK218; clear BK219; clear HB; have BK218 := n0_; have BK219 := n1_; have HB := n2_; clear n0_ n1_ n2_; (try clear hb); (try clear hb2); (try clear hk); (try clear hi)))
     have n0_ := jM (jZ BK218.out)
     have n1_ := jM (jZ BK219.out)
     have n2_ := jM (jD HB.out)
     clear BK218
     clear BK219
     clear HB
     have BK218 := n0_
     have BK219 := n1_
     have HB := n2_
     clear n0_ n1_ n2_
     refine start_ (n := 30) (S := fun w' => w'.cell? ⟨gb219, 0, none⟩ = some (.int .i64 a1_0) ∧ w'.cell? ⟨gb219, 1, none⟩ = some (.int .i64 a1_1) ∧ w'.cell? ⟨gb218, 0, none⟩ = some (.slice A0_0 l0_0.length c0_0) ∧ w'.cell? ⟨gb218, 1, none⟩ = some (.slice A0_1 l0_1.length c0_1) ∧ w'.cell? ⟨gb218, 2, none⟩ = some (.slice A0_2 l0_2.length c0_2) ∧ w'.cell? ⟨gb218, 3, none⟩ = some (.slice A0_3 l0_3.length c0_3) ∧ w'.cell? ⟨gb218, 4, none⟩ = some (.int .i64 a0_4)) (ds := []) (tf 0 30) (by kernel_rfl) rfl rfl ⟨(jC BK219.out 0).trans rfl, (jC BK219.out 1).trans rfl, (jC BK218.out 0).trans rfl, (jC BK218.out 1).trans rfl, (jC BK218.out 2).trans rfl, (jC BK218.out 3).trans rfl, (jC BK218.out 4).trans rfl⟩ (fun hHeld => ?_); refine with_tabW syntagmref14_Is.tab2 syntagmref14_Is.bits2 (fun HT_ HW_ => ?_)
     generalize w13.drew = w14 at BK218 BK219 HB hHeld ⊢
     refine pure_ (i := 0) (N := some 8) (v := ?_) (a' := ?_) (tf 1 29) rfl rfl (any_of HT_.out (by kernel_rfl)) (fun _ _ _ h => h) (Or.inl ⟨by rfl, ?_⟩) ?_ ?_
     rotate_left
     ·intro w';go_simp;with_reducible rfl
     rotate_left
     ·simp only [Act.put, sA, i64_w, i32_w];rfl
     refine pure_ (i := 1) (N := some 9) (v := ?_) (a' := ?_) (tf 2 28) rfl rfl (any_of HT_.out (by kernel_rfl)) (fun _ _ _ h => h) (Or.inl ⟨by rfl, ?_⟩) ?_ ?_
     rotate_left
     ·intro w';go_simp;with_reducible rfl
     rotate_left
     ·simp only [Act.put, sA, i64_w, i32_w];rfl
     refine pure_ (i := 2) (N := some 10) (v := ?_) (a' := ?_) (tf 3 27) rfl rfl (any_of HT_.out (by kernel_rfl)) (fun _ _ _ h => h) (Or.inl ⟨by rfl, ?_⟩) ?_ ?_
     rotate_left
     ·intro w';go_simp;with_reducible rfl
     rotate_left
     ·simp only [Act.put, sA, i64_w, i32_w];rfl
     refine take_ (i := 3) (N := some 11) (v := ?_) (a' := ?_) (tf 4 26) rfl rfl (take_ofW HT_.out HW_.out (by kernel_rfl)) (fun _ _ _ h => h) (Or.inl ⟨by rfl, ?_⟩) hHeld ?_ ?_
     rotate_left
     ·rintro w' ⟨s0, s1, s2, s3, s4, s5, s6⟩;go_simp;with_reducible rfl
     rotate_left
     ·simp only [Act.put, sA, i64_w, i32_w];rfl
     refine pure_ (i := 4) (N := some 12) (v := ?_) (a' := ?_) (tf 5 25) rfl rfl (any_of HT_.out (by kernel_rfl)) (fun _ _ _ h => h) (Or.inl ⟨by rfl, ?_⟩) ?_ ?_
     rotate_left
     ·intro w';go_simp;with_reducible rfl
     rotate_left
     ·simp only [Act.put, sA, i64_w, i32_w];rfl
     refine pure_ (i := 5) (N := some 13) (v := ?_) (a' := ?_) (tf 6 24) rfl rfl (any_of HT_.out (by kernel_rfl)) (fun _ _ _ h => h) (Or.inl ⟨by rfl, ?_⟩) ?_ ?_
     rotate_left
     ·intro w';go_simp;with_reducible rfl
     rotate_left
     ·simp only [Act.put, sA, i64_w, i32_w];rfl
     refine pure_ (i := 6) (N := some 14) (v := ?_) (a' := ?_) (tf 7 23) rfl rfl (any_of HT_.out (by kernel_rfl)) (fun _ _ _ h => h) (Or.inl ⟨by rfl, ?_⟩) ?_ ?_
     rotate_left
     ·intro w';go_simp;with_reducible rfl
     rotate_left
     ·simp only [Act.put, sA, i64_w, i32_w];rfl
     refine pure_ (i := 7) (N := some 15) (v := ?_) (a' := ?_) (tf 8 22) rfl rfl (any_of HT_.out (by kernel_rfl)) (fun _ _ _ h => h) (Or.inl ⟨by rfl, ?_⟩) ?_ ?_
     rotate_left
     ·intro w';go_simp;with_reducible rfl
     rotate_left
     ·simp only [Act.put, sA, i64_w, i32_w];rfl
     refine pure_ (i := 9) (N := some 17) (v := ?_) (a' := ?_) #[true, true, true, true, true, true, true, true, false, true, false, false, false, false, false, false, false, false, false, false, false, false, false, false, false, false, false, false, false, false] rfl rfl (any_of HT_.out (by kernel_rfl)) (fun _ _ _ h => h) (Or.inl ⟨by rfl, ?_⟩) ?_ ?_
     rotate_left
     ·intro w';go_simp;with_reducible rfl
     rotate_left
     ·simp only [Act.put, sA, i64_w, i32_w];rfl
     refine take_ (i := 8) (N := some 16) (v := ?_) (a' := ?_) (tf 10 20) rfl rfl (take_ofW HT_.out HW_.out (by kernel_rfl)) (fun _ _ _ h => h) (Or.inl ⟨by rfl, ?_⟩) hHeld ?_ ?_
     rotate_left
     ·rintro w' ⟨s0, s1, s2, s3, s4, s5, s6⟩;go_simp;with_reducible rfl
     rotate_left
     ·simp only [Act.put, sA, i64_w, i32_w];rfl
     refine take_ (i := 10) (N := some 18) (v := ?_) (a' := ?_) (tf 11 19) rfl rfl (take_ofW HT_.out HW_.out (by kernel_rfl)) (fun _ _ _ h => h) (Or.inl ⟨by rfl, ?_⟩) hHeld ?_ ?_
     rotate_left
     ·rintro w' ⟨s0, s1, s2, s3, s4, s5, s6⟩;go_simp;with_reducible rfl
     rotate_left
     ·simp only [Act.put, sA, i64_w, i32_w];rfl
     refine pure_ (i := 11) (N := some 19) (v := ?_) (a' := ?_) (tf 12 18) rfl rfl (any_of HT_.out (by kernel_rfl)) (fun _ _ _ h => h) (Or.inl ⟨by rfl, ?_⟩) ?_ ?_
     rotate_left
     ·intro w';go_simp;with_reducible rfl
     rotate_left
     ·simp only [Act.put, sA, i64_w, i32_w];rfl
     refine pure_ (i := 12) (N := some 20) (v := ?_) (a' := ?_) (tf 13 17) rfl rfl (any_of HT_.out (by kernel_rfl)) (fun _ _ _ h => h) (Or.inl ⟨by rfl, ?_⟩) ?_ ?_
     rotate_left
     ·intro w';go_simp;with_reducible rfl
     rotate_left
     ·simp only [Act.put, sA, i64_w, i32_w];rfl
     refine pure_ (i := 13) (N := some 21) (v := ?_) (a' := ?_) (tf 14 16) rfl rfl (any_of HT_.out (by kernel_rfl)) (fun _ _ _ h => h) (Or.inl ⟨by rfl, ?_⟩) ?_ ?_
     rotate_left
     ·intro w';go_simp;with_reducible rfl
     rotate_left
     ·simp only [Act.put, sA, i64_w, i32_w];rfl
     refine pure_ (i := 14) (N := some 22) (v := ?_) (a' := ?_) (tf 15 15) rfl rfl (any_of HT_.out (by kernel_rfl)) (fun _ _ _ h => h) (Or.inl ⟨by rfl, ?_⟩) ?_ ?_
     rotate_left
     ·intro w';go_simp;with_reducible rfl
     rotate_left
     ·simp only [Act.put, sA, i64_w, i32_w];rfl
     refine pure_ (i := 15) (N := some 23) (v := ?_) (a' := ?_) (tf 16 14) rfl rfl (any_of HT_.out (by kernel_rfl)) (fun _ _ _ h => h) (Or.inl ⟨by rfl, ?_⟩) ?_ ?_
     rotate_left
     ·intro w';go_simp;with_reducible rfl
     rotate_left
     ·simp only [Act.put, sA, i64_w, i32_w];rfl
     refine take_ (i := 16) (N := some 24) (v := ?_) (a' := ?_) (tf 17 13) rfl rfl (take_ofW HT_.out HW_.out (by kernel_rfl)) (fun _ _ _ h => h) (Or.inl ⟨by rfl, ?_⟩) hHeld ?_ ?_
     rotate_left
     ·rintro w' ⟨s0, s1, s2, s3, s4, s5, s6⟩;go_simp;with_reducible rfl
     rotate_left
     ·simp only [Act.put, sA, i64_w, i32_w];rfl
     refine pure_ (i := 17) (N := some 25) (v := ?_) (a' := ?_) (tf 18 12) rfl rfl (any_of HT_.out (by kernel_rfl)) (fun _ _ _ h => h) (Or.inl ⟨by rfl, ?_⟩) ?_ ?_
     rotate_left
     ·intro w';go_simp;with_reducible rfl
     rotate_left
     ·simp only [Act.put, sA, i64_w, i32_w];rfl
     refine pure_ (i := 18) (N := some 26) (v := ?_) (a' := ?_) (tf 19 11) rfl rfl (any_of HT_.out (by kernel_rfl)) (fun _ _ _ h => h) (Or.inl ⟨by rfl, ?_⟩) ?_ ?_
     rotate_left
     ·intro w';go_simp;with_reducible rfl
     rotate_left
     ·simp only [Act.put, sA, i64_w, i32_w];rfl
     refine pure_ (i := 19) (N := some 27) (v := ?_) (a' := ?_) (tf 20 10) rfl rfl (any_of HT_.out (by kernel_rfl)) (fun _ _ _ h => h) (Or.inl ⟨by rfl, ?_⟩) ?_ ?_
     rotate_left
     ·intro w';go_simp;with_reducible rfl
     rotate_left
     ·simp only [Act.put, sA, i64_w, i32_w];rfl
     refine pure_ (i := 20) (N := some 28) (v := ?_) (a' := ?_) (tf 21 9) rfl rfl (any_of HT_.out (by kernel_rfl)) (fun _ _ _ h => h) (Or.inl ⟨by rfl, ?_⟩) ?_ ?_
     rotate_left
     ·intro w';go_simp;with_reducible rfl
     rotate_left
     ·simp only [Act.put, sA, i64_w, i32_w];rfl
     refine pure_ (i := 23) (N := some 31) (v := ?_) (a' := ?_) #[true, true, true, true, true, true, true, true, true, true, true, true, true, true, true, true, true, true, true, true, true, false, false, true, false, false, false, false, false, false] rfl rfl (any_of HT_.out (by kernel_rfl)) (fun _ _ _ h => h) (Or.inl ⟨by rfl, ?_⟩) ?_ ?_
     rotate_left
     ·intro w';go_simp;with_reducible rfl
     rotate_left
     ·simp only [Act.put, sA, i64_w, i32_w];rfl
     refine take_ (i := 21) (N := some 29) (v := ?_) (a' := ?_) #[true, true, true, true, true, true, true, true, true, true, true, true, true, true, true, true, true, true, true, true, true, true, false, true, false, false, false, false, false, false] rfl rfl (take_ofW HT_.out HW_.out (by kernel_rfl)) (fun _ _ _ h => h) (Or.inl ⟨by rfl, ?_⟩) hHeld ?_ ?_
     rotate_left
     ·rintro w' ⟨s0, s1, s2, s3, s4, s5, s6⟩;go_simp;with_reducible rfl
     rotate_left
     ·simp only [Act.put, sA, i64_w, i32_w];rfl
     refine take_ (i := 22) (N := some 30) (v := ?_) (a' := ?_) (tf 24 6) rfl rfl (take_ofW HT_.out HW_.out (by kernel_rfl)) (fun _ _ _ h => h) (Or.inl ⟨by rfl, ?_⟩) hHeld ?_ ?_
     rotate_left
     ·rintro w' ⟨s0, s1, s2, s3, s4, s5, s6⟩;go_simp;with_reducible rfl
     rotate_left
     ·simp only [Act.put, sA, i64_w, i32_w];rfl
     refine take_ (i := 24) (N := some 32) (v := ?_) (a' := ?_) (tf 25 5) rfl rfl (take_ofW HT_.out HW_.out (by kernel_rfl)) (fun _ _ _ h => h) (Or.inl ⟨by rfl, ?_⟩) hHeld ?_ ?_
     rotate_left
     ·rintro w' ⟨s0, s1, s2, s3, s4, s5, s6⟩;go_simp;with_reducible rfl
     rotate_left
     ·simp only [Act.put, sA, i64_w, i32_w];rfl
     refine one_ (i := 25) (N := some 33) (tf 26 4) rfl rfl (one_of HT_.out (by kernel_rfl)) (by decide) (fun K hK => ?_)
     refine goes_ Tryd.func37 (by kernel_rfl) rfl #[.agg #[.slice A0_0 l0_0.length c0_0, .slice A0_1 l0_1.length c0_1, .slice A0_2 l0_2.length c0_2, .slice A0_3 l0_3.length c0_3, .int .i64 a0_4], .int .i64 a1_0] (by rfl) rfl rfl (by (try simp only [List.map_toArray, List.map_cons, List.map_nil]); first | done | rfl | (simp only [List.length_drop, List.length_take]; rfl)) ?_
     with_reducible refine (syntagmref14_Right.calls _ _ l0_0 _ _ l0_1 _ _ l0_2 (fun k_ => k_ < w.heap.size) _ _ l0_3 a0_4 a1_0 t221 _ ?side1 ?side2 ?side3 ?side4 ?side5 ?side6 ?side7 A8.out).mono ?_
     (case side1 => repeat (first | exact (jB HR0_0.out HB.out) | (with_reducible refine Kd.C_alloc ?_ _) | (with_reducible refine Kd.C_drewN ?_ _) | (with_reducible refine Kd.C_drew ?_)))
     (case side2 => exact HC0_0.out)
     (case side3 => repeat (first | exact (jB HR0_1.out HB.out) | (with_reducible refine Kd.C_alloc ?_ _) | (with_reducible refine Kd.C_drewN ?_ _) | (with_reducible refine Kd.C_drew ?_)))
     (case side4 => exact HC0_1.out)
     (case side5 => repeat (first | exact (jB HR0_2.out HB.out) | (with_reducible refine Kd.C_alloc ?_ _) | (with_reducible refine Kd.C_drewN ?_ _) | (with_reducible refine Kd.C_drew ?_)))
     (case side6 => exact HC0_2.out)
     (case side7 => exact Kd.V_mk HC0_3.out (Kd.F_below (Kd.C_F k64_heap HR0_3.out) (by repeat (first | (with_reducible first | exact HB.out | apply jA | apply jN | apply jD | refine jS ?_ GE218.out | refine jS ?_ GE219.out) | exact HB.out))))
     rintro e w15 ⟨v222, rfl, ho0, hb⟩
     refine ⟨_, rfl, ?_⟩
     have n0_ := jM (Kd.V_lower (Kd.V_mono (ok' := fun k_ => k_ ≠ gb218 ∧ k_ ≠ gb219) ho0 (fun k_ hk_ => ⟨Or.elim hk_ (fun hs_ => fun e_ => Nat.not_le.2 hs_ (by rw [e_]; exact GW218.out)) (fun hn_ => (Kd.freshB (g := gb218) (o := .cells #[.slice A0_0 l0_0.length c0_0, .slice A0_1 l0_1.length c0_1, .slice A0_2 l0_2.length c0_2, .slice A0_3 l0_3.length c0_3, .int .i64 a0_4] 27 (0, 0)) (by (with_reducible repeat (first | refine jY ?_ _ | refine jZ ?_ | refine jX ?_ _)); exact BK218.out) k_ hn_)), Or.elim hk_ (fun hs_ => fun e_ => Nat.not_le.2 hs_ (by rw [e_]; exact GW219.out)) (fun hn_ => (Kd.freshB (g := gb219) (o := .cells #[.int .i64 a1_0, .int .i64 a1_1] 39 (0, 0)) (by (with_reducible repeat (first | refine jY ?_ _ | refine jZ ?_ | refine jX ?_ _)); exact BK219.out) k_ hn_))⟩)) (below_size (by repeat (first | (with_reducible first | exact HB.out | apply jA | apply jN | apply jD | refine jS ?_ GE218.out | refine jS ?_ GE219.out) | exact HB.out))))
     have n1_ := jM (jW (g := gb218) (o := .cells #[.slice A0_0 l0_0.length c0_0, .slice A0_1 l0_1.length c0_1, .slice A0_2 l0_2.length c0_2, .slice A0_3 l0_3.length c0_3, .int .i64 a0_4] 27 (0, 0)) (by (with_reducible repeat (first | refine jY ?_ _ | refine jZ ?_ | refine jX ?_ _)); exact BK218.out) hb)
     have n2_ := jM (jW (g := gb219) (o := .cells #[.int .i64 a1_0, .int .i64 a1_1] 39 (0, 0)) (by (with_reducible repeat (first | refine jY ?_ _ | refine jZ ?_ | refine jX ?_ _)); exact BK219.out) hb)
     have n3_ := jM (jT (by repeat (first | (with_reducible first | exact HB.out | apply jA | apply jN | apply jD | refine jS ?_ GE218.out | refine jS ?_ GE219.out) | exact HB.out)) hb)
     clear BK218
     clear BK219
     clear HB
     have HO223 := n0_
     have BK218 := n1_
     have BK219 := n2_
     have HB := n3_
     clear n0_ n1_ n2_ n3_
     (try clear hb)
     (try clear hb2)
     (try clear hk)
     (try clear hi)
     (try clear ho0)
     obtain ⟨Ao16, co16, eo16⟩ := Kd.V_slice HO223.out
     (first | subst eo16 | (injection eo16 with f1_ f2_ f3_; have f4_ := f1_.symm; have f5_ := f3_.symm; clear f1_ f2_ f3_; subst f4_; subst f5_))
     refine hK.out _ _ ⟨(jC BK219.out 0).trans rfl, (jC BK219.out 1).trans rfl, (jC BK218.out 0).trans rfl, (jC BK218.out 1).trans rfl, (jC BK218.out 2).trans rfl, (jC BK218.out 3).trans rfl, (jC BK218.out 4).trans rfl⟩ (fun hHeld => ?_)
     clear hK K
     refine norm_ (a' := ?_) ?_ ?_
     rotate_left
     ·show Act.put _ (some 33) _ = _
      simp only [Act.put, sA, i64_w, i32_w]
      rfl
     refine pure_ (i := 26) (N := some 34) (v := ?_) (a' := ?_) (tf 27 3) rfl rfl (any_of HT_.out (by kernel_rfl)) (fun _ _ _ h => h) (Or.inl ⟨by rfl, ?_⟩) ?_ ?_
     rotate_left
     ·intro w';go_simp;with_reducible rfl
     rotate_left
     ·simp only [Act.put, sA, i64_w, i32_w];rfl
     refine pure_ (i := 27) (N := some 35) (v := ?_) (a' := ?_) (tf 28 2) rfl rfl (any_of HT_.out (by kernel_rfl)) (fun _ _ _ h => h) (Or.inl ⟨by rfl, ?_⟩) ?_ ?_
     rotate_left
     ·intro w';go_simp;with_reducible rfl
     rotate_left
     ·simp only [Act.put, sA, i64_w, i32_w];rfl
     refine pure_ (i := 28) (N := some 36) (v := ?_) (a' := ?_) (tf 29 1) rfl rfl (any_of HT_.out (by kernel_rfl)) (fun _ _ _ h => h) (Or.inl ⟨by rfl, ?_⟩) ?_ ?_
     rotate_left
     ·intro w';go_simp;with_reducible rfl
     rotate_left
     ·simp only [Act.put, sA, i64_w, i32_w];rfl
     refine pure_ (i := 29) (N := some 4) (v := ?_) (a' := ?_) (tf 30 0) rfl rfl (any_of HT_.out (by kernel_rfl)) (fun _ _ _ h => h) (Or.inl ⟨by rfl, ?_⟩) ?_ ?_
     rotate_left
     ·intro w';go_simp;with_reducible rfl
     rotate_left
     ·simp only [Act.put, sA, i64_w, i32_w];rfl
     refine done_ (done_of HT_.out (by kernel_rfl)) ?_
     try go_wp2
     go_ret
     exact ⟨by first | rfl | (simp [errW_none, errW_some] <;> rfl) | (simp [*, errW_none, errW_some] <;> rfl), by repeat (first | (with_reducible first | exact HB.out | apply jA | apply jN | apply jD | refine jS ?_ GE218.out | refine jS ?_ GE219.out) | exact HB.out)⟩
    ·rw [if_neg c7] at H
     have c7b0 : decide (0 ≤ a1_1) = false := decide_eq_false c7
     clear c7
     obtain rfl := Option.some.inj H
     go_enter Tryd.func36, Tryd.ntmps36
     try go_wp2_with (first | ((with_reducible refine gate_dst (N := 2) rfl ?_); (try (refine gate_guard (by rfl) ?_; dsimp only)); refine box_event ?hg (N := 2) ?hd (cs := #[.slice A0_0 l0_0.length c0_0, .slice A0_1 l0_1.length c0_1, .slice A0_2 l0_2.length c0_2, .slice A0_3 l0_3.length c0_3, .int .i64 a0_4]) (t := 27) ?hr ?_; (case hd => rfl); (case hg => rfl); (case hr => first | (go_simp; done) | (go_simp; rfl)); intro gb218 hg w17 hbox hb; have n0_ := jM (jT (by repeat (first | (with_reducible first | exact HB.out | apply jA | apply jN | apply jD) | exact HB.out)) hb); have n1_ := jM (hbox); have n2_ := jM ((by rw [hg]; exact (below_size (by repeat (first | (with_reducible first | exact HB.out | apply jA | apply jN | apply jD) | exact HB.out))) : w.heap.size ≤ gb218)); have n3_ := jM ((by rw [hg]; exact (below_size (by repeat (first | (with_reducible first | exact HB.out | apply jA | apply jN | apply jD) | exact HB.out))) : w.heap.size ≤ gb218)); clear HB; have HB := n0_; have BK218 := n1_; have GW218 := n2_; have GE218 := n3_; clear n0_ n1_ n2_ n3_; clear hb hbox hg) | ((with_reducible refine gate_dst (N := 3) rfl ?_); (try (refine gate_guard (by rfl) ?_; dsimp only)); refine box_event ?hg (N := 3) ?hd (cs := #[.int .i64 a1_0, .int .i64 a1_1]) (t := 39) ?hr ?_; (case hd => rfl); (case hg => rfl); (case hr => first | (go_simp; done) | (go_simp; rfl)); intro gb219 hg w18 hbox hb; have n0_ := jM (jW (g := gb218) (o := .cells #[.slice A0_0 l0_0.length c0_0, .slice A0_1 l0_1.length c0_1, .slice A0_2 l0_2.length c0_2, .slice A0_3 l0_3.length c0_3, .int .i64 a0_4] 27 (0, 0)) (by (with_reducible repeat (first | refine jY ?_ _ | refine jZ ?_ | refine jX ?_ _)); exact BK218.out) hb); have n1_ := jM (jT (by repeat (first | (with_reducible first | exact HB.out | apply jA | apply jN | apply jD | refine jS ?_ GE218.out) | exact HB.out)) hb); have n2_ := jM (hbox); have n3_ := jM ((by rw [hg]; exact (below_size (by repeat (first | (with_reducible first | exact HB.out | apply jA | apply jN | apply jD | refine jS ?_ GE218.out) | exact HB.out))) : w.heap.size ≤ gb219)); have n4_ := jM ((by rw [hg]; exact (below_size (by repeat (first | (with_reducible first | exact HB.out | apply jA | apply jN | apply jD | refine jS ?_ GE218.out) | exact HB.out))) : w.heap.size ≤ gb219)); have n5_ := jM ((by rw [hg]; exact Nat.ne_of_lt (blk_lt (g := gb218) (o := .cells #[.slice A0_0 l0_0.length c0_0, .slice A0_1 l0_1.length c0_1, .slice A0_2 l0_2.length c0_2, .slice A0_3 l0_3.length c0_3, .int .i64 a0_4] 27 (0, 0)) (by (with_reducible repeat (first | refine jY ?_ _ | refine jZ ?_ | refine jX ?_ _)); exact BK218.out)) : gb218 ≠ gb219)); have n6_ := jM ((by rw [hg]; exact Nat.ne_of_gt (blk_lt (g := gb218) (o := .cells #[.slice A0_0 l0_0.length c0_0, .slice A0_1 l0_1.length c0_1, .slice A0_2 l0_2.length c0_2, .slice A0_3 l0_3.length c0_3, .int .i64 a0_4] 27 (0, 0)) (by (with_reducible repeat (first | refine jY ?_ _ | refine jZ ?_ | refine jX ?_ _)); exact BK218.out)) : gb219 ≠ gb218)); clear BK218; clear HB; have BK218 := n0_; have HB := n1_; have BK219 := n2_; have GW219 := n3_; have GE219 := n4_; have NB218_219 := n5_; have NB219_218 := n6_; clear n0_ n1_ n2_ n3_ n4_ n5_ n6_; clear hb hbox hg; have hnb19 := NB218_219.out; have hnc19 := NB219_218.out; have hcz20_0 : w18.cell? ⟨gb218, 0, none⟩ = some (.slice A0_0 l0_0.length c0_0) := (jC BK218.out 0).trans rfl; have hcz20_1 : w18.cell? ⟨gb218, 1, none⟩ = some (.slice A0_1 l0_1.length c0_1) := (jC BK218.out 1).trans rfl; have hcz20_2 : w18.cell? ⟨gb218, 2, none⟩ = some (.slice A0_2 l0_2.length c0_2) := (jC BK218.out 2).trans rfl; have hcz20_3 : w18.cell? ⟨gb218, 3, none⟩ = some (.slice A0_3 l0_3.length c0_3) := (jC BK218.out 3).trans rfl; have hcz20_4 : w18.cell? ⟨gb218, 4, none⟩ = some (.int .i64 a0_4) := (jC BK218.out 4).trans rfl; have hfz20_0 := jF BK218.out 0; have hfz20_1 := jF BK218.out 1; have hfz20_2 := jF BK218.out 2; have hfz20_3 := jF BK218.out 3; have hfz20_4 := jF BK218.out 4) | ((with_reducible refine gate_callee (f := 45) rfl ?_); refine goesL_ (some 7) rfl rfl Tryd.func45 (by kernel_rfl) rfl #[.agg #[.slice A0_0 l0_0.length c0_0, .slice A0_1 l0_1.length c0_1, .slice A0_2 l0_2.length c0_2, .slice A0_3 l0_3.length c0_3, .int .i64 a0_4]] rfl (by (try simp only [List.map_toArray, List.map_cons, List.map_nil]); first | done | rfl | (simp only [List.length_drop, List.length_take]; rfl)) ?_; (with_reducible refine (syntagmref12_Valid.calls _ _ l0_0 _ _ l0_1 _ _ l0_2 _ _ l0_3 a0_4 true _ ?side1 ?side2 ?side3 ?side4 ?side5 ?side6 ?side7 ?side8 A3.out).mono ?_); (case side1 => repeat (first | exact (jB HR0_0.out HB.out) | (with_reducible refine Kd.C_alloc ?_ _) | (with_reducible refine Kd.C_drewN ?_ _) | (with_reducible refine Kd.C_drew ?_))); (case side2 => exact HC0_0.out); (case side3 => repeat (first | exact (jB HR0_1.out HB.out) | (with_reducible refine Kd.C_alloc ?_ _) | (with_reducible refine Kd.C_drewN ?_ _) | (with_reducible refine Kd.C_drew ?_))); (case side4 => exact HC0_1.out); (case side5 => repeat (first | exact (jB HR0_2.out HB.out) | (with_reducible refine Kd.C_alloc ?_ _) | (with_reducible refine Kd.C_drewN ?_ _) | (with_reducible refine Kd.C_drew ?_))); (case side6 => exact HC0_2.out); (case side7 => repeat (first | exact (jB HR0_3.out HB.out) | (with_reducible refine Kd.C_alloc ?_ _) | (with_reducible refine Kd.C_drewN ?_ _) | (with_reducible refine Kd.C_drew ?_))); (case side8 => exact HC0_3.out); rintro e w21 ⟨rfl, hb⟩; refine ⟨_, rfl, ?_⟩; have n0_ := jM (jW (g := gb218) (o := .cells #[.slice A0_0 l0_0.length c0_0, .slice A0_1 l0_1.length c0_1, .slice A0_2 l0_2.length c0_2, .slice A0_3 l0_3.length c0_3, .int .i64 a0_4] 27 (0, 0)) (by (with_reducible repeat (first | refine jY ?_ _ | refine jZ ?_ | refine jX ?_ _)); exact BK218.out) hb); have n1_ := jM (jW (g := gb219) (o := .cells #[.int .i64 a1_0, .int .i64 a1_1] 39 (0, 0)) (by (with_reducible repeat (first | refine jY ?_ _ | refine jZ ?_ | refine jX ?_ _)); exact BK219.out) hb); have n2_ := jM (jT (by repeat (first | (with_reducible first | exact HB.out | apply jA | apply jN | apply jD | refine jS ?_ GE218.out | refine jS ?_ GE219.out) | exact HB.out)) hb); clear BK218; clear BK219; clear HB; have BK218 := n0_; have BK219 := n1_; have HB := n2_; clear n0_ n1_ n2_; (try clear hb); (try clear hb2); (try clear hk); (try clear hi)))
     have n0_ := jM (jZ BK218.out)
     have n1_ := jM (jZ BK219.out)
     have n2_ := jM (jD HB.out)
     clear BK218
     clear BK219
     clear HB
     have BK218 := n0_
     have BK219 := n1_
     have HB := n2_
     clear n0_ n1_ n2_
     refine start_ (n := 30) (S := fun w' => w'.cell? ⟨gb219, 0, none⟩ = some (.int .i64 a1_0) ∧ w'.cell? ⟨gb219, 1, none⟩ = some (.int .i64 a1_1) ∧ w'.cell? ⟨gb218, 0, none⟩ = some (.slice A0_0 l0_0.length c0_0) ∧ w'.cell? ⟨gb218, 1, none⟩ = some (.slice A0_1 l0_1.length c0_1) ∧ w'.cell? ⟨gb218, 2, none⟩ = some (.slice A0_2 l0_2.length c0_2) ∧ w'.cell? ⟨gb218, 3, none⟩ = some (.slice A0_3 l0_3.length c0_3) ∧ w'.cell? ⟨gb218, 4, none⟩ = some (.int .i64 a0_4)) (ds := []) (tf 0 30) (by kernel_rfl) rfl rfl ⟨(jC BK219.out 0).trans rfl, (jC BK219.out 1).trans rfl, (jC BK218.out 0).trans rfl, (jC BK218.out 1).trans rfl, (jC BK218.out 2).trans rfl, (jC BK218.out 3).trans rfl, (jC BK218.out 4).trans rfl⟩ (fun hHeld => ?_); refine with_tabW syntagmref14_Is.tab2 syntagmref14_Is.bits2 (fun HT_ HW_ => ?_)
     generalize w21.drew = w22 at BK218 BK219 HB hHeld ⊢
     refine pure_ (i := 0) (N := some 8) (v := ?_) (a' := ?_) (tf 1 29) rfl rfl (any_of HT_.out (by kernel_rfl)) (fun _ _ _ h => h) (Or.inl ⟨by rfl, ?_⟩) ?_ ?_
     rotate_left
     ·intro w';go_simp;with_reducible rfl
     rotate_left
     ·simp only [Act.put, sA, i64_w, i32_w];rfl
     refine pure_ (i := 1) (N := some 9) (v := ?_) (a' := ?_) (tf 2 28) rfl rfl (any_of HT_.out (by kernel_rfl)) (fun _ _ _ h => h) (Or.inl ⟨by rfl, ?_⟩) ?_ ?_
     rotate_left
     ·intro w';go_simp;with_reducible rfl
     rotate_left
     ·simp only [Act.put, sA, i64_w, i32_w];rfl
     refine pure_ (i := 2) (N := some 10) (v := ?_) (a' := ?_) (tf 3 27) rfl rfl (any_of HT_.out (by kernel_rfl)) (fun _ _ _ h => h) (Or.inl ⟨by rfl, ?_⟩) ?_ ?_
     rotate_left
     ·intro w';go_simp;with_reducible rfl
     rotate_left
     ·simp only [Act.put, sA, i64_w, i32_w];rfl
     refine take_ (i := 3) (N := some 11) (v := ?_) (a' := ?_) (tf 4 26) rfl rfl (take_ofW HT_.out HW_.out (by kernel_rfl)) (fun _ _ _ h => h) (Or.inl ⟨by rfl, ?_⟩) hHeld ?_ ?_
     rotate_left
     ·rintro w' ⟨s0, s1, s2, s3, s4, s5, s6⟩;go_simp;with_reducible rfl
     rotate_left
     ·simp only [Act.put, sA, i64_w, i32_w];rfl
     refine pure_ (i := 4) (N := some 12) (v := ?_) (a' := ?_) (tf 5 25) rfl rfl (any_of HT_.out (by kernel_rfl)) (fun _ _ _ h => h) (Or.inl ⟨by rfl, ?_⟩) ?_ ?_
     rotate_left
     ·intro w';go_simp;with_reducible rfl
     rotate_left
     ·simp only [Act.put, sA, i64_w, i32_w];rfl
     refine pure_ (i := 5) (N := some 13) (v := ?_) (a' := ?_) (tf 6 24) rfl rfl (any_of HT_.out (by kernel_rfl)) (fun _ _ _ h => h) (Or.inl ⟨by rfl, ?_⟩) ?_ ?_
     rotate_left
     ·intro w';go_simp;with_reducible rfl
     rotate_left
     ·simp only [Act.put, sA, i64_w, i32_w];rfl
     refine pure_ (i := 6) (N := some 14) (v := ?_) (a' := ?_) (tf 7 23) rfl rfl (any_of HT_.out (by kernel_rfl)) (fun _ _ _ h => h) (Or.inl ⟨by rfl, ?_⟩) ?_ ?_
     rotate_left
     ·intro w';go_simp;with_reducible rfl
     rotate_left
     ·simp only [Act.put, sA, i64_w, i32_w];rfl
     refine pure_ (i := 7) (N := some 15) (v := ?_) (a' := ?_) (tf 8 22) rfl rfl (any_of HT_.out (by kernel_rfl)) (fun _ _ _ h => h) (Or.inl ⟨by rfl, ?_⟩) ?_ ?_
     rotate_left
     ·intro w';go_simp;with_reducible rfl
     rotate_left
     ·simp only [Act.put, sA, i64_w, i32_w];rfl
     refine pure_ (i := 9) (N := some 17) (v := ?_) (a' := ?_) #[true, true, true, true, true, true, true, true, false, true, false, false, false, false, false, false, false, false, false, false, false, false, false, false, false, false, false, false, false, false] rfl rfl (any_of HT_.out (by kernel_rfl)) (fun _ _ _ h => h) (Or.inl ⟨by rfl, ?_⟩) ?_ ?_
     rotate_left
     ·intro w';go_simp;with_reducible rfl
     rotate_left
     ·simp only [Act.put, sA, i64_w, i32_w];rfl
     refine take_ (i := 8) (N := some 16) (v := ?_) (a' := ?_) (tf 10 20) rfl rfl (take_ofW HT_.out HW_.out (by kernel_rfl)) (fun _ _ _ h => h) (Or.inl ⟨by rfl, ?_⟩) hHeld ?_ ?_
     rotate_left
     ·rintro w' ⟨s0, s1, s2, s3, s4, s5, s6⟩;go_simp;with_reducible rfl
     rotate_left
     ·simp only [Act.put, sA, i64_w, i32_w];rfl
     refine take_ (i := 10) (N := some 18) (v := ?_) (a' := ?_) (tf 11 19) rfl rfl (take_ofW HT_.out HW_.out (by kernel_rfl)) (fun _ _ _ h => h) (Or.inl ⟨by rfl, ?_⟩) hHeld ?_ ?_
     rotate_left
     ·rintro w' ⟨s0, s1, s2, s3, s4, s5, s6⟩;go_simp;with_reducible rfl
     rotate_left
     ·simp only [Act.put, sA, i64_w, i32_w];rfl
     refine pure_ (i := 11) (N := some 19) (v := ?_) (a' := ?_) (tf 12 18) rfl rfl (any_of HT_.out (by kernel_rfl)) (fun _ _ _ h => h) (Or.inl ⟨by rfl, ?_⟩) ?_ ?_
     rotate_left
     ·intro w';go_simp;with_reducible rfl
     rotate_left
     ·simp only [Act.put, sA, i64_w, i32_w];rfl
     refine pure_ (i := 12) (N := some 20) (v := ?_) (a' := ?_) (tf 13 17) rfl rfl (any_of HT_.out (by kernel_rfl)) (fun _ _ _ h => h) (Or.inl ⟨by rfl, ?_⟩) ?_ ?_
     rotate_left
     ·intro w';go_simp;with_reducible rfl
     rotate_left
     ·simp only [Act.put, sA, i64_w, i32_w];rfl
     refine pure_ (i := 13) (N := some 21) (v := ?_) (a' := ?_) (tf 14 16) rfl rfl (any_of HT_.out (by kernel_rfl)) (fun _ _ _ h => h) (Or.inl ⟨by rfl, ?_⟩) ?_ ?_
     rotate_left
     ·intro w';go_simp;with_reducible rfl
     rotate_left
     ·simp only [Act.put, sA, i64_w, i32_w];rfl
     refine pure_ (i := 14) (N := some 22) (v := ?_) (a' := ?_) (tf 15 15) rfl rfl (any_of HT_.out (by kernel_rfl)) (fun _ _ _ h => h) (Or.inl ⟨by rfl, ?_⟩) ?_ ?_
     rotate_left
     ·intro w';go_simp;with_reducible rfl
     rotate_left
     ·simp only [Act.put, sA, i64_w, i32_w];rfl
     refine pure_ (i := 15) (N := some 23) (v := ?_) (a' := ?_) (tf 16 14) rfl rfl (any_of HT_.out (by kernel_rfl)) (fun _ _ _ h => h) (Or.inl ⟨by rfl, ?_⟩) ?_ ?_
     rotate_left
     ·intro w';go_simp;with_reducible rfl
     rotate_left
     ·simp only [Act.put, sA, i64_w, i32_w];rfl
     refine take_ (i := 16) (N := some 24) (v := ?_) (a' := ?_) (tf 17 13) rfl rfl (take_ofW HT_.out HW_.out (by kernel_rfl)) (fun _ _ _ h => h) (Or.inl ⟨by rfl, ?_⟩) hHeld ?_ ?_
     rotate_left
     ·rintro w' ⟨s0, s1, s2, s3, s4, s5, s6⟩;go_simp;with_reducible rfl
     rotate_left
     ·simp only [Act.put, sA, i64_w, i32_w];rfl
     refine pure_ (i := 17) (N := some 25) (v := ?_) (a' := ?_) (tf 18 12) rfl rfl (any_of HT_.out (by kernel_rfl)) (fun _ _ _ h => h) (Or.inl ⟨by rfl, ?_⟩) ?_ ?_
     rotate_left
     ·intro w';go_simp;with_reducible rfl
     rotate_left
     ·simp only [Act.put, sA, i64_w, i32_w];rfl
     refine pure_ (i := 18) (N := some 26) (v := ?_) (a' := ?_) (tf 19 11) rfl rfl (any_of HT_.out (by kernel_rfl)) (fun _ _ _ h => h) (Or.inl ⟨by rfl, ?_⟩) ?_ ?_
     rotate_left
     ·intro w';go_simp;with_reducible rfl
     rotate_left
     ·simp only [Act.put, sA, i64_w, i32_w];rfl
     refine pure_ (i := 19) (N := some 27) (v := ?_) (a' := ?_) (tf 20 10) rfl rfl (any_of HT_.out (by kernel_rfl)) (fun _ _ _ h => h) (Or.inl ⟨by rfl, ?_⟩) ?_ ?_
     rotate_left
     ·intro w';go_simp;with_reducible rfl
     rotate_left
     ·simp only [Act.put, sA, i64_w, i32_w];rfl
     refine pure_ (i := 20) (N := some 28) (v := undef) (a' := ?_) (tf 21 9) rfl rfl (any_of HT_.out (by kernel_rfl)) (fun _ _ _ h => h) (Or.inr ⟨by rfl, rfl⟩) ?_ ?_
     rotate_left
     ·simp only [Act.put, sA, i64_w, i32_w];rfl
     refine pure_ (i := 21) (N := some 29) (v := undef) (a' := ?_) (tf 22 8) rfl rfl (any_of HT_.out (by kernel_rfl)) (fun _ _ _ h => h) (Or.inr ⟨by rfl, rfl⟩) ?_ ?_
     rotate_left
     ·simp only [Act.put, sA, i64_w, i32_w];rfl
     refine pure_ (i := 22) (N := some 30) (v := undef) (a' := ?_) (tf 23 7) rfl rfl (any_of HT_.out (by kernel_rfl)) (fun _ _ _ h => h) (Or.inr ⟨by rfl, rfl⟩) ?_ ?_
     rotate_left
     ·simp only [Act.put, sA, i64_w, i32_w];rfl
     refine pure_ (i := 23) (N := some 31) (v := undef) (a' := ?_) (tf 24 6) rfl rfl (any_of HT_.out (by kernel_rfl)) (fun _ _ _ h => h) (Or.inr ⟨by rfl, rfl⟩) ?_ ?_
     rotate_left
     ·simp only [Act.put, sA, i64_w, i32_w];rfl
     refine pure_ (i := 24) (N := some 32) (v := undef) (a' := ?_) (tf 25 5) rfl rfl (any_of HT_.out (by kernel_rfl)) (fun _ _ _ h => h) (Or.inr ⟨by rfl, rfl⟩) ?_ ?_
     rotate_left
     ·simp only [Act.put, sA, i64_w, i32_w];rfl
     refine pure_ (i := 25) (N := some 33) (v := undef) (a' := ?_) (tf 26 4) rfl rfl (any_of HT_.out (by kernel_rfl)) (fun _ _ _ h => h) (Or.inr ⟨by rfl, rfl⟩) ?_ ?_
     rotate_left
     ·simp only [Act.put, sA, i64_w, i32_w];rfl
     refine pure_ (i := 26) (N := some 34) (v := undef) (a' := ?_) (tf 27 3) rfl rfl (any_of HT_.out (by kernel_rfl)) (fun _ _ _ h => h) (Or.inr ⟨by rfl, rfl⟩) ?_ ?_
     rotate_left
     ·simp only [Act.put, sA, i64_w, i32_w];rfl
     refine pure_ (i := 27) (N := some 35) (v := undef) (a' := ?_) (tf 28 2) rfl rfl (any_of HT_.out (by kernel_rfl)) (fun _ _ _ h => h) (Or.inr ⟨by rfl, rfl⟩) ?_ ?_
     rotate_left
     ·simp only [Act.put, sA, i64_w, i32_w];rfl
     refine pure_ (i := 28) (N := some 36) (v := ?_) (a' := ?_) (tf 29 1) rfl rfl (any_of HT_.out (by kernel_rfl)) (fun _ _ _ h => h) (Or.inl ⟨by rfl, ?_⟩) ?_ ?_
     rotate_left
     ·intro w';go_simp;with_reducible rfl
     rotate_left
     ·simp only [Act.put, sA, i64_w, i32_w];rfl
     refine pure_ (i := 29) (N := some 4) (v := ?_) (a' := ?_) (tf 30 0) rfl rfl (any_of HT_.out (by kernel_rfl)) (fun _ _ _ h => h) (Or.inl ⟨by rfl, ?_⟩) ?_ ?_
     rotate_left
     ·intro w';go_simp;with_reducible rfl
     rotate_left
     ·simp only [Act.put, sA, i64_w, i32_w];rfl
     refine done_ (done_of HT_.out (by kernel_rfl)) ?_
     try go_wp2
     go_ret
     exact ⟨by first | rfl | (simp [errW_none, errW_some] <;> rfl) | (simp [*, errW_none, errW_some] <;> rfl), by repeat (first | (with_reducible first | exact HB.out | apply jA | apply jN | apply jD | refine jS ?_ GE218.out | refine jS ?_ GE219.out) | exact HB.out)⟩
   ·rw [if_neg c6] at H
    have c6b0 : decide (a1_0 < (l0_3.length : Int)) = false := decide_eq_false c6
    clear c6
    obtain rfl := Option.some.inj H
    go_enter Tryd.func36, Tryd.ntmps36
    try go_wp2_with (first | ((with_reducible refine gate_dst (N := 2) rfl ?_); (try (refine gate_guard (by rfl) ?_; dsimp only)); refine box_event ?hg (N := 2) ?hd (cs := #[.slice A0_0 l0_0.length c0_0, .slice A0_1 l0_1.length c0_1, .slice A0_2 l0_2.length c0_2, .slice A0_3 l0_3.length c0_3, .int .i64 a0_4]) (t := 27) ?hr ?_; (case hd => rfl); (case hg => rfl); (case hr => first | (go_simp; done) | (go_simp; rfl)); intro gb218 hg w23 hbox hb; have n0_ := jM (jT (by repeat (first | (with_reducible first | exact HB.out | apply jA | apply jN | apply jD) | exact HB.out)) hb); have n1_ := jM (hbox); have n2_ := jM ((by rw [hg]; exact (below_size (by repeat (first | (with_reducible first | exact HB.out | apply jA | apply jN | apply jD) | exact HB.out))) : w.heap.size ≤ gb218)); have n3_ := jM ((by rw [hg]; exact (below_size (by repeat (first | (with_reducible first | exact HB.out | apply jA | apply jN | apply jD) | exact HB.out))) : w.heap.size ≤ gb218)); clear HB; have HB := n0_; have BK218 := n1_; have GW218 := n2_; have GE218 := n3_; clear n0_ n1_ n2_ n3_; clear hb hbox hg) | ((with_reducible refine gate_dst (N := 3) rfl ?_); (try (refine gate_guard (by rfl) ?_; dsimp only)); refine box_event ?hg (N := 3) ?hd (cs := #[.int .i64 a1_0, .int .i64 a1_1]) (t := 39) ?hr ?_; (case hd => rfl); (case hg => rfl); (case hr => first | (go_simp; done) | (go_simp; rfl)); intro gb219 hg w24 hbox hb; have n0_ := jM (jW (g := gb218) (o := .cells #[.slice A0_0 l0_0.length c0_0, .slice A0_1 l0_1.length c0_1, .slice A0_2 l0_2.length c0_2, .slice A0_3 l0_3.length c0_3, .int .i64 a0_4] 27 (0, 0)) (by (with_reducible repeat (first | refine jY ?_ _ | refine jZ ?_ | refine jX ?_ _)); exact BK218.out) hb); have n1_ := jM (jT (by repeat (first | (with_reducible first | exact HB.out | apply jA | apply jN | apply jD | refine jS ?_ GE218.out) | exact HB.out)) hb); have n2_ := jM (hbox); have n3_ := jM ((by rw [hg]; exact (below_size (by repeat (first | (with_reducible first | exact HB.out | apply jA | apply jN | apply jD | refine jS ?_ GE218.out) | exact HB.out))) : w.heap.size ≤ gb219)); have n4_ := jM ((by rw [hg]; exact (below_size (by repeat (first | (with_reducible first | exact HB.out | apply jA | apply jN | apply jD | refine jS ?_ GE218.out) | exact HB.out))) : w.heap.size ≤ gb219)); have n5_ := jM ((by rw [hg]; exact Nat.ne_of_lt (blk_lt (g := gb218) (o := .cells #[.slice A0_0 l0_0.length c0_0, .slice A0_1 l0_1.length c0_1, .slice A0_2 l0_2.length c0_2, .slice A0_3 l0_3.length c0_3, .int .i64 a0_4] 27 (0, 0)) (by (with_reducible repeat (first | refine jY ?_ _ | refine jZ ?_ | refine jX ?_ _)); exact BK218.out)) : gb218 ≠ gb219)); have n6_ := jM ((by rw [hg]; exact Nat.ne_of_gt (blk_lt (g := gb218) (o := .cells #[.slice A0_0 l0_0.length c0_0, .slice A0_1 l0_1.length c0_1, .slice A0_2 l0_2.length c0_2, .slice A0_3 l0_3.length c0_3, .int .i64 a0_4] 27 (0, 0)) (by (with_reducible repeat (first | refine jY ?_ _ | refine jZ ?_ | refine jX ?_ _)); exact BK218.out)) : gb219 ≠ gb218)); clear BK218; clear HB; have BK218 := n0_; have HB := n1_; have BK219 := n2_; have GW219 := n3_; have GE219 := n4_; have NB218_219 := n5_; have NB219_218 := n6_; clear n0_ n1_ n2_ n3_ n4_ n5_ n6_; clear hb hbox hg; have hnb25 := NB218_219.out; have hnc25 := NB219_218.out; have hcz26_0 : w24.cell? ⟨gb218, 0, none⟩ = some (.slice A0_0 l0_0.length c0_0) := (jC BK218.out 0).trans rfl; have hcz26_1 : w24.cell? ⟨gb218, 1, none⟩ = some (.slice A0_1 l0_1.length c0_1) := (jC BK218.out 1).trans rfl; have hcz26_2 : w24.cell? ⟨gb218, 2, none⟩ = some (.slice A0_2 l0_2.length c0_2) := (jC BK218.out 2).trans rfl; have hcz26_3 : w24.cell? ⟨gb218, 3, none⟩ = some (.slice A0_3 l0_3.length c0_3) := (jC BK218.out 3).trans rfl; have hcz26_4 : w24.cell? ⟨gb218, 4, none⟩ = some (.int .i64 a0_4) := (jC BK218.out 4).trans rfl; have hfz26_0 := jF BK218.out 0; have hfz26_1 := jF BK218.out 1; have hfz26_2 := jF BK218.out 2; have hfz26_3 := jF BK218.out 3; have hfz26_4 := jF BK218.out 4) | ((with_reducible refine gate_callee (f := 45) rfl ?_); refine goesL_ (some 7) rfl rfl Tryd.func45 (by kernel_rfl) rfl #[.agg #[.slice A0_0 l0_0.length c0_0, .slice A0_1 l0_1.length c0_1, .slice A0_2 l0_2.length c0_2, .slice A0_3 l0_3.length c0_3, .int .i64 a0_4]] rfl (by (try simp only [List.map_toArray, List.map_cons, List.map_nil]); first | done | rfl | (simp only [List.length_drop, List.length_take]; rfl)) ?_; (with_reducible refine (syntagmref12_Valid.calls _ _ l0_0 _ _ l0_1 _ _ l0_2 _ _ l0_3 a0_4 true _ ?side1 ?side2 ?side3 ?side4 ?side5 ?side6 ?side7 ?side8 A3.out).mono ?_); (case side1 => repeat (first | exact (jB HR0_0.out HB.out) | (with_reducible refine Kd.C_alloc ?_ _) | (with_reducible refine Kd.C_drewN ?_ _) | (with_reducible refine Kd.C_drew ?_))); (case side2 => exact HC0_0.out); (case side3 => repeat (first | exact (jB HR0_1.out HB.out) | (with_reducible refine Kd.C_alloc ?_ _) | (with_reducible refine Kd.C_drewN ?_ _) | (with_reducible refine Kd.C_drew ?_))); (case side4 => exact HC0_1.out); (case side5 => repeat (first | exact (jB HR0_2.out HB.out) | (with_reducible refine Kd.C_alloc ?_ _) | (with_reducible refine Kd.C_drewN ?_ _) | (with_reducible refine Kd.C_drew ?_))); (case side6 => exact HC0_2.out); (case side7 => repeat (first | exact (jB HR0_3.out HB.out) | (with_reducible refine Kd.C_alloc ?_ _) | (with_reducible refine Kd.C_drewN ?_ _) | (with_reducible refine Kd.C_drew ?_))); (case side8 => exact HC0_3.out); rintro e w27 ⟨rfl, hb⟩; refine ⟨_, rfl, ?_⟩; have n0_ := jM (jW (g := gb218) (o := .cells #[.slice A0_0 l0_0.length c0_0, .slice A0_1 l0_1.length c0_1, .slice A0_2 l0_2.length c0_2, .slice A0_3 l0_3.length c0_3, .int .i64 a0_4] 27 (0, 0)) (by (with_reducible repeat (first | refine jY ?_ _ | refine jZ ?_ | refine jX ?_ _)); exact BK218.out) hb); have n1_ := jM (jW (g := gb219) (o := .cells #[.int .i64 a1_0, .int .i64 a1_1] 39 (0, 0)) (by (with_reducible repeat (first | refine jY ?_ _ | refine jZ ?_ | refine jX ?_ _)); exact BK219.out) hb); have n2_ := jM (jT (by repeat (first | (with_reducible first | exact HB.out | apply jA | apply jN | apply jD | refine jS ?_ GE218.out | refine jS ?_ GE219.out) | exact HB.out)) hb); clear BK218; clear BK219; clear HB; have BK218 := n0_; have BK219 := n1_; have HB := n2_; clear n0_ n1_ n2_; (try clear hb); (try clear hb2); (try clear hk); (try clear hi)))
    have n0_ := jM (jZ BK218.out)
    have n1_ := jM (jZ BK219.out)
    have n2_ := jM (jD HB.out)
    clear BK218
    clear BK219
    clear HB
    have BK218 := n0_
    have BK219 := n1_
    have HB := n2_
    clear n0_ n1_ n2_
    refine start_ (n := 30) (S := fun w' => w'.cell? ⟨gb219, 0, none⟩ = some (.int .i64 a1_0) ∧ w'.cell? ⟨gb219, 1, none⟩ = some (.int .i64 a1_1) ∧ w'.cell? ⟨gb218, 0, none⟩ = some (.slice A0_0 l0_0.length c0_0) ∧ w'.cell? ⟨gb218, 1, none⟩ = some (.slice A0_1 l0_1.length c0_1) ∧ w'.cell? ⟨gb218, 2, none⟩ = some (.slice A0_2 l0_2.length c0_2) ∧ w'.cell? ⟨gb218, 3, none⟩ = some (.slice A0_3 l0_3.length c0_3) ∧ w'.cell? ⟨gb218, 4, none⟩ = some (.int .i64 a0_4)) (ds := []) (tf 0 30) (by kernel_rfl) rfl rfl ⟨(jC BK219.out 0).trans rfl, (jC BK219.out 1).trans rfl, (jC BK218.out 0).trans rfl, (jC BK218.out 1).trans rfl, (jC BK218.out 2).trans rfl, (jC BK218.out 3).trans rfl, (jC BK218.out 4).trans rfl⟩ (fun hHeld => ?_); refine with_tabW syntagmref14_Is.tab2 syntagmref14_Is.bits2 (fun HT_ HW_ => ?_)
    generalize w27.drew = w28 at BK218 BK219 HB hHeld ⊢
    refine pure_ (i := 0) (N := some 8) (v := ?_) (a' := ?_) (tf 1 29) rfl rfl (any_of HT_.out (by kernel_rfl)) (fun _ _ _ h => h) (Or.inl ⟨by rfl, ?_⟩) ?_ ?_
    rotate_left
    ·intro w';go_simp;with_reducible rfl
    rotate_left
    ·simp only [Act.put, sA, i64_w, i32_w];rfl
    refine pure_ (i := 1) (N := some 9) (v := ?_) (a' := ?_) (tf 2 28) rfl rfl (any_of HT_.out (by kernel_rfl)) (fun _ _ _ h => h) (Or.inl ⟨by rfl, ?_⟩) ?_ ?_
    rotate_left
    ·intro w';go_simp;with_reducible rfl
    rotate_left
    ·simp only [Act.put, sA, i64_w, i32_w];rfl
    refine pure_ (i := 2) (N := some 10) (v := ?_) (a' := ?_) (tf 3 27) rfl rfl (any_of HT_.out (by kernel_rfl)) (fun _ _ _ h => h) (Or.inl ⟨by rfl, ?_⟩) ?_ ?_
    rotate_left
    ·intro w';go_simp;with_reducible rfl
    rotate_left
    ·simp only [Act.put, sA, i64_w, i32_w];rfl
    refine take_ (i := 3) (N := some 11) (v := ?_) (a' := ?_) (tf 4 26) rfl rfl (take_ofW HT_.out HW_.out (by kernel_rfl)) (fun _ _ _ h => h) (Or.inl ⟨by rfl, ?_⟩) hHeld ?_ ?_
    rotate_left
    ·rintro w' ⟨s0, s1, s2, s3, s4, s5, s6⟩;go_simp;with_reducible rfl
    rotate_left
    ·simp only [Act.put, sA, i64_w, i32_w];rfl
    refine pure_ (i := 4) (N := some 12) (v := ?_) (a' := ?_) (tf 5 25) rfl rfl (any_of HT_.out (by kernel_rfl)) (fun _ _ _ h => h) (Or.inl ⟨by rfl, ?_⟩) ?_ ?_
    rotate_left
    ·intro w';go_simp;with_reducible rfl
    rotate_left
    ·simp only [Act.put, sA, i64_w, i32_w];rfl
    refine pure_ (i := 5) (N := some 13) (v := ?_) (a' := ?_) (tf 6 24) rfl rfl (any_of HT_.out (by kernel_rfl)) (fun _ _ _ h => h) (Or.inl ⟨by rfl, ?_⟩) ?_ ?_
    rotate_left
    ·intro w';go_simp;with_reducible rfl
    rotate_left
    ·simp only [Act.put, sA, i64_w, i32_w];rfl
    refine pure_ (i := 6) (N := some 14) (v := ?_) (a' := ?_) (tf 7 23) rfl rfl (any_of HT_.out (by kernel_rfl)) (fun _ _ _ h => h) (Or.inl ⟨by rfl, ?_⟩) ?_ ?_
    rotate_left
    ·intro w';go_simp;with_reducible rfl
    rotate_left
    ·simp only [Act.put, sA, i64_w, i32_w];rfl
    refine pure_ (i := 7) (N := some 15) (v := ?_) (a' := ?_) (tf 8 22) rfl rfl (any_of HT_.out (by kernel_rfl)) (fun _ _ _ h => h) (Or.inl ⟨by rfl, ?_⟩) ?_ ?_
    rotate_left
    ·intro w';go_simp;with_reducible rfl
    rotate_left
    ·simp only [Act.put, sA, i64_w, i32_w];rfl
    refine pure_ (i := 9) (N := some 17) (v := ?_) (a' := ?_) #[true, true, true, true, true, true, true, true, false, true, false, false, false, false, false, false, false, false, false, false, false, false, false, false, false, false, false, false, false, false] rfl rfl (any_of HT_.out (by kernel_rfl)) (fun _ _ _ h => h) (Or.inl ⟨by rfl, ?_⟩) ?_ ?_
    rotate_left
    ·intro w';go_simp;with_reducible rfl
    rotate_left
    ·simp only [Act.put, sA, i64_w, i32_w];rfl
    refine take_ (i := 8) (N := some 16) (v := ?_) (a' := ?_) (tf 10 20) rfl rfl (take_ofW HT_.out HW_.out (by kernel_rfl)) (fun _ _ _ h => h) (Or.inl ⟨by rfl, ?_⟩) hHeld ?_ ?_
    rotate_left
    ·rintro w' ⟨s0, s1, s2, s3, s4, s5, s6⟩;go_simp;with_reducible rfl
    rotate_left
    ·simp only [Act.put, sA, i64_w, i32_w];rfl
    refine take_ (i := 10) (N := some 18) (v := ?_) (a' := ?_) (tf 11 19) rfl rfl (take_ofW HT_.out HW_.out (by kernel_rfl)) (fun _ _ _ h => h) (Or.inl ⟨by rfl, ?_⟩) hHeld ?_ ?_
    rotate_left
    ·rintro w' ⟨s0, s1, s2, s3, s4, s5, s6⟩;go_simp;with_reducible rfl
    rotate_left
    ·simp only [Act.put, sA, i64_w, i32_w];rfl
    refine pure_ (i := 11) (N := some 19) (v := ?_) (a' := ?_) (tf 12 18) rfl rfl (any_of HT_.out (by kernel_rfl)) (fun _ _ _ h => h) (Or.inl ⟨by rfl, ?_⟩) ?_ ?_
    rotate_left
    ·intro w';go_simp;with_reducible rfl
    rotate_left
    ·simp only [Act.put, sA, i64_w, i32_w];rfl
    refine pure_ (i := 12) (N := some 20) (v := ?_) (a' := ?_) (tf 13 17) rfl rfl (any_of HT_.out (by kernel_rfl)) (fun _ _ _ h => h) (Or.inl ⟨by rfl, ?_⟩) ?_ ?_
    rotate_left
    ·intro w';go_simp;with_reducible rfl
    rotate_left
    ·simp only [Act.put, sA, i64_w, i32_w];rfl
    refine pure_ (i := 13) (N := some 21) (v := ?_) (a' := ?_) (tf 14 16) rfl rfl (any_of HT_.out (by kernel_rfl)) (fun _ _ _ h => h) (Or.inl ⟨by rfl, ?_⟩) ?_ ?_
    rotate_left
    ·intro w';go_simp;with_reducible rfl
    rotate_left
    ·simp only [Act.put, sA, i64_w, i32_w];rfl
    refine pure_ (i := 14) (N := some 22) (v := ?_) (a' := ?_) (tf 15 15) rfl rfl (any_of HT_.out (by kernel_rfl)) (fun _ _ _ h => h) (Or.inl ⟨by rfl, ?_⟩) ?_ ?_
    rotate_left
    ·intro w';go_simp;with_reducible rfl
    rotate_left
    ·simp only [Act.put, sA, i64_w, i32_w];rfl
    refine pure_ (i := 15) (N := some 23) (v := undef) (a' := ?_) (tf 16 14) rfl rfl (any_of HT_.out (by kernel_rfl)) (fun _ _ _ h => h) (Or.inr ⟨by rfl, rfl⟩) ?_ ?_
    rotate_left
    ·simp only [Act.put, sA, i64_w, i32_w];rfl
    refine pure_ (i := 16) (N := some 24) (v := undef) (a' := ?_) (tf 17 13) rfl rfl (any_of HT_.out (by kernel_rfl)) (fun _ _ _ h => h) (Or.inr ⟨by rfl, rfl⟩) ?_ ?_
    rotate_left
    ·simp only [Act.put, sA, i64_w, i32_w];rfl
    refine pure_ (i := 17) (N := some 25) (v := undef) (a' := ?_) (tf 18 12) rfl rfl (any_of HT_.out (by kernel_rfl)) (fun _ _ _ h => h) (Or.inr ⟨by rfl, rfl⟩) ?_ ?_
    rotate_left
    ·simp only [Act.put, sA, i64_w, i32_w];rfl
    refine pure_ (i := 18) (N := some 26) (v := ?_) (a' := ?_) (tf 19 11) rfl rfl (any_of HT_.out (by kernel_rfl)) (fun _ _ _ h => h) (Or.inl ⟨by rfl, ?_⟩) ?_ ?_
    rotate_left
    ·intro w';go_simp;with_reducible rfl
    rotate_left
    ·simp only [Act.put, sA, i64_w, i32_w];rfl
    refine pure_ (i := 19) (N := some 27) (v := ?_) (a' := ?_) (tf 20 10) rfl rfl (any_of HT_.out (by kernel_rfl)) (fun _ _ _ h => h) (Or.inl ⟨by rfl, ?_⟩) ?_ ?_
    rotate_left
    ·intro w';go_simp;with_reducible rfl
    rotate_left
    ·simp only [Act.put, sA, i64_w, i32_w];rfl
    refine pure_ (i := 20) (N := some 28) (v := undef) (a' := ?_) (tf 21 9) rfl rfl (any_of HT_.out (by kernel_rfl)) (fun _ _ _ h => h) (Or.inr ⟨by rfl, rfl⟩) ?_ ?_
    rotate_left
    ·simp only [Act.put, sA, i64_w, i32_w];rfl
    refine pure_ (i := 21) (N := some 29) (v := undef) (a' := ?_) (tf 22 8) rfl rfl (any_of HT_.out (by kernel_rfl)) (fun _ _ _ h => h) (Or.inr ⟨by rfl, rfl⟩) ?_ ?_
    rotate_left
    ·simp only [Act.put, sA, i64_w, i32_w];rfl
    refine pure_ (i := 22) (N := some 30) (v := undef) (a' := ?_) (tf 23 7) rfl rfl (any_of HT_.out (by kernel_rfl)) (fun _ _ _ h => h) (Or.inr ⟨by rfl, rfl⟩) ?_ ?_
    rotate_left
    ·simp only [Act.put, sA, i64_w, i32_w];rfl
    refine pure_ (i := 23) (N := some 31) (v := undef) (a' := ?_) (tf 24 6) rfl rfl (any_of HT_.out (by kernel_rfl)) (fun _ _ _ h => h) (Or.inr ⟨by rfl, rfl⟩) ?_ ?_
    rotate_left
    ·simp only [Act.put, sA, i64_w, i32_w];rfl
    refine pure_ (i := 24) (N := some 32) (v := undef) (a' := ?_) (tf 25 5) rfl rfl (any_of HT_.out (by kernel_rfl)) (fun _ _ _ h => h) (Or.inr ⟨by rfl, rfl⟩) ?_ ?_
    rotate_left
    ·simp only [Act.put, sA, i64_w, i32_w];rfl
    refine pure_ (i := 25) (N := some 33) (v := undef) (a' := ?_) (tf 26 4) rfl rfl (any_of HT_.out (by kernel_rfl)) (fun _ _ _ h => h) (Or.inr ⟨by rfl, rfl⟩) ?_ ?_
    rotate_left
    ·simp only [Act.put, sA, i64_w, i32_w];rfl
    refine pure_ (i := 26) (N := some 34) (v := undef) (a' := ?_) (tf 27 3) rfl rfl (any_of HT_.out (by kernel_rfl)) (fun _ _ _ h => h) (Or.inr ⟨by rfl, rfl⟩) ?_ ?_
    rotate_left
    ·simp only [Act.put, sA, i64_w, i32_w];rfl
    refine pure_ (i := 27) (N := some 35) (v := undef) (a' := ?_) (tf 28 2) rfl rfl (any_of HT_.out (by kernel_rfl)) (fun _ _ _ h => h) (Or.inr ⟨by rfl, rfl⟩) ?_ ?_
    rotate_left
    ·simp only [Act.put, sA, i64_w, i32_w];rfl
    refine pure_ (i := 28) (N := some 36) (v := ?_) (a' := ?_) (tf 29 1) rfl rfl (any_of HT_.out (by kernel_rfl)) (fun _ _ _ h => h) (Or.inl ⟨by rfl, ?_⟩) ?_ ?_
    rotate_left
    ·intro w';go_simp;with_reducible rfl
    rotate_left
    ·simp only [Act.put, sA, i64_w, i32_w];rfl
    refine pure_ (i := 29) (N := some 4) (v := ?_) (a' := ?_) (tf 30 0) rfl rfl (any_of HT_.out (by kernel_rfl)) (fun _ _ _ h => h) (Or.inl ⟨by rfl, ?_⟩) ?_ ?_
    rotate_left
    ·intro w';go_simp;with_reducible rfl
    rotate_left
    ·simp only [Act.put, sA, i64_w, i32_w];rfl
    refine done_ (done_of HT_.out (by kernel_rfl)) ?_
    try go_wp2
    go_ret
    exact ⟨by first | rfl | (simp [errW_none, errW_some] <;> rfl) | (simp [*, errW_none, errW_some] <;> rfl), by repeat (first | (with_reducible first | exact HB.out | apply jA | apply jN | apply jD | refine jS ?_ GE218.out | refine jS ?_ GE219.out) | exact HB.out)⟩
  ·rw [if_neg c5] at H
   have c5b0 : decide ((-1) ≤ a1_0) = false := decide_eq_false c5
   clear c5
   obtain rfl := Option.some.inj H
   go_enter Tryd.func36, Tryd.ntmps36
   try go_wp2_with (first | ((with_reducible refine gate_dst (N := 2) rfl ?_); (try (refine gate_guard (by rfl) ?_; dsimp only)); refine box_event ?hg (N := 2) ?hd (cs := #[.slice A0_0 l0_0.length c0_0, .slice A0_1 l0_1.length c0_1, .slice A0_2 l0_2.length c0_2, .slice A0_3 l0_3.length c0_3, .int .i64 a0_4]) (t := 27) ?hr ?_; (case hd => rfl); (case hg => rfl); (case hr => first | (go_simp; done) | (go_simp; rfl)); intro gb218 hg w29 hbox hb; have n0_ := jM (jT (by repeat (first | (with_reducible first | exact HB.out | apply jA | apply jN | apply jD) | exact HB.out)) hb); have n1_ := jM (hbox); have n2_ := jM ((by rw [hg]; exact (below_size (by repeat (first | (with_reducible first | exact HB.out | apply jA | apply jN | apply jD) | exact HB.out))) : w.heap.size ≤ gb218)); have n3_ := jM ((by rw [hg]; exact (below_size (by repeat (first | (with_reducible first | exact HB.out | apply jA | apply jN | apply jD) | exact HB.out))) : w.heap.size ≤ gb218)); clear HB; have HB := n0_; have BK218 := n1_; have GW218 := n2_; have GE218 := n3_; clear n0_ n1_ n2_ n3_; clear hb hbox hg) | ((with_reducible refine gate_dst (N := 3) rfl ?_); (try (refine gate_guard (by rfl) ?_; dsimp only)); refine box_event ?hg (N := 3) ?hd (cs := #[.int .i64 a1_0, .int .i64 a1_1]) (t := 39) ?hr ?_; (case hd => rfl); (case hg => rfl); (case hr => first | (go_simp; done) | (go_simp; rfl)); intro gb219 hg w30 hbox hb; have n0_ := jM (jW (g := gb218) (o := .cells #[.slice A0_0 l0_0.length c0_0, .slice A0_1 l0_1.length c0_1, .slice A0_2 l0_2.length c0_2, .slice A0_3 l0_3.length c0_3, .int .i64 a0_4] 27 (0, 0)) (by (with_reducible repeat (first | refine jY ?_ _ | refine jZ ?_ | refine jX ?_ _)); exact BK218.out) hb); have n1_ := jM (jT (by repeat (first | (with_reducible first | exact HB.out | apply jA | apply jN | apply jD | refine jS ?_ GE218.out) | exact HB.out)) hb); have n2_ := jM (hbox); have n3_ := jM ((by rw [hg]; exact (below_size (by repeat (first | (with_reducible first | exact HB.out | apply jA | apply jN | apply jD | refine jS ?_ GE218.out) | exact HB.out))) : w.heap.size ≤ gb219)); have n4_ := jM ((by rw [hg]; exact (below_size (by repeat (first | (with_reducible first | exact HB.out | apply jA | apply jN | apply jD | refine jS ?_ GE218.out) | exact HB.out))) : w.heap.size ≤ gb219)); have n5_ := jM ((by rw [hg]; exact Nat.ne_of_lt (blk_lt (g := gb218) (o := .cells #[.slice A0_0 l0_0.length c0_0, .slice A0_1 l0_1.length c0_1, .slice A0_2 l0_2.length c0_2, .slice A0_3 l0_3.length c0_3, .int .i64 a0_4] 27 (0, 0)) (by (with_reducible repeat (first | refine jY ?_ _ | refine jZ ?_ | refine jX ?_ _)); exact BK218.out)) : gb218 ≠ gb219)); have n6_ := jM ((by rw [hg]; exact Nat.ne_of_gt (blk_lt (g := gb218) (o := .cells #[.slice A0_0 l0_0.length c0_0, .slice A0_1 l0_1.length c0_1, .slice A0_2 l0_2.length c0_2, .slice A0_3 l0_3.length c0_3, .int .i64 a0_4] 27 (0, 0)) (by (with_reducible repeat (first | refine jY ?_ _ | refine jZ ?_ | refine jX ?_ _)); exact BK218.out)) : gb219 ≠ gb218)); clear BK218; clear HB; have BK218 := n0_; have HB := n1_; have BK219 := n2_; have GW219 := n3_; have GE219 := n4_; have NB218_219 := n5_; have NB219_218 := n6_; clear n0_ n1_ n2_ n3_ n4_ n5_ n6_; clear hb hbox hg; have hnb31 := NB218_219.out; have hnc31 := NB219_218.out; have hcz32_0 : w30.cell? ⟨gb218, 0, none⟩ = some (.slice A0_0 l0_0.length c0_0) := (jC BK218.out 0).trans rfl; have hcz32_1 : w30.cell? ⟨gb218, 1, none⟩ = some (.slice A0_1 l0_1.length c0_1) := (jC BK218.out 1).trans rfl; have hcz32_2 : w30.cell? ⟨gb218, 2, none⟩ = some (.slice A0_2 l0_2.length c0_2) := (jC BK218.out 2).trans rfl; have hcz32_3 : w30.cell? ⟨gb218, 3, none⟩ = some (.slice A0_3 l0_3.length c0_3) := (jC BK218.out 3).trans rfl; have hcz32_4 : w30.cell? ⟨gb218, 4, none⟩ = some (.int .i64 a0_4) := (jC BK218.out 4).trans rfl; have hfz32_0 := jF BK218.out 0; have hfz32_1 := jF BK218.out 1; have hfz32_2 := jF BK218.out 2; have hfz32_3 := jF BK218.out 3; have hfz32_4 := jF BK218.out 4) | ((with_reducible refine gate_callee (f := 45) rfl ?_); refine goesL_ (some 7) rfl rfl Tryd.func45 (by kernel_rfl) rfl #[.agg #[.slice A0_0 l0_0.length c0_0, .slice A0_1 l0_1.length c0_1, .slice A0_2 l0_2.length c0_2, .slice A0_3 l0_3.length c0_3, .int .i64 a0_4]] rfl (by (try simp only [List.map_toArray, List.map_cons, List.map_nil]); first | done | rfl | (simp only [List.length_drop, List.length_take]; rfl)) ?_; (with_reducible refine (syntagmref12_Valid.calls _ _ l0_0 _ _ l0_1 _ _ l0_2 _ _ l0_3 a0_4 true _ ?side1 ?side2 ?side3 ?side4 ?side5 ?side6 ?side7 ?side8 A3.out).mono ?_); (case side1 => repeat (first | exact (jB HR0_0.out HB.out) | (with_reducible refine Kd.C_alloc ?_ _) | (with_reducible refine Kd.C_drewN ?_ _) | (with_reducible refine Kd.C_drew ?_))); (case side2 => exact HC0_0.out); (case side3 => repeat (first | exact (jB HR0_1.out HB.out) | (with_reducible refine Kd.C_alloc ?_ _) | (with_reducible refine Kd.C_drewN ?_ _) | (with_reducible refine Kd.C_drew ?_))); (case side4 => exact HC0_1.out); (case side5 => repeat (first | exact (jB HR0_2.out HB.out) | (with_reducible refine Kd.C_alloc ?_ _) | (with_reducible refine Kd.C_drewN ?_ _) | (with_reducible refine Kd.C_drew ?_))); (case side6 => exact HC0_2.out); (case side7 => repeat (first | exact (jB HR0_3.out HB.out) | (with_reducible refine Kd.C_alloc ?_ _) | (with_reducible refine Kd.C_drewN ?_ _) | (with_reducible refine Kd.C_drew ?_))); (case side8 => exact HC0_3.out); rintro e w33 ⟨rfl, hb⟩; refine ⟨_, rfl, ?_⟩; have n0_ := jM (jW (g := gb218) (o := .cells #[.slice A0_0 l0_0.length c0_0, .slice A0_1 l0_1.length c0_1, .slice A0_2 l0_2.length c0_2, .slice A0_3 l0_3.length c0_3, .int .i64 a0_4] 27 (0, 0)) (by (with_reducible repeat (first | refine jY ?_ _ | refine jZ ?_ | refine jX ?_ _)); exact BK218.out) hb); have n1_ := jM (jW (g := gb219) (o := .cells #[.int .i64 a1_0, .int .i64 a1_1] 39 (0, 0)) (by (with_reducible repeat (first | refine jY ?_ _ | refine jZ ?_ | refine jX ?_ _)); exact BK219.out) hb); have n2_ := jM (jT (by repeat (first | (with_reducible first | exact HB.out | apply jA | apply jN | apply jD | refine jS ?_ GE218.out | refine jS ?_ GE219.out) | exact HB.out)) hb); clear BK218; clear BK219; clear HB; have BK218 := n0_; have BK219 := n1_; have HB := n2_; clear n0_ n1_ n2_; (try clear hb); (try clear hb2); (try clear hk); (try clear hi)))
   have n0_ := jM (jZ BK218.out)
   have n1_ := jM (jZ BK219.out)
   have n2_ := jM (jD HB.out)
   clear BK218
   clear BK219
   clear HB
   have BK218 := n0_
   have BK219 := n1_
   have HB := n2_
   clear n0_ n1_ n2_
   refine start_ (n := 30) (S := fun w' => w'.cell? ⟨gb219, 0, none⟩ = some (.int .i64 a1_0) ∧ w'.cell? ⟨gb219, 1, none⟩ = some (.int .i64 a1_1)) (ds := []) (tf 0 30) (by kernel_rfl) rfl rfl ⟨(jC BK219.out 0).trans rfl, (jC BK219.out 1).trans rfl⟩ (fun hHeld => ?_); refine with_tabW syntagmref14_Is.tab2 syntagmref14_Is.bits2 (fun HT_ HW_ => ?_)
   generalize w33.drew = w34 at BK218 BK219 HB hHeld ⊢
   refine pure_ (i := 0) (N := some 8) (v := ?_) (a' := ?_) (tf 1 29) rfl rfl (any_of HT_.out (by kernel_rfl)) (fun _ _ _ h => h) (Or.inl ⟨by rfl, ?_⟩) ?_ ?_
   rotate_left
   ·intro w';go_simp;with_reducible rfl
   rotate_left
   ·simp only [Act.put, sA, i64_w, i32_w];rfl
   refine pure_ (i := 1) (N := some 9) (v := ?_) (a' := ?_) (tf 2 28) rfl rfl (any_of HT_.out (by kernel_rfl)) (fun _ _ _ h => h) (Or.inl ⟨by rfl, ?_⟩) ?_ ?_
   rotate_left
   ·intro w';go_simp;with_reducible rfl
   rotate_left
   ·simp only [Act.put, sA, i64_w, i32_w];rfl
   refine pure_ (i := 2) (N := some 10) (v := ?_) (a' := ?_) (tf 3 27) rfl rfl (any_of HT_.out (by kernel_rfl)) (fun _ _ _ h => h) (Or.inl ⟨by rfl, ?_⟩) ?_ ?_
   rotate_left
   ·intro w';go_simp;with_reducible rfl
   rotate_left
   ·simp only [Act.put, sA, i64_w, i32_w];rfl
   refine take_ (i := 3) (N := some 11) (v := ?_) (a' := ?_) (tf 4 26) rfl rfl (take_ofW HT_.out HW_.out (by kernel_rfl)) (fun _ _ _ h => h) (Or.inl ⟨by rfl, ?_⟩) hHeld ?_ ?_
   rotate_left
   ·rintro w' ⟨s0, s1⟩;go_simp;with_reducible rfl
   rotate_left
   ·simp only [Act.put, sA, i64_w, i32_w];rfl
   refine pure_ (i := 4) (N := some 12) (v := ?_) (a' := ?_) (tf 5 25) rfl rfl (any_of HT_.out (by kernel_rfl)) (fun _ _ _ h => h) (Or.inl ⟨by rfl, ?_⟩) ?_ ?_
   rotate_left
   ·intro w';go_simp;with_reducible rfl
   rotate_left
   ·simp only [Act.put, sA, i64_w, i32_w];rfl
   refine pure_ (i := 5) (N := some 13) (v := ?_) (a' := ?_) (tf 6 24) rfl rfl (any_of HT_.out (by kernel_rfl)) (fun _ _ _ h => h) (Or.inl ⟨by rfl, ?_⟩) ?_ ?_
   rotate_left
   ·intro w';go_simp;with_reducible rfl
   rotate_left
   ·simp only [Act.put, sA, i64_w, i32_w];rfl
   refine pure_ (i := 6) (N := some 14) (v := ?_) (a' := ?_) (tf 7 23) rfl rfl (any_of HT_.out (by kernel_rfl)) (fun _ _ _ h => h) (Or.inl ⟨by rfl, ?_⟩) ?_ ?_
   rotate_left
   ·intro w';go_simp;with_reducible rfl
   rotate_left
   ·simp only [Act.put, sA, i64_w, i32_w];rfl
   refine pure_ (i := 7) (N := some 15) (v := undef) (a' := ?_) (tf 8 22) rfl rfl (any_of HT_.out (by kernel_rfl)) (fun _ _ _ h => h) (Or.inr ⟨by rfl, rfl⟩) ?_ ?_
   rotate_left
   ·simp only [Act.put, sA, i64_w, i32_w];rfl
   refine pure_ (i := 8) (N := some 16) (v := undef) (a' := ?_) (tf 9 21) rfl rfl (any_of HT_.out (by kernel_rfl)) (fun _ _ _ h => h) (Or.inr ⟨by rfl, rfl⟩) ?_ ?_
   rotate_left
   ·simp only [Act.put, sA, i64_w, i32_w];rfl
   refine pure_ (i := 9) (N := some 17) (v := undef) (a' := ?_) (tf 10 20) rfl rfl (any_of HT_.out (by kernel_rfl)) (fun _ _ _ h => h) (Or.inr ⟨by rfl, rfl⟩) ?_ ?_
   rotate_left
   ·simp only [Act.put, sA, i64_w, i32_w];rfl
   refine pure_ (i := 10) (N := some 18) (v := undef) (a' := ?_) (tf 11 19) rfl rfl (any_of HT_.out (by kernel_rfl)) (fun _ _ _ h => h) (Or.inr ⟨by rfl, rfl⟩) ?_ ?_
   rotate_left
   ·simp only [Act.put, sA, i64_w, i32_w];rfl
   refine pure_ (i := 11) (N := some 19) (v := undef) (a' := ?_) (tf 12 18) rfl rfl (any_of HT_.out (by kernel_rfl)) (fun _ _ _ h => h) (Or.inr ⟨by rfl, rfl⟩) ?_ ?_
   rotate_left
   ·simp only [Act.put, sA, i64_w, i32_w];rfl
   refine pure_ (i := 12) (N := some 20) (v := undef) (a' := ?_) (tf 13 17) rfl rfl (any_of HT_.out (by kernel_rfl)) (fun _ _ _ h => h) (Or.inr ⟨by rfl, rfl⟩) ?_ ?_
   rotate_left
   ·simp only [Act.put, sA, i64_w, i32_w];rfl
   refine pure_ (i := 13) (N := some 21) (v := ?_) (a' := ?_) (tf 14 16) rfl rfl (any_of HT_.out (by kernel_rfl)) (fun _ _ _ h => h) (Or.inl ⟨by rfl, ?_⟩) ?_ ?_
   rotate_left
   ·intro w';go_simp;with_reducible rfl
   rotate_left
   ·simp only [Act.put, sA, i64_w, i32_w];rfl
   refine pure_ (i := 14) (N := some 22) (v := ?_) (a' := ?_) (tf 15 15) rfl rfl (any_of HT_.out (by kernel_rfl)) (fun _ _ _ h => h) (Or.inl ⟨by rfl, ?_⟩) ?_ ?_
   rotate_left
   ·intro w';go_simp;with_reducible rfl
   rotate_left
   ·simp only [Act.put, sA, i64_w, i32_w];rfl
   refine pure_ (i := 15) (N := some 23) (v := undef) (a' := ?_) (tf 16 14) rfl rfl (any_of HT_.out (by kernel_rfl)) (fun _ _ _ h => h) (Or.inr ⟨by rfl, rfl⟩) ?_ ?_
   rotate_left
   ·simp only [Act.put, sA, i64_w, i32_w];rfl
   refine pure_ (i := 16) (N := some 24) (v := undef) (a' := ?_) (tf 17 13) rfl rfl (any_of HT_.out (by kernel_rfl)) (fun _ _ _ h => h) (Or.inr ⟨by rfl, rfl⟩) ?_ ?_
   rotate_left
   ·simp only [Act.put, sA, i64_w, i32_w];rfl
   refine pure_ (i := 17) (N := some 25) (v := undef) (a' := ?_) (tf 18 12) rfl rfl (any_of HT_.out (by kernel_rfl)) (fun _ _ _ h => h) (Or.inr ⟨by rfl, rfl⟩) ?_ ?_
   rotate_left
   ·simp only [Act.put, sA, i64_w, i32_w];rfl
   refine pure_ (i := 18) (N := some 26) (v := ?_) (a' := ?_) (tf 19 11) rfl rfl (any_of HT_.out (by kernel_rfl)) (fun _ _ _ h => h) (Or.inl ⟨by rfl, ?_⟩) ?_ ?_
   rotate_left
   ·intro w';go_simp;with_reducible rfl
   rotate_left
   ·simp only [Act.put, sA, i64_w, i32_w];rfl
   refine pure_ (i := 19) (N := some 27) (v := ?_) (a' := ?_) (tf 20 10) rfl rfl (any_of HT_.out (by kernel_rfl)) (fun _ _ _ h => h) (Or.inl ⟨by rfl, ?_⟩) ?_ ?_
   rotate_left
   ·intro w';go_simp;with_reducible rfl
   rotate_left
   ·simp only [Act.put, sA, i64_w, i32_w];rfl
   refine pure_ (i := 20) (N := some 28) (v := undef) (a' := ?_) (tf 21 9) rfl rfl (any_of HT_.out (by kernel_rfl)) (fun _ _ _ h => h) (Or.inr ⟨by rfl, rfl⟩) ?_ ?_
   rotate_left
   ·simp only [Act.put, sA, i64_w, i32_w];rfl
   refine pure_ (i := 21) (N := some 29) (v := undef) (a' := ?_) (tf 22 8) rfl rfl (any_of HT_.out (by kernel_rfl)) (fun _ _ _ h => h) (Or.inr ⟨by rfl, rfl⟩) ?_ ?_
   rotate_left
   ·simp only [Act.put, sA, i64_w, i32_w];rfl
   refine pure_ (i := 22) (N := some 30) (v := undef) (a' := ?_) (tf 23 7) rfl rfl (any_of HT_.out (by kernel_rfl)) (fun _ _ _ h => h) (Or.inr ⟨by rfl, rfl⟩) ?_ ?_
   rotate_left
   ·simp only [Act.put, sA, i64_w, i32_w];rfl
   refine pure_ (i := 23) (N := some 31) (v := undef) (a' := ?_) (tf 24 6) rfl rfl (any_of HT_.out (by kernel_rfl)) (fun _ _ _ h => h) (Or.inr ⟨by rfl, rfl⟩) ?_ ?_
   rotate_left
   ·simp only [Act.put, sA, i64_w, i32_w];rfl
   refine pure_ (i := 24) (N := some 32) (v := undef) (a' := ?_) (tf 25 5) rfl rfl (any_of HT_.out (by kernel_rfl)) (fun _ _ _ h => h) (Or.inr ⟨by rfl, rfl⟩) ?_ ?_
   rotate_left
   ·simp only [Act.put, sA, i64_w, i32_w];rfl
   refine pure_ (i := 25) (N := some 33) (v := undef) (a' := ?_) (tf 26 4) rfl rfl (any_of HT_.out (by kernel_rfl)) (fun _ _ _ h => h) (Or.inr ⟨by rfl, rfl⟩) ?_ ?_
   rotate_left
   ·simp only [Act.put, sA, i64_w, i32_w];rfl
   refine pure_ (i := 26) (N := some 34) (v := undef) (a' := ?_) (tf 27 3) rfl rfl (any_of HT_.out (by kernel_rfl)) (fun _ _ _ h => h) (Or.inr ⟨by rfl, rfl⟩) ?_ ?_
   rotate_left
   ·simp only [Act.put, sA, i64_w, i32_w];rfl
   refine pure_ (i := 27) (N := some 35) (v := undef) (a' := ?_) (tf 28 2) rfl rfl (any_of HT_.out (by kernel_rfl)) (fun _ _ _ h => h) (Or.inr ⟨by rfl, rfl⟩) ?_ ?_
   rotate_left
   ·simp only [Act.put, sA, i64_w, i32_w];rfl
   refine pure_ (i := 28) (N := some 36) (v := ?_) (a' := ?_) (tf 29 1) rfl rfl (any_of HT_.out (by kernel_rfl)) (fun _ _ _ h => h) (Or.inl ⟨by rfl, ?_⟩) ?_ ?_
   rotate_left
   ·intro w';go_simp;with_reducible rfl
   rotate_left
   ·simp only [Act.put, sA, i64_w, i32_w];rfl
   refine pure_ (i := 29) (N := some 4) (v := ?_) (a' := ?_) (tf 30 0) rfl rfl (any_of HT_.out (by kernel_rfl)) (fun _ _ _ h => h) (Or.inl ⟨by rfl, ?_⟩) ?_ ?_
   rotate_left
   ·intro w';go_simp;with_reducible rfl
   rotate_left
   ·simp only [Act.put, sA, i64_w, i32_w];rfl
   refine done_ (done_of HT_.out (by kernel_rfl)) ?_
   try go_wp2
   go_ret
   exact ⟨by first | rfl | (simp [errW_none, errW_some] <;> rfl) | (simp [*, errW_none, errW_some] <;> rfl), by repeat (first | (with_reducible first | exact HB.out | apply jA | apply jN | apply jD | refine jS ?_ GE218.out | refine jS ?_ GE219.out) | exact HB.out)⟩
 ·replace c4 := Bool.eq_false_iff.mpr c4
  subst c4
  have H1 : (some false) = some r := by rw [if_neg (show ¬ (false = true) by decide)] at H; exact H
  clear H
  have H := H1
  clear H1
  obtain rfl := Option.some.inj H
  go_enter Tryd.func36, Tryd.ntmps36
  try go_wp2_with (first | ((with_reducible refine gate_dst (N := 2) rfl ?_); (try (refine gate_guard (by rfl) ?_; dsimp only)); refine box_event ?hg (N := 2) ?hd (cs := #[.slice A0_0 l0_0.length c0_0, .slice A0_1 l0_1.length c0_1, .slice A0_2 l0_2.length c0_2, .slice A0_3 l0_3.length c0_3, .int .i64 a0_4]) (t := 27) ?hr ?_; (case hd => rfl); (case hg => rfl); (case hr => first | (go_simp; done) | (go_simp; rfl)); intro gb218 hg w35 hbox hb; have n0_ := jM (jT (by repeat (first | (with_reducible first | exact HB.out | apply jA | apply jN | apply jD) | exact HB.out)) hb); have n1_ := jM (hbox); have n2_ := jM ((by rw [hg]; exact (below_size (by repeat (first | (with_reducible first | exact HB.out | apply jA | apply jN | apply jD) | exact HB.out))) : w.heap.size ≤ gb218)); have n3_ := jM ((by rw [hg]; exact (below_size (by repeat (first | (with_reducible first | exact HB.out | apply jA | apply jN | apply jD) | exact HB.out))) : w.heap.size ≤ gb218)); clear HB; have HB := n0_; have BK218 := n1_; have GW218 := n2_; have GE218 := n3_; clear n0_ n1_ n2_ n3_; clear hb hbox hg) | ((with_reducible refine gate_dst (N := 3) rfl ?_); (try (refine gate_guard (by rfl) ?_; dsimp only)); refine box_event ?hg (N := 3) ?hd (cs := #[.int .i64 a1_0, .int .i64 a1_1]) (t := 39) ?hr ?_; (case hd => rfl); (case hg => rfl); (case hr => first | (go_simp; done) | (go_simp; rfl)); intro gb219 hg w36 hbox hb; have n0_ := jM (jW (g := gb218) (o := .cells #[.slice A0_0 l0_0.length c0_0, .slice A0_1 l0_1.length c0_1, .slice A0_2 l0_2.length c0_2, .slice A0_3 l0_3.length c0_3, .int .i64 a0_4] 27 (0, 0)) (by (with_reducible repeat (first | refine jY ?_ _ | refine jZ ?_ | refine jX ?_ _)); exact BK218.out) hb); have n1_ := jM (jT (by repeat (first | (with_reducible first | exact HB.out | apply jA | apply jN | apply jD | refine jS ?_ GE218.out) | exact HB.out)) hb); have n2_ := jM (hbox); have n3_ := jM ((by rw [hg]; exact (below_size (by repeat (first | (with_reducible first | exact HB.out | apply jA | apply jN | apply jD | refine jS ?_ GE218.out) | exact HB.out))) : w.heap.size ≤ gb219)); have n4_ := jM ((by rw [hg]; exact (below_size (by repeat (first | (with_reducible first | exact HB.out | apply jA | apply jN | apply jD | refine jS ?_ GE218.out) | exact HB.out))) : w.heap.size ≤ gb219)); have n5_ := jM ((by rw [hg]; exact Nat.ne_of_lt (blk_lt (g := gb218) (o := .cells #[.slice A0_0 l0_0.length c0_0, .slice A0_1 l0_1.length c0_1, .slice A0_2 l0_2.length c0_2, .slice A0_3 l0_3.length c0_3, .int .i64 a0_4] 27 (0, 0)) (by (with_reducible repeat (first | refine jY ?_ _ | refine jZ ?_ | refine jX ?_ _)); exact BK218.out)) : gb218 ≠ gb219)); have n6_ := jM ((by rw [hg]; exact Nat.ne_of_gt (blk_lt (g := gb218) (o := .cells #[.slice A0_0 l0_0.length c0_0, .slice A0_1 l0_1.length c0_1, .slice A0_2 l0_2.length c0_2, .slice A0_3 l0_3.length c0_3, .int .i64 a0_4] 27 (0, 0)) (by (with_reducible repeat (first | refine jY ?_ _ | refine jZ ?_ | refine jX ?_ _)); exact BK218.out)) : gb219 ≠ gb218)); clear BK218; clear HB; have BK218 := n0_; have HB := n1_; have BK219 := n2_; have GW219 := n3_; have GE219 := n4_; have NB218_219 := n5_; have NB219_218 := n6_; clear n0_ n1_ n2_ n3_ n4_ n5_ n6_; clear hb hbox hg; have hnb37 := NB218_219.out; have hnc37 := NB219_218.out; have hcz38_0 : w36.cell? ⟨gb218, 0, none⟩ = some (.slice A0_0 l0_0.length c0_0) := (jC BK218.out 0).trans rfl; have hcz38_1 : w36.cell? ⟨gb218, 1, none⟩ = some (.slice A0_1 l0_1.length c0_1) := (jC BK218.out 1).trans rfl; have hcz38_2 : w36.cell? ⟨gb218, 2, none⟩ = some (.slice A0_2 l0_2.length c0_2) := (jC BK218.out 2).trans rfl; have hcz38_3 : w36.cell? ⟨gb218, 3, none⟩ = some (.slice A0_3 l0_3.length c0_3) := (jC BK218.out 3).trans rfl; have hcz38_4 : w36.cell? ⟨gb218, 4, none⟩ = some (.int .i64 a0_4) := (jC BK218.out 4).trans rfl; have hfz38_0 := jF BK218.out 0; have hfz38_1 := jF BK218.out 1; have hfz38_2 := jF BK218.out 2; have hfz38_3 := jF BK218.out 3; have hfz38_4 := jF BK218.out 4) | ((with_reducible refine gate_callee (f := 45) rfl ?_); refine goesL_ (some 7) rfl rfl Tryd.func45 (by kernel_rfl) rfl #[.agg #[.slice A0_0 l0_0.length c0_0, .slice A0_1 l0_1.length c0_1, .slice A0_2 l0_2.length c0_2, .slice A0_3 l0_3.length c0_3, .int .i64 a0_4]] rfl (by (try simp only [List.map_toArray, List.map_cons, List.map_nil]); first | done | rfl | (simp only [List.length_drop, List.length_take]; rfl)) ?_; (with_reducible refine (syntagmref12_Valid.calls _ _ l0_0 _ _ l0_1 _ _ l0_2 _ _ l0_3 a0_4 false _ ?side1 ?side2 ?side3 ?side4 ?side5 ?side6 ?side7 ?side8 A3.out).mono ?_); (case side1 => repeat (first | exact (jB HR0_0.out HB.out) | (with_reducible refine Kd.C_alloc ?_ _) | (with_reducible refine Kd.C_drewN ?_ _) | (with_reducible refine Kd.C_drew ?_))); (case side2 => exact HC0_0.out); (case side3 => repeat (first | exact (jB HR0_1.out HB.out) | (with_reducible refine Kd.C_alloc ?_ _) | (with_reducible refine Kd.C_drewN ?_ _) | (with_reducible refine Kd.C_drew ?_))); (case side4 => exact HC0_1.out); (case side5 => repeat (first | exact (jB HR0_2.out HB.out) | (with_reducible refine Kd.C_alloc ?_ _) | (with_reducible refine Kd.C_drewN ?_ _) | (with_reducible refine Kd.C_drew ?_))); (case side6 => exact HC0_2.out); (case side7 => repeat (first | exact (jB HR0_3.out HB.out) | (with_reducible refine Kd.C_alloc ?_ _) | (with_reducible refine Kd.C_drewN ?_ _) | (with_reducible refine Kd.C_drew ?_))); (case side8 => exact HC0_3.out); rintro e w39 ⟨rfl, hb⟩; refine ⟨_, rfl, ?_⟩; have n0_ := jM (jW (g := gb218) (o := .cells #[.slice A0_0 l0_0.length c0_0, .slice A0_1 l0_1.length c0_1, .slice A0_2 l0_2.length c0_2, .slice A0_3 l0_3.length c0_3, .int .i64 a0_4] 27 (0, 0)) (by (with_reducible repeat (first | refine jY ?_ _ | refine jZ ?_ | refine jX ?_ _)); exact BK218.out) hb); have n1_ := jM (jW (g := gb219) (o := .cells #[.int .i64 a1_0, .int .i64 a1_1] 39 (0, 0)) (by (with_reducible repeat (first | refine jY ?_ _ | refine jZ ?_ | refine jX ?_ _)); exact BK219.out) hb); have n2_ := jM (jT (by repeat (first | (with_reducible first | exact HB.out | apply jA | apply jN | apply jD | refine jS ?_ GE218.out | refine jS ?_ GE219.out) | exact HB.out)) hb); clear BK218; clear BK219; clear HB; have BK218 := n0_; have BK219 := n1_; have HB := n2_; clear n0_ n1_ n2_; (try clear hb); (try clear hb2); (try clear hk); (try clear hi)))
  have n0_ := jM (jZ BK218.out)
  have n1_ := jM (jZ BK219.out)
  have n2_ := jM (jD HB.out)
  clear BK218
  clear BK219
  clear HB
  have BK218 := n0_
  have BK219 := n1_
  have HB := n2_
  clear n0_ n1_ n2_
  refine start_ (n := 30) (S := fun w' => True) (ds := []) (tf 0 30) (by kernel_rfl) rfl rfl trivial (fun hHeld => ?_); refine with_tabW syntagmref14_Is.tab2 syntagmref14_Is.bits2 (fun HT_ HW_ => ?_)
  generalize w39.drew = w40 at BK218 BK219 HB hHeld ⊢
  refine pure_ (i := 0) (N := some 8) (v := ?_) (a' := ?_) (tf 1 29) rfl rfl (any_of HT_.out (by kernel_rfl)) (fun _ _ _ h => h) (Or.inl ⟨by rfl, ?_⟩) ?_ ?_
  rotate_left
  ·intro w';go_simp;with_reducible rfl
  rotate_left
  ·simp only [Act.put, sA, i64_w, i32_w];rfl
  refine pure_ (i := 1) (N := some 9) (v := ?_) (a' := ?_) (tf 2 28) rfl rfl (any_of HT_.out (by kernel_rfl)) (fun _ _ _ h => h) (Or.inl ⟨by rfl, ?_⟩) ?_ ?_
  rotate_left
  ·intro w';go_simp;with_reducible rfl
  rotate_left
  ·simp only [Act.put, sA, i64_w, i32_w];rfl
  refine pure_ (i := 2) (N := some 10) (v := undef) (a' := ?_) (tf 3 27) rfl rfl (any_of HT_.out (by kernel_rfl)) (fun _ _ _ h => h) (Or.inr ⟨by rfl, rfl⟩) ?_ ?_
  rotate_left
  ·simp only [Act.put, sA, i64_w, i32_w];rfl
  refine pure_ (i := 3) (N := some 11) (v := undef) (a' := ?_) (tf 4 26) rfl rfl (any_of HT_.out (by kernel_rfl)) (fun _ _ _ h => h) (Or.inr ⟨by rfl, rfl⟩) ?_ ?_
  rotate_left
  ·simp only [Act.put, sA, i64_w, i32_w];rfl
  refine pure_ (i := 4) (N := some 12) (v := undef) (a' := ?_) (tf 5 25) rfl rfl (any_of HT_.out (by kernel_rfl)) (fun _ _ _ h => h) (Or.inr ⟨by rfl, rfl⟩) ?_ ?_
  rotate_left
  ·simp only [Act.put, sA, i64_w, i32_w];rfl
  refine pure_ (i := 5) (N := some 13) (v := ?_) (a' := ?_) (tf 6 24) rfl rfl (any_of HT_.out (by kernel_rfl)) (fun _ _ _ h => h) (Or.inl ⟨by rfl, ?_⟩) ?_ ?_
  rotate_left
  ·intro w';go_simp;with_reducible rfl
  rotate_left
  ·simp only [Act.put, sA, i64_w, i32_w];rfl
  refine pure_ (i := 6) (N := some 14) (v := ?_) (a' := ?_) (tf 7 23) rfl rfl (any_of HT_.out (by kernel_rfl)) (fun _ _ _ h => h) (Or.inl ⟨by rfl, ?_⟩) ?_ ?_
  rotate_left
  ·intro w';go_simp;with_reducible rfl
  rotate_left
  ·simp only [Act.put, sA, i64_w, i32_w];rfl
  refine pure_ (i := 7) (N := some 15) (v := undef) (a' := ?_) (tf 8 22) rfl rfl (any_of HT_.out (by kernel_rfl)) (fun _ _ _ h => h) (Or.inr ⟨by rfl, rfl⟩) ?_ ?_
  rotate_left
  ·simp only [Act.put, sA, i64_w, i32_w];rfl
  refine pure_ (i := 8) (N := some 16) (v := undef) (a' := ?_) (tf 9 21) rfl rfl (any_of HT_.out (by kernel_rfl)) (fun _ _ _ h => h) (Or.inr ⟨by rfl, rfl⟩) ?_ ?_
  rotate_left
  ·simp only [Act.put, sA, i64_w, i32_w];rfl
  refine pure_ (i := 9) (N := some 17) (v := undef) (a' := ?_) (tf 10 20) rfl rfl (any_of HT_.out (by kernel_rfl)) (fun _ _ _ h => h) (Or.inr ⟨by rfl, rfl⟩) ?_ ?_
  rotate_left
  ·simp only [Act.put, sA, i64_w, i32_w];rfl
  refine pure_ (i := 10) (N := some 18) (v := undef) (a' := ?_) (tf 11 19) rfl rfl (any_of HT_.out (by kernel_rfl)) (fun _ _ _ h => h) (Or.inr ⟨by rfl, rfl⟩) ?_ ?_
  rotate_left
  ·simp only [Act.put, sA, i64_w, i32_w];rfl
  refine pure_ (i := 11) (N := some 19) (v := undef) (a' := ?_) (tf 12 18) rfl rfl (any_of HT_.out (by kernel_rfl)) (fun _ _ _ h => h) (Or.inr ⟨by rfl, rfl⟩) ?_ ?_
  rotate_left
  ·simp only [Act.put, sA, i64_w, i32_w];rfl
  refine pure_ (i := 12) (N := some 20) (v := undef) (a' := ?_) (tf 13 17) rfl rfl (any_of HT_.out (by kernel_rfl)) (fun _ _ _ h => h) (Or.inr ⟨by rfl, rfl⟩) ?_ ?_
  rotate_left
  ·simp only [Act.put, sA, i64_w, i32_w];rfl
  refine pure_ (i := 13) (N := some 21) (v := ?_) (a' := ?_) (tf 14 16) rfl rfl (any_of HT_.out (by kernel_rfl)) (fun _ _ _ h => h) (Or.inl ⟨by rfl, ?_⟩) ?_ ?_
  rotate_left
  ·intro w';go_simp;with_reducible rfl
  rotate_left
  ·simp only [Act.put, sA, i64_w, i32_w];rfl
  refine pure_ (i := 14) (N := some 22) (v := ?_) (a' := ?_) (tf 15 15) rfl rfl (any_of HT_.out (by kernel_rfl)) (fun _ _ _ h => h) (Or.inl ⟨by rfl, ?_⟩) ?_ ?_
  rotate_left
  ·intro w';go_simp;with_reducible rfl
  rotate_left
  ·simp only [Act.put, sA, i64_w, i32_w];rfl
  refine pure_ (i := 15) (N := some 23) (v := undef) (a' := ?_) (tf 16 14) rfl rfl (any_of HT_.out (by kernel_rfl)) (fun _ _ _ h => h) (Or.inr ⟨by rfl, rfl⟩) ?_ ?_
  rotate_left
  ·simp only [Act.put, sA, i64_w, i32_w];rfl
  refine pure_ (i := 16) (N := some 24) (v := undef) (a' := ?_) (tf 17 13) rfl rfl (any_of HT_.out (by kernel_rfl)) (fun _ _ _ h => h) (Or.inr ⟨by rfl, rfl⟩) ?_ ?_
  rotate_left
  ·simp only [Act.put, sA, i64_w, i32_w];rfl
  refine pure_ (i := 17) (N := some 25) (v := undef) (a' := ?_) (tf 18 12) rfl rfl (any_of HT_.out (by kernel_rfl)) (fun _ _ _ h => h) (Or.inr ⟨by rfl, rfl⟩) ?_ ?_
  rotate_left
  ·simp only [Act.put, sA, i64_w, i32_w];rfl
  refine pure_ (i := 18) (N := some 26) (v := ?_) (a' := ?_) (tf 19 11) rfl rfl (any_of HT_.out (by kernel_rfl)) (fun _ _ _ h => h) (Or.inl ⟨by rfl, ?_⟩) ?_ ?_
  rotate_left
  ·intro w';go_simp;with_reducible rfl
  rotate_left
  ·simp only [Act.put, sA, i64_w, i32_w];rfl
  refine pure_ (i := 19) (N := some 27) (v := ?_) (a' := ?_) (tf 20 10) rfl rfl (any_of HT_.out (by kernel_rfl)) (fun _ _ _ h => h) (Or.inl ⟨by rfl, ?_⟩) ?_ ?_
  rotate_left
  ·intro w';go_simp;with_reducible rfl
  rotate_left
  ·simp only [Act.put, sA, i64_w, i32_w];rfl
  refine pure_ (i := 20) (N := some 28) (v := undef) (a' := ?_) (tf 21 9) rfl rfl (any_of HT_.out (by kernel_rfl)) (fun _ _ _ h => h) (Or.inr ⟨by rfl, rfl⟩) ?_ ?_
  rotate_left
  ·simp only [Act.put, sA, i64_w, i32_w];rfl
  refine pure_ (i := 21) (N := some 29) (v := undef) (a' := ?_) (tf 22 8) rfl rfl (any_of HT_.out (by kernel_rfl)) (fun _ _ _ h => h) (Or.inr ⟨by rfl, rfl⟩) ?_ ?_
  rotate_left
  ·simp only [Act.put, sA, i64_w, i32_w];rfl
  refine pure_ (i := 22) (N := some 30) (v := undef) (a' := ?_) (tf 23 7) rfl rfl (any_of HT_.out (by kernel_rfl)) (fun _ _ _ h => h) (Or.inr ⟨by rfl, rfl⟩) ?_ ?_
  rotate_left
  ·simp only [Act.put, sA, i64_w, i32_w];rfl
  refine pure_ (i := 23) (N := some 31) (v := undef) (a' := ?_) (tf 24 6) rfl rfl (any_of HT_.out (by kernel_rfl)) (fun _ _ _ h => h) (Or.inr ⟨by rfl, rfl⟩) ?_ ?_
  rotate_left
  ·simp only [Act.put, sA, i64_w, i32_w];rfl
  refine pure_ (i := 24) (N := some 32) (v := undef) (a' := ?_) (tf 25 5) rfl rfl (any_of HT_.out (by kernel_rfl)) (fun _ _ _ h => h) (Or.inr ⟨by rfl, rfl⟩) ?_ ?_
  rotate_left
  ·simp only [Act.put, sA, i64_w, i32_w];rfl
  refine pure_ (i := 25) (N := some 33) (v := undef) (a' := ?_) (tf 26 4) rfl rfl (any_of HT_.out (by kernel_rfl)) (fun _ _ _ h => h) (Or.inr ⟨by rfl, rfl⟩) ?_ ?_
  rotate_left
  ·simp only [Act.put, sA, i64_w, i32_w];rfl
  refine pure_ (i := 26) (N := some 34) (v := undef) (a' := ?_) (tf 27 3) rfl rfl (any_of HT_.out (by kernel_rfl)) (fun _ _ _ h => h) (Or.inr ⟨by rfl, rfl⟩) ?_ ?_
  rotate_left
  ·simp only [Act.put, sA, i64_w, i32_w];rfl
  refine pure_ (i := 27) (N := some 35) (v := undef) (a' := ?_) (tf 28 2) rfl rfl (any_of HT_.out (by kernel_rfl)) (fun _ _ _ h => h) (Or.inr ⟨by rfl, rfl⟩) ?_ ?_
  rotate_left
  ·simp only [Act.put, sA, i64_w, i32_w];rfl
  refine pure_ (i := 28) (N := some 36) (v := ?_) (a' := ?_) (tf 29 1) rfl rfl (any_of HT_.out (by kernel_rfl)) (fun _ _ _ h => h) (Or.inl ⟨by rfl, ?_⟩) ?_ ?_
  rotate_left
  ·intro w';go_simp;with_reducible rfl
  rotate_left
  ·simp only [Act.put, sA, i64_w, i32_w];rfl
  refine pure_ (i := 29) (N := some 4) (v := ?_) (a' := ?_) (tf 30 0) rfl rfl (any_of HT_.out (by kernel_rfl)) (fun _ _ _ h => h) (Or.inl ⟨by rfl, ?_⟩) ?_ ?_
  rotate_left
  ·intro w';go_simp;with_reducible rfl
  rotate_left
  ·simp only [Act.put, sA, i64_w, i32_w];rfl
  refine done_ (done_of HT_.out (by kernel_rfl)) ?_
  try go_wp2
  go_ret
  exact ⟨by first | rfl | (simp [errW_none, errW_some] <;> rfl) | (simp [*, errW_none, errW_some] <;> rfl), by repeat (first | (with_reducible first | exact HB.out | apply jA | apply jN | apply jD | refine jS ?_ GE218.out | refine jS ?_ GE219.out) | exact HB.out)⟩

end Go.Proofs.YtclollnicbcooaaDoor.P
end

section
namespace Go.Proofs.YtclollnicbcooaaDoor.P
open Go.RowKit Go.Proofs.YtclollnicbcooaaDoorW.PrintWords Go.Proofs.YtclollnicbcooaaDoorW.PrintLast Go.Proofs.YtclollnicbcooaaDoorW.PrintMore
attribute [local go_sem] max2_int min2_int max_two min_two max_three min_three max_four min_four

/-! ### syntagmref14_Behind: function 16 -/
def syntagmref14_Behind.f (l0_0 : List (S82)) (l0_1 : List (S101)) (l0_2 : List ByteArray) (l0_3 : List (S64)) (a0_4 : Int) (a1_0 : Int) (a1_1 : Int) : Option (Int × Bool) := (syntagmref14_Is.f l0_0 l0_1 l0_2 l0_3 a0_4 a1_0 a1_1).bind fun t226 => (if t226 = true then ((syntagmref14_Right.f l0_0 l0_1 l0_2 l0_3 a0_4 a1_0).bind fun t227 => (if a1_1 ≥ (t227.length : Int) then (some (0, false)) else ((syntagmref14_Right.f l0_0 l0_1 l0_2 l0_3 a0_4 a1_0).bind fun t230 => (if 0 ≤ a1_1 then (if a1_1 < (t230.length : Int) then (some (rd t230 a1_1, true)) else (none)) else (none))))) else (some (0, false)))
def syntagmref14_Behind.T1 : Bool × List (List Nat × List Nat) := (true, [([], []), ([], []), ([0, 1], [0, 1]), ([2], [2]), ([3, 2], [3]), ([4], [4]), ([5, 4], [4, 5]), ([4], [4]), ([4], [4]), ([8, 4], [4, 8]), ([7, 9, 4, 4], [4, 7, 9]), ([10, 4], [4, 10]), ([6, 11, 4], [4, 6, 11]), ([4, 12], [4, 12])])
def syntagmref14_Behind.B1 : List Nat := [0, 0, 3, 7, 15, 31, 63, 31, 31, 287, 927, 1951, 4095, 8191]
theorem syntagmref14_Behind.tab1 : rtab .any (opsOf Tryd.f16 1) = syntagmref14_Behind.T1 := by kernel_rfl
theorem syntagmref14_Behind.bits1 : waitsOk syntagmref14_Behind.T1.2 syntagmref14_Behind.B1 = true := by kernel_rfl
def syntagmref14_Behind.T3 : Bool × List (List Nat × List Nat) := (true, [([], []), ([], []), ([1], [1]), ([0, 2], [0, 2]), ([], []), ([4], [4]), ([3, 5], [3, 5]), ([6], [6]), ([7, 3, 0, 1, 2, 3, 4, 5, 6, 7], [7]), ([8, 0, 1, 2, 3, 4, 5, 6, 7, 8], [])])
def syntagmref14_Behind.B3 : List Nat := [0, 0, 2, 7, 0, 16, 63, 127, 255, 511]
set_option maxHeartbeats 8000000 in
set_option maxRecDepth 100000 in
theorem syntagmref14_Behind.calls (A0_0 : Option Addr) (c0_0 : Nat) (l0_0 : List (S82)) (A0_1 : Option Addr) (c0_1 : Nat) (l0_1 : List (S101)) (A0_2 : Option Addr) (c0_2 : Nat) (l0_2 : List ByteArray) (A0_3 : Option Addr) (c0_3 : Nat) (l0_3 : List (S64)) (a0_4 : Int) (a1_0 : Int) (a1_1 : Int) (r1 : Int) (r2 : Bool) (w : World) (hr0_0 : Kd.C k82 w A0_0 l0_0.length l0_0) (hc0_0 : l0_0.length ≤ c0_0) (hr0_1 : Kd.C k101 w A0_1 l0_1.length l0_1) (hc0_1 : l0_1.length ≤ c0_1) (hr0_2 : Kd.C Kd.string w A0_2 l0_2.length l0_2) (hc0_2 : l0_2.length ≤ c0_2) (hr0_3 : Kd.C k64 w A0_3 l0_3.length l0_3) (hc0_3 : l0_3.length ≤ c0_3) (h : syntagmref14_Behind.f l0_0 l0_1 l0_2 l0_3 a0_4 a1_0 a1_1 = some (r1, r2)) :
  Calls Tryd.prog 16 #[.agg #[.slice A0_0 l0_0.length c0_0, .slice A0_1 l0_1.length c0_1, .slice A0_2 l0_2.length c0_2, .slice A0_3 l0_3.length c0_3, .int .i64 a0_4], .agg #[.int .i64 a1_0, .int .i64 a1_1]] w fun e w' => e = .returned (.tuple #[.int .i64 r1, .bool r2]) ∧ Below w.heap.size w w' := by
 have hu27 := Tryd.underlying27
 have hu39 := Tryd.underlying39
 have HR0_0 := jM hr0_0
 have HC0_0 := jM hc0_0
 clear hr0_0 hc0_0
 have HR0_1 := jM hr0_1
 have HC0_1 := jM hc0_1
 clear hr0_1 hc0_1
 have HR0_2 := jM hr0_2
 have HC0_2 := jM hc0_2
 clear hr0_2 hc0_2
 have HR0_3 := jM hr0_3
 have HC0_3 := jM hc0_3
 clear hr0_3 hc0_3
 have HB := jM (Below.refl w.heap.size w)
 have H : ((syntagmref14_Is.f l0_0 l0_1 l0_2 l0_3 a0_4 a1_0 a1_1).bind fun t226 => (if t226 = true then ((syntagmref14_Right.f l0_0 l0_1 l0_2 l0_3 a0_4 a1_0).bind fun t227 => (if a1_1 ≥ (t227.length : Int) then (some (0, false)) else ((syntagmref14_Right.f l0_0 l0_1 l0_2 l0_3 a0_4 a1_0).bind fun t230 => (if 0 ≤ a1_1 then (if a1_1 < (t230.length : Int) then (some (rd t230 a1_1, true)) else (none)) else (none))))) else (some (0, false)))) = some (r1, r2) := h
 clear h
 replace H := Option.bind_eq_some_iff.mp H
 obtain ⟨t226, A30, H⟩ := H
 replace H : (if t226 = true then ((syntagmref14_Right.f l0_0 l0_1 l0_2 l0_3 a0_4 a1_0).bind fun t227 => (if a1_1 ≥ (t227.length : Int) then (some (0, false)) else ((syntagmref14_Right.f l0_0 l0_1 l0_2 l0_3 a0_4 a1_0).bind fun t230 => (if 0 ≤ a1_1 then (if a1_1 < (t230.length : Int) then (some (rd t230 a1_1, true)) else (none)) else (none))))) else (some (0, false))) = some (r1, r2) := H
 have A3 := jM A30
 clear A30
 by_cases c4 : t226 = true
 ·subst c4
  have H1 : ((syntagmref14_Right.f l0_0 l0_1 l0_2 l0_3 a0_4 a1_0).bind fun t227 => (if a1_1 ≥ (t227.length : Int) then (some (0, false)) else ((syntagmref14_Right.f l0_0 l0_1 l0_2 l0_3 a0_4 a1_0).bind fun t230 => (if 0 ≤ a1_1 then (if a1_1 < (t230.length : Int) then (some (rd t230 a1_1, true)) else (none)) else (none))))) = some (r1, r2) := by rw [if_pos rfl] at H; exact H
  clear H
  have H := H1
  clear H1
  replace H := Option.bind_eq_some_iff.mp H
  obtain ⟨t227, A50, H⟩ := H
  replace H : (if a1_1 ≥ (t227.length : Int) then (some (0, false)) else ((syntagmref14_Right.f l0_0 l0_1 l0_2 l0_3 a0_4 a1_0).bind fun t230 => (if 0 ≤ a1_1 then (if a1_1 < (t230.length : Int) then (some (rd t230 a1_1, true)) else (none)) else (none)))) = some (r1, r2) := H
  have A5 := jM A50
  clear A50
  by_cases c6 : a1_1 ≥ (t227.length : Int)
  ·rw [if_pos c6] at H
   have c6b0 : decide ((t227.length : Int) ≤ a1_1) = true := decide_eq_true c6
   clear c6
   simp only [Option.some.injEq, Prod.mk.injEq] at H
   obtain ⟨rfl, rfl⟩ := H
   go_enter Tryd.func16, Tryd.ntmps16
   try go_wp2_with (first | ((with_reducible refine gate_dst (N := 2) rfl ?_); (try (refine gate_guard (by rfl) ?_; dsimp only)); refine box_event ?hg (N := 2) ?hd (cs := #[.slice A0_0 l0_0.length c0_0, .slice A0_1 l0_1.length c0_1, .slice A0_2 l0_2.length c0_2, .slice A0_3 l0_3.length c0_3, .int .i64 a0_4]) (t := 27) ?hr ?_; (case hd => rfl); (case hg => rfl); (case hr => first | (go_simp; done) | (go_simp; rfl)); intro gb224 hg w7 hbox hb; have n0_ := jM (jT (by repeat (first | (with_reducible first | exact HB.out | apply jA | apply jN | apply jD) | exact HB.out)) hb); have n1_ := jM (hbox); have n2_ := jM ((by rw [hg]; exact (below_size (by repeat (first | (with_reducible first | exact HB.out | apply jA | apply jN | apply jD) | exact HB.out))) : w.heap.size ≤ gb224)); have n3_ := jM ((by rw [hg]; exact (below_size (by repeat (first | (with_reducible first | exact HB.out | apply jA | apply jN | apply jD) | exact HB.out))) : w.heap.size ≤ gb224)); clear HB; have HB := n0_; have BK224 := n1_; have GW224 := n2_; have GE224 := n3_; clear n0_ n1_ n2_ n3_; clear hb hbox hg) | ((with_reducible refine gate_dst (N := 3) rfl ?_); (try (refine gate_guard (by rfl) ?_; dsimp only)); refine box_event ?hg (N := 3) ?hd (cs := #[.int .i64 a1_0, .int .i64 a1_1]) (t := 39) ?hr ?_; (case hd => rfl); (case hg => rfl); (case hr => first | (go_simp; done) | (go_simp; rfl)); intro gb225 hg w8 hbox hb; have n0_ := jM (jW (g := gb224) (o := .cells #[.slice A0_0 l0_0.length c0_0, .slice A0_1 l0_1.length c0_1, .slice A0_2 l0_2.length c0_2, .slice A0_3 l0_3.length c0_3, .int .i64 a0_4] 27 (0, 0)) (by (with_reducible repeat (first | refine jY ?_ _ | refine jZ ?_ | refine jX ?_ _)); exact BK224.out) hb); have n1_ := jM (jT (by repeat (first | (with_reducible first | exact HB.out | apply jA | apply jN | apply jD | refine jS ?_ GE224.out) | exact HB.out)) hb); have n2_ := jM (hbox); have n3_ := jM ((by rw [hg]; exact (below_size (by repeat (first | (with_reducible first | exact HB.out | apply jA | apply jN | apply jD | refine jS ?_ GE224.out) | exact HB.out))) : w.heap.size ≤ gb225)); have n4_ := jM ((by rw [hg]; exact (below_size (by repeat (first | (with_reducible first | exact HB.out | apply jA | apply jN | apply jD | refine jS ?_ GE224.out) | exact HB.out))) : w.heap.size ≤ gb225)); have n5_ := jM ((by rw [hg]; exact Nat.ne_of_lt (blk_lt (g := gb224) (o := .cells #[.slice A0_0 l0_0.length c0_0, .slice A0_1 l0_1.length c0_1, .slice A0_2 l0_2.length c0_2, .slice A0_3 l0_3.length c0_3, .int .i64 a0_4] 27 (0, 0)) (by (with_reducible repeat (first | refine jY ?_ _ | refine jZ ?_ | refine jX ?_ _)); exact BK224.out)) : gb224 ≠ gb225)); have n6_ := jM ((by rw [hg]; exact Nat.ne_of_gt (blk_lt (g := gb224) (o := .cells #[.slice A0_0 l0_0.length c0_0, .slice A0_1 l0_1.length c0_1, .slice A0_2 l0_2.length c0_2, .slice A0_3 l0_3.length c0_3, .int .i64 a0_4] 27 (0, 0)) (by (with_reducible repeat (first | refine jY ?_ _ | refine jZ ?_ | refine jX ?_ _)); exact BK224.out)) : gb225 ≠ gb224)); clear BK224; clear HB; have BK224 := n0_; have HB := n1_; have BK225 := n2_; have GW225 := n3_; have GE225 := n4_; have NB224_225 := n5_; have NB225_224 := n6_; clear n0_ n1_ n2_ n3_ n4_ n5_ n6_; clear hb hbox hg))
   have n0_ := jM (jZ BK224.out)
   have n1_ := jM (jZ BK225.out)
   have n2_ := jM (jD HB.out)
   clear BK224
   clear BK225
   clear HB
   have BK224 := n0_
   have BK225 := n1_
   have HB := n2_
   clear n0_ n1_ n2_
   refine start_ (n := 14) (S := fun w' => w'.cell? ⟨gb224, 0, none⟩ = some (.slice A0_0 l0_0.length c0_0) ∧ w'.cell? ⟨gb224, 1, none⟩ = some (.slice A0_1 l0_1.length c0_1) ∧ w'.cell? ⟨gb224, 2, none⟩ = some (.slice A0_2 l0_2.length c0_2) ∧ w'.cell? ⟨gb224, 3, none⟩ = some (.slice A0_3 l0_3.length c0_3) ∧ w'.cell? ⟨gb224, 4, none⟩ = some (.int .i64 a0_4) ∧ w'.cell? ⟨gb225, 0, none⟩ = some (.int .i64 a1_0) ∧ w'.cell? ⟨gb225, 1, none⟩ = some (.int .i64 a1_1)) (ds := []) (tf 0 14) (by kernel_rfl) rfl rfl ⟨(jC BK224.out 0).trans rfl, (jC BK224.out 1).trans rfl, (jC BK224.out 2).trans rfl, (jC BK224.out 3).trans rfl, (jC BK224.out 4).trans rfl, (jC BK225.out 0).trans rfl, (jC BK225.out 1).trans rfl⟩ (fun hHeld => ?_); refine with_tabW syntagmref14_Behind.tab1 syntagmref14_Behind.bits1 (fun HT_ HW_ => ?_)
   generalize w8.drew = w9 at BK224 BK225 HB hHeld ⊢
   refine take_ (i := 0) (N := some 6) (v := ?_) (a' := ?_) (tf 1 13) rfl rfl (take_ofW HT_.out HW_.out (by kernel_rfl)) (fun _ _ _ h => h) (Or.inl ⟨by rfl, ?_⟩) hHeld ?_ ?_
   rotate_left
   ·rintro w' ⟨s0, s1, s2, s3, s4, s5, s6⟩;go_simp;with_reducible rfl
   rotate_left
   ·simp only [Act.put, sA, i64_w, i32_w];rfl
   refine take_ (i := 1) (N := some 7) (v := ?_) (a' := ?_) (tf 2 12) rfl rfl (take_ofW HT_.out HW_.out (by kernel_rfl)) (fun _ _ _ h => h) (Or.inl ⟨by rfl, ?_⟩) hHeld ?_ ?_
   rotate_left
   ·rintro w' ⟨s0, s1, s2, s3, s4, s5, s6⟩;go_simp;with_reducible rfl
   rotate_left
   ·simp only [Act.put, sA, i64_w, i32_w];rfl
   refine one_ (i := 2) (N := some 8) (tf 3 11) rfl rfl (one_of HT_.out (by kernel_rfl)) (by decide) (fun K hK => ?_)
   refine goes_ Tryd.func36 (by kernel_rfl) rfl #[.agg #[.slice A0_0 l0_0.length c0_0, .slice A0_1 l0_1.length c0_1, .slice A0_2 l0_2.length c0_2, .slice A0_3 l0_3.length c0_3, .int .i64 a0_4], .agg #[.int .i64 a1_0, .int .i64 a1_1]] (by rfl) rfl rfl (by (try simp only [List.map_toArray, List.map_cons, List.map_nil]); first | done | rfl | (simp only [List.length_drop, List.length_take]; rfl)) ?_
   with_reducible refine (syntagmref14_Is.calls _ _ l0_0 _ _ l0_1 _ _ l0_2 _ _ l0_3 a0_4 a1_0 a1_1 true _ ?side1 ?side2 ?side3 ?side4 ?side5 ?side6 ?side7 ?side8 A3.out).mono ?_
   (case side1 => repeat (first | exact (jB HR0_0.out HB.out) | (with_reducible refine Kd.C_alloc ?_ _) | (with_reducible refine Kd.C_drewN ?_ _) | (with_reducible refine Kd.C_drew ?_)))
   (case side2 => exact HC0_0.out)
   (case side3 => repeat (first | exact (jB HR0_1.out HB.out) | (with_reducible refine Kd.C_alloc ?_ _) | (with_reducible refine Kd.C_drewN ?_ _) | (with_reducible refine Kd.C_drew ?_)))
   (case side4 => exact HC0_1.out)
   (case side5 => repeat (first | exact (jB HR0_2.out HB.out) | (with_reducible refine Kd.C_alloc ?_ _) | (with_reducible refine Kd.C_drewN ?_ _) | (with_reducible refine Kd.C_drew ?_)))
   (case side6 => exact HC0_2.out)
   (case side7 => repeat (first | exact (jB HR0_3.out HB.out) | (with_reducible refine Kd.C_alloc ?_ _) | (with_reducible refine Kd.C_drewN ?_ _) | (with_reducible refine Kd.C_drew ?_)))
   (case side8 => exact HC0_3.out)
   rintro e w10 ⟨rfl, hb⟩
   refine ⟨_, rfl, ?_⟩
   have n0_ := jM (jW (g := gb224) (o := .cells #[.slice A0_0 l0_0.length c0_0, .slice A0_1 l0_1.length c0_1, .slice A0_2 l0_2.length c0_2, .slice A0_3 l0_3.length c0_3, .int .i64 a0_4] 27 (0, 0)) (by (with_reducible repeat (first | refine jY ?_ _ | refine jZ ?_ | refine jX ?_ _)); exact BK224.out) hb)
   have n1_ := jM (jW (g := gb225) (o := .cells #[.int .i64 a1_0, .int .i64 a1_1] 39 (0, 0)) (by (with_reducible repeat (first | refine jY ?_ _ | refine jZ ?_ | refine jX ?_ _)); exact BK225.out) hb)
   have n2_ := jM (jT (by repeat (first | (with_reducible first | exact HB.out | apply jA | apply jN | apply jD | refine jS ?_ GE224.out | refine jS ?_ GE225.out) | exact HB.out)) hb)
   clear BK224
   clear BK225
   clear HB
   have BK224 := n0_
   have BK225 := n1_
   have HB := n2_
   clear n0_ n1_ n2_
   (try clear hb)
   (try clear hb2)
   (try clear hk)
   (try clear hi)
   refine hK.out _ _ ⟨(jC BK224.out 0).trans rfl, (jC BK224.out 1).trans rfl, (jC BK224.out 2).trans rfl, (jC BK224.out 3).trans rfl, (jC BK224.out 4).trans rfl, (jC BK225.out 0).trans rfl, (jC BK225.out 1).trans rfl⟩ (fun hHeld => ?_)
   clear hK K
   refine norm_ (a' := ?_) ?_ ?_
   rotate_left
   ·show Act.put _ (some 8) _ = _
    simp only [Act.put, sA, i64_w, i32_w]
    rfl
   refine pure_ (i := 3) (N := some 9) (v := ?_) (a' := ?_) (tf 4 10) rfl rfl (any_of HT_.out (by kernel_rfl)) (fun _ _ _ h => h) (Or.inl ⟨by rfl, ?_⟩) ?_ ?_
   rotate_left
   ·intro w';go_simp;with_reducible rfl
   rotate_left
   ·simp only [Act.put, sA, i64_w, i32_w];rfl
   refine pure_ (i := 4) (N := some 10) (v := ?_) (a' := ?_) (tf 5 9) rfl rfl (any_of HT_.out (by kernel_rfl)) (fun _ _ _ h => h) (Or.inl ⟨by rfl, ?_⟩) ?_ ?_
   rotate_left
   ·intro w';go_simp;with_reducible rfl
   rotate_left
   ·simp only [Act.put, sA, i64_w, i32_w];rfl
   refine pure_ (i := 5) (N := some 11) (v := ?_) (a' := ?_) (tf 6 8) rfl rfl (any_of HT_.out (by kernel_rfl)) (fun _ _ _ h => h) (Or.inl ⟨by rfl, ?_⟩) ?_ ?_
   rotate_left
   ·intro w';go_simp;with_reducible rfl
   rotate_left
   ·simp only [Act.put, sA, i64_w, i32_w];rfl
   refine pure_ (i := 8) (N := some 14) (v := ?_) (a' := ?_) #[true, true, true, true, true, true, false, false, true, false, false, false, false, false] rfl rfl (any_of HT_.out (by kernel_rfl)) (fun _ _ _ h => h) (Or.inl ⟨by rfl, ?_⟩) ?_ ?_
   rotate_left
   ·intro w';go_simp;with_reducible rfl
   rotate_left
   ·simp only [Act.put, sA, i64_w, i32_w];rfl
   refine take_ (i := 6) (N := some 12) (v := ?_) (a' := ?_) #[true, true, true, true, true, true, true, false, true, false, false, false, false, false] rfl rfl (take_ofW HT_.out HW_.out (by kernel_rfl)) (fun _ _ _ h => h) (Or.inl ⟨by rfl, ?_⟩) hHeld ?_ ?_
   rotate_left
   ·rintro w' ⟨s0, s1, s2, s3, s4, s5, s6⟩;go_simp;with_reducible rfl
   rotate_left
   ·simp only [Act.put, sA, i64_w, i32_w];rfl
   refine take_ (i := 7) (N := some 13) (v := ?_) (a' := ?_) (tf 9 5) rfl rfl (take_ofW HT_.out HW_.out (by kernel_rfl)) (fun _ _ _ h => h) (Or.inl ⟨by rfl, ?_⟩) hHeld ?_ ?_
   rotate_left
   ·rintro w' ⟨s0, s1, s2, s3, s4, s5, s6⟩;go_simp;with_reducible rfl
   rotate_left
   ·simp only [Act.put, sA, i64_w, i32_w];rfl
   refine take_ (i := 9) (N := some 15) (v := ?_) (a' := ?_) (tf 10 4) rfl rfl (take_ofW HT_.out HW_.out (by kernel_rfl)) (fun _ _ _ h => h) (Or.inl ⟨by rfl, ?_⟩) hHeld ?_ ?_
   rotate_left
   ·rintro w' ⟨s0, s1, s2, s3, s4, s5, s6⟩;go_simp;with_reducible rfl
   rotate_left
   ·simp only [Act.put, sA, i64_w, i32_w];rfl
   refine one_ (i := 10) (N := some 16) (tf 11 3) rfl rfl (one_of HT_.out (by kernel_rfl)) (by decide) (fun K hK => ?_)
   refine goes_ Tryd.func37 (by kernel_rfl) rfl #[.agg #[.slice A0_0 l0_0.length c0_0, .slice A0_1 l0_1.length c0_1, .slice A0_2 l0_2.length c0_2, .slice A0_3 l0_3.length c0_3, .int .i64 a0_4], .int .i64 a1_0] (by rfl) rfl rfl (by (try simp only [List.map_toArray, List.map_cons, List.map_nil]); first | done | rfl | (simp only [List.length_drop, List.length_take]; rfl)) ?_
   with_reducible refine (syntagmref14_Right.calls _ _ l0_0 _ _ l0_1 _ _ l0_2 (fun k_ => k_ < w.heap.size) _ _ l0_3 a0_4 a1_0 t227 _ ?side1 ?side2 ?side3 ?side4 ?side5 ?side6 ?side7 A5.out).mono ?_
   (case side1 => repeat (first | exact (jB HR0_0.out HB.out) | (with_reducible refine Kd.C_alloc ?_ _) | (with_reducible refine Kd.C_drewN ?_ _) | (with_reducible refine Kd.C_drew ?_)))
   (case side2 => exact HC0_0.out)
   (case side3 => repeat (first | exact (jB HR0_1.out HB.out) | (with_reducible refine Kd.C_alloc ?_ _) | (with_reducible refine Kd.C_drewN ?_ _) | (with_reducible refine Kd.C_drew ?_)))
   (case side4 => exact HC0_1.out)
   (case side5 => repeat (first | exact (jB HR0_2.out HB.out) | (with_reducible refine Kd.C_alloc ?_ _) | (with_reducible refine Kd.C_drewN ?_ _) | (with_reducible refine Kd.C_drew ?_)))
   (case side6 => exact HC0_2.out)
   (case side7 => exact Kd.V_mk HC0_3.out (Kd.F_below (Kd.C_F k64_heap HR0_3.out) (by repeat (first | (with_reducible first | exact HB.out | apply jA | apply jN | apply jD | refine jS ?_ GE224.out | refine jS ?_ GE225.out) | exact HB.out))))
   rintro e w11 ⟨v228, rfl, ho0, hb⟩
   refine ⟨_, rfl, ?_⟩
   have n0_ := jM (Kd.V_lower (Kd.V_mono (ok' := fun k_ => k_ ≠ gb224 ∧ k_ ≠ gb225) ho0 (fun k_ hk_ => ⟨Or.elim hk_ (fun hs_ => fun e_ => Nat.not_le.2 hs_ (by rw [e_]; exact GW224.out)) (fun hn_ => (Kd.freshB (g := gb224) (o := .cells #[.slice A0_0 l0_0.length c0_0, .slice A0_1 l0_1.length c0_1, .slice A0_2 l0_2.length c0_2, .slice A0_3 l0_3.length c0_3, .int .i64 a0_4] 27 (0, 0)) (by (with_reducible repeat (first | refine jY ?_ _ | refine jZ ?_ | refine jX ?_ _)); exact BK224.out) k_ hn_)), Or.elim hk_ (fun hs_ => fun e_ => Nat.not_le.2 hs_ (by rw [e_]; exact GW225.out)) (fun hn_ => (Kd.freshB (g := gb225) (o := .cells #[.int .i64 a1_0, .int .i64 a1_1] 39 (0, 0)) (by (with_reducible repeat (first | refine jY ?_ _ | refine jZ ?_ | refine jX ?_ _)); exact BK225.out) k_ hn_))⟩)) (below_size (by repeat (first | (with_reducible first | exact HB.out | apply jA | apply jN | apply jD | refine jS ?_ GE224.out | refine jS ?_ GE225.out) | exact HB.out))))
   have n1_ := jM (jW (g := gb224) (o := .cells #[.slice A0_0 l0_0.length c0_0, .slice A0_1 l0_1.length c0_1, .slice A0_2 l0_2.length c0_2, .slice A0_3 l0_3.length c0_3, .int .i64 a0_4] 27 (0, 0)) (by (with_reducible repeat (first | refine jY ?_ _ | refine jZ ?_ | refine jX ?_ _)); exact BK224.out) hb)
   have n2_ := jM (jW (g := gb225) (o := .cells #[.int .i64 a1_0, .int .i64 a1_1] 39 (0, 0)) (by (with_reducible repeat (first | refine jY ?_ _ | refine jZ ?_ | refine jX ?_ _)); exact BK225.out) hb)
   have n3_ := jM (jT (by repeat (first | (with_reducible first | exact HB.out | apply jA | apply jN | apply jD | refine jS ?_ GE224.out | refine jS ?_ GE225.out) | exact HB.out)) hb)
   clear BK224
   clear BK225
   clear HB
   have HO229 := n0_
   have BK224 := n1_
   have BK225 := n2_
   have HB := n3_
   clear n0_ n1_ n2_ n3_
   (try clear hb)
   (try clear hb2)
   (try clear hk)
   (try clear hi)
   (try clear ho0)
   obtain ⟨Ao12, co12, eo12⟩ := Kd.V_slice HO229.out
   (first | subst eo12 | (injection eo12 with f1_ f2_ f3_; have f4_ := f1_.symm; have f5_ := f3_.symm; clear f1_ f2_ f3_; subst f4_; subst f5_))
   refine hK.out _ _ ⟨(jC BK224.out 0).trans rfl, (jC BK224.out 1).trans rfl, (jC BK224.out 2).trans rfl, (jC BK224.out 3).trans rfl, (jC BK224.out 4).trans rfl, (jC BK225.out 0).trans rfl, (jC BK225.out 1).trans rfl⟩ (fun hHeld => ?_)
   clear hK K
   refine norm_ (a' := ?_) ?_ ?_
   rotate_left
   ·show Act.put _ (some 16) _ = _
    simp only [Act.put, sA, i64_w, i32_w]
    rfl
   refine pure_ (i := 11) (N := some 17) (v := ?_) (a' := ?_) (tf 12 2) rfl rfl (any_of HT_.out (by kernel_rfl)) (fun _ _ _ h => h) (Or.inl ⟨by rfl, ?_⟩) ?_ ?_
   rotate_left
   ·intro w';go_simp;with_reducible rfl
   rotate_left
   ·simp only [Act.put, sA, i64_w, i32_w];rfl
   refine pure_ (i := 12) (N := some 18) (v := ?_) (a' := ?_) (tf 13 1) rfl rfl (any_of HT_.out (by kernel_rfl)) (fun _ _ _ h => h) (Or.inl ⟨by rfl, ?_⟩) ?_ ?_
   rotate_left
   ·intro w';go_simp;with_reducible rfl
   rotate_left
   ·simp only [Act.put, sA, i64_w, i32_w];rfl
   refine pure_ (i := 13) (N := some 19) (v := ?_) (a' := ?_) (tf 14 0) rfl rfl (any_of HT_.out (by kernel_rfl)) (fun _ _ _ h => h) (Or.inl ⟨by rfl, ?_⟩) ?_ ?_
   rotate_left
   ·intro w';go_simp;with_reducible rfl
   rotate_left
   ·simp only [Act.put, sA, i64_w, i32_w];rfl
   refine done_ (done_of HT_.out (by kernel_rfl)) ?_
   try go_wp2
   go_ret2
   exact ⟨by first | rfl | (simp [errW_none, errW_some] <;> rfl) | (simp [*, errW_none, errW_some] <;> rfl), by repeat (first | (with_reducible first | exact HB.out | apply jA | apply jN | apply jD | refine jS ?_ GE224.out | refine jS ?_ GE225.out) | exact HB.out)⟩
  ·rw [if_neg c6] at H
   have c6b0 : decide ((t227.length : Int) ≤ a1_1) = false := decide_eq_false c6
   clear c6
   replace H := Option.bind_eq_some_iff.mp H
   obtain ⟨t230, A130, H⟩ := H
   replace H : (if 0 ≤ a1_1 then (if a1_1 < (t230.length : Int) then (some (rd t230 a1_1, true)) else (none)) else (none)) = some (r1, r2) := H
   have A13 := jM A130
   clear A130
   by_cases c14 : 0 ≤ a1_1
   ·rw [if_pos c14] at H
    have c14b0 : decide (0 ≤ a1_1) = true := decide_eq_true c14
    clear c14
    by_cases c15 : a1_1 < (t230.length : Int)
    ·rw [if_pos c15] at H
     have c15b0 : decide (a1_1 < (t230.length : Int)) = true := decide_eq_true c15
     clear c15
     simp only [Option.some.injEq, Prod.mk.injEq] at H
     obtain ⟨rfl, rfl⟩ := H
     go_enter Tryd.func16, Tryd.ntmps16
     try go_wp2_with (first | ((with_reducible refine gate_dst (N := 2) rfl ?_); (try (refine gate_guard (by rfl) ?_; dsimp only)); refine box_event ?hg (N := 2) ?hd (cs := #[.slice A0_0 l0_0.length c0_0, .slice A0_1 l0_1.length c0_1, .slice A0_2 l0_2.length c0_2, .slice A0_3 l0_3.length c0_3, .int .i64 a0_4]) (t := 27) ?hr ?_; (case hd => rfl); (case hg => rfl); (case hr => first | (go_simp; done) | (go_simp; rfl)); intro gb224 hg w16 hbox hb; have n0_ := jM (jT (by repeat (first | (with_reducible first | exact HB.out | apply jA | apply jN | apply jD) | exact HB.out)) hb); have n1_ := jM (hbox); have n2_ := jM ((by rw [hg]; exact (below_size (by repeat (first | (with_reducible first | exact HB.out | apply jA | apply jN | apply jD) | exact HB.out))) : w.heap.size ≤ gb224)); have n3_ := jM ((by rw [hg]; exact (below_size (by repeat (first | (with_reducible first | exact HB.out | apply jA | apply jN | apply jD) | exact HB.out))) : w.heap.size ≤ gb224)); clear HB; have HB := n0_; have BK224 := n1_; have GW224 := n2_; have GE224 := n3_; clear n0_ n1_ n2_ n3_; clear hb hbox hg) | ((with_reducible refine gate_dst (N := 3) rfl ?_); (try (refine gate_guard (by rfl) ?_; dsimp only)); refine box_event ?hg (N := 3) ?hd (cs := #[.int .i64 a1_0, .int .i64 a1_1]) (t := 39) ?hr ?_; (case hd => rfl); (case hg => rfl); (case hr => first | (go_simp; done) | (go_simp; rfl)); intro gb225 hg w17 hbox hb; have n0_ := jM (jW (g := gb224) (o := .cells #[.slice A0_0 l0_0.length c0_0, .slice A0_1 l0_1.length c0_1, .slice A0_2 l0_2.length c0_2, .slice A0_3 l0_3.length c0_3, .int .i64 a0_4] 27 (0, 0)) (by (with_reducible repeat (first | refine jY ?_ _ | refine jZ ?_ | refine jX ?_ _)); exact BK224.out) hb); have n1_ := jM (jT (by repeat (first | (with_reducible first | exact HB.out | apply jA | apply jN | apply jD | refine jS ?_ GE224.out) | exact HB.out)) hb); have n2_ := jM (hbox); have n3_ := jM ((by rw [hg]; exact (below_size (by repeat (first | (with_reducible first | exact HB.out | apply jA | apply jN | apply jD | refine jS ?_ GE224.out) | exact HB.out))) : w.heap.size ≤ gb225)); have n4_ := jM ((by rw [hg]; exact (below_size (by repeat (first | (with_reducible first | exact HB.out | apply jA | apply jN | apply jD | refine jS ?_ GE224.out) | exact HB.out))) : w.heap.size ≤ gb225)); have n5_ := jM ((by rw [hg]; exact Nat.ne_of_lt (blk_lt (g := gb224) (o := .cells #[.slice A0_0 l0_0.length c0_0, .slice A0_1 l0_1.length c0_1, .slice A0_2 l0_2.length c0_2, .slice A0_3 l0_3.length c0_3, .int .i64 a0_4] 27 (0, 0)) (by (with_reducible repeat (first | refine jY ?_ _ | refine jZ ?_ | refine jX ?_ _)); exact BK224.out)) : gb224 ≠ gb225)); have n6_ := jM ((by rw [hg]; exact Nat.ne_of_gt (blk_lt (g := gb224) (o := .cells #[.slice A0_0 l0_0.length c0_0, .slice A0_1 l0_1.length c0_1, .slice A0_2 l0_2.length c0_2, .slice A0_3 l0_3.length c0_3, .int .i64 a0_4] 27 (0, 0)) (by (with_reducible repeat (first | refine jY ?_ _ | refine jZ ?_ | refine jX ?_ _)); exact BK224.out)) : gb225 ≠ gb224)); clear BK224; clear HB; have BK224 := n0_; have HB := n1_; have BK225 := n2_; have GW225 := n3_; have GE225 := n4_; have NB224_225 := n5_; have NB225_224 := n6_; clear n0_ n1_ n2_ n3_ n4_ n5_ n6_; clear hb hbox hg))
     have n0_ := jM (jZ BK224.out)
     have n1_ := jM (jZ BK225.out)
     have n2_ := jM (jD HB.out)
     clear BK224
     clear BK225
     clear HB
     have BK224 := n0_
     have BK225 := n1_
     have HB := n2_
     clear n0_ n1_ n2_
     refine start_ (n := 14) (S := fun w' => w'.cell? ⟨gb224, 0, none⟩ = some (.slice A0_0 l0_0.length c0_0) ∧ w'.cell? ⟨gb224, 1, none⟩ = some (.slice A0_1 l0_1.length c0_1) ∧ w'.cell? ⟨gb224, 2, none⟩ = some (.slice A0_2 l0_2.length c0_2) ∧ w'.cell? ⟨gb224, 3, none⟩ = some (.slice A0_3 l0_3.length c0_3) ∧ w'.cell? ⟨gb224, 4, none⟩ = some (.int .i64 a0_4) ∧ w'.cell? ⟨gb225, 0, none⟩ = some (.int .i64 a1_0) ∧ w'.cell? ⟨gb225, 1, none⟩ = some (.int .i64 a1_1)) (ds := []) (tf 0 14) (by kernel_rfl) rfl rfl ⟨(jC BK224.out 0).trans rfl, (jC BK224.out 1).trans rfl, (jC BK224.out 2).trans rfl, (jC BK224.out 3).trans rfl, (jC BK224.out 4).trans rfl, (jC BK225.out 0).trans rfl, (jC BK225.out 1).trans rfl⟩ (fun hHeld => ?_); refine with_tabW syntagmref14_Behind.tab1 syntagmref14_Behind.bits1 (fun HT_ HW_ => ?_)
     generalize w17.drew = w18 at BK224 BK225 HB hHeld ⊢
     refine take_ (i := 0) (N := some 6) (v := ?_) (a' := ?_) (tf 1 13) rfl rfl (take_ofW HT_.out HW_.out (by kernel_rfl)) (fun _ _ _ h => h) (Or.inl ⟨by rfl, ?_⟩) hHeld ?_ ?_
     rotate_left
     ·rintro w' ⟨s0, s1, s2, s3, s4, s5, s6⟩;go_simp;with_reducible rfl
     rotate_left
     ·simp only [Act.put, sA, i64_w, i32_w];rfl
     refine take_ (i := 1) (N := some 7) (v := ?_) (a' := ?_) (tf 2 12) rfl rfl (take_ofW HT_.out HW_.out (by kernel_rfl)) (fun _ _ _ h => h) (Or.inl ⟨by rfl, ?_⟩) hHeld ?_ ?_
     rotate_left
     ·rintro w' ⟨s0, s1, s2, s3, s4, s5, s6⟩;go_simp;with_reducible rfl
     rotate_left
     ·simp only [Act.put, sA, i64_w, i32_w];rfl
     refine one_ (i := 2) (N := some 8) (tf 3 11) rfl rfl (one_of HT_.out (by kernel_rfl)) (by decide) (fun K hK => ?_)
     refine goes_ Tryd.func36 (by kernel_rfl) rfl #[.agg #[.slice A0_0 l0_0.length c0_0, .slice A0_1 l0_1.length c0_1, .slice A0_2 l0_2.length c0_2, .slice A0_3 l0_3.length c0_3, .int .i64 a0_4], .agg #[.int .i64 a1_0, .int .i64 a1_1]] (by rfl) rfl rfl (by (try simp only [List.map_toArray, List.map_cons, List.map_nil]); first | done | rfl | (simp only [List.length_drop, List.length_take]; rfl)) ?_
     with_reducible refine (syntagmref14_Is.calls _ _ l0_0 _ _ l0_1 _ _ l0_2 _ _ l0_3 a0_4 a1_0 a1_1 true _ ?side1 ?side2 ?side3 ?side4 ?side5 ?side6 ?side7 ?side8 A3.out).mono ?_
     (case side1 => repeat (first | exact (jB HR0_0.out HB.out) | (with_reducible refine Kd.C_alloc ?_ _) | (with_reducible refine Kd.C_drewN ?_ _) | (with_reducible refine Kd.C_drew ?_)))
     (case side2 => exact HC0_0.out)
     (case side3 => repeat (first | exact (jB HR0_1.out HB.out) | (with_reducible refine Kd.C_alloc ?_ _) | (with_reducible refine Kd.C_drewN ?_ _) | (with_reducible refine Kd.C_drew ?_)))
     (case side4 => exact HC0_1.out)
     (case side5 => repeat (first | exact (jB HR0_2.out HB.out) | (with_reducible refine Kd.C_alloc ?_ _) | (with_reducible refine Kd.C_drewN ?_ _) | (with_reducible refine Kd.C_drew ?_)))
     (case side6 => exact HC0_2.out)
     (case side7 => repeat (first | exact (jB HR0_3.out HB.out) | (with_reducible refine Kd.C_alloc ?_ _) | (with_reducible refine Kd.C_drewN ?_ _) | (with_reducible refine Kd.C_drew ?_)))
     (case side8 => exact HC0_3.out)
     rintro e w19 ⟨rfl, hb⟩
     refine ⟨_, rfl, ?_⟩
     have n0_ := jM (jW (g := gb224) (o := .cells #[.slice A0_0 l0_0.length c0_0, .slice A0_1 l0_1.length c0_1, .slice A0_2 l0_2.length c0_2, .slice A0_3 l0_3.length c0_3, .int .i64 a0_4] 27 (0, 0)) (by (with_reducible repeat (first | refine jY ?_ _ | refine jZ ?_ | refine jX ?_ _)); exact BK224.out) hb)
     have n1_ := jM (jW (g := gb225) (o := .cells #[.int .i64 a1_0, .int .i64 a1_1] 39 (0, 0)) (by (with_reducible repeat (first | refine jY ?_ _ | refine jZ ?_ | refine jX ?_ _)); exact BK225.out) hb)
     have n2_ := jM (jT (by repeat (first | (with_reducible first | exact HB.out | apply jA | apply jN | apply jD | refine jS ?_ GE224.out | refine jS ?_ GE225.out) | exact HB.out)) hb)
     clear BK224
     clear BK225
     clear HB
     have BK224 := n0_
     have BK225 := n1_
     have HB := n2_
     clear n0_ n1_ n2_
     (try clear hb)
     (try clear hb2)
     (try clear hk)
     (try clear hi)
     refine hK.out _ _ ⟨(jC BK224.out 0).trans rfl, (jC BK224.out 1).trans rfl, (jC BK224.out 2).trans rfl, (jC BK224.out 3).trans rfl, (jC BK224.out 4).trans rfl, (jC BK225.out 0).trans rfl, (jC BK225.out 1).trans rfl⟩ (fun hHeld => ?_)
     clear hK K
     refine norm_ (a' := ?_) ?_ ?_
     rotate_left
     ·show Act.put _ (some 8) _ = _
      simp only [Act.put, sA, i64_w, i32_w]
      rfl
     refine pure_ (i := 3) (N := some 9) (v := ?_) (a' := ?_) (tf 4 10) rfl rfl (any_of HT_.out (by kernel_rfl)) (fun _ _ _ h => h) (Or.inl ⟨by rfl, ?_⟩) ?_ ?_
     rotate_left
     ·intro w';go_simp;with_reducible rfl
     rotate_left
     ·simp only [Act.put, sA, i64_w, i32_w];rfl
     refine pure_ (i := 4) (N := some 10) (v := ?_) (a' := ?_) (tf 5 9) rfl rfl (any_of HT_.out (by kernel_rfl)) (fun _ _ _ h => h) (Or.inl ⟨by rfl, ?_⟩) ?_ ?_
     rotate_left
     ·intro w';go_simp;with_reducible rfl
     rotate_left
     ·simp only [Act.put, sA, i64_w, i32_w];rfl
     refine pure_ (i := 5) (N := some 11) (v := ?_) (a' := ?_) (tf 6 8) rfl rfl (any_of HT_.out (by kernel_rfl)) (fun _ _ _ h => h) (Or.inl ⟨by rfl, ?_⟩) ?_ ?_
     rotate_left
     ·intro w';go_simp;with_reducible rfl
     rotate_left
     ·simp only [Act.put, sA, i64_w, i32_w];rfl
     refine pure_ (i := 8) (N := some 14) (v := ?_) (a' := ?_) #[true, true, true, true, true, true, false, false, true, false, false, false, false, false] rfl rfl (any_of HT_.out (by kernel_rfl)) (fun _ _ _ h => h) (Or.inl ⟨by rfl, ?_⟩) ?_ ?_
     rotate_left
     ·intro w';go_simp;with_reducible rfl
     rotate_left
     ·simp only [Act.put, sA, i64_w, i32_w];rfl
     refine take_ (i := 6) (N := some 12) (v := ?_) (a' := ?_) #[true, true, true, true, true, true, true, false, true, false, false, false, false, false] rfl rfl (take_ofW HT_.out HW_.out (by kernel_rfl)) (fun _ _ _ h => h) (Or.inl ⟨by rfl, ?_⟩) hHeld ?_ ?_
     rotate_left
     ·rintro w' ⟨s0, s1, s2, s3, s4, s5, s6⟩;go_simp;with_reducible rfl
     rotate_left
     ·simp only [Act.put, sA, i64_w, i32_w];rfl
     refine take_ (i := 7) (N := some 13) (v := ?_) (a' := ?_) (tf 9 5) rfl rfl (take_ofW HT_.out HW_.out (by kernel_rfl)) (fun _ _ _ h => h) (Or.inl ⟨by rfl, ?_⟩) hHeld ?_ ?_
     rotate_left
     ·rintro w' ⟨s0, s1, s2, s3, s4, s5, s6⟩;go_simp;with_reducible rfl
     rotate_left
     ·simp only [Act.put, sA, i64_w, i32_w];rfl
     refine take_ (i := 9) (N := some 15) (v := ?_) (a' := ?_) (tf 10 4) rfl rfl (take_ofW HT_.out HW_.out (by kernel_rfl)) (fun _ _ _ h => h) (Or.inl ⟨by rfl, ?_⟩) hHeld ?_ ?_
     rotate_left
     ·rintro w' ⟨s0, s1, s2, s3, s4, s5, s6⟩;go_simp;with_reducible rfl
     rotate_left
     ·simp only [Act.put, sA, i64_w, i32_w];rfl
     refine one_ (i := 10) (N := some 16) (tf 11 3) rfl rfl (one_of HT_.out (by kernel_rfl)) (by decide) (fun K hK => ?_)
     refine goes_ Tryd.func37 (by kernel_rfl) rfl #[.agg #[.slice A0_0 l0_0.length c0_0, .slice A0_1 l0_1.length c0_1, .slice A0_2 l0_2.length c0_2, .slice A0_3 l0_3.length c0_3, .int .i64 a0_4], .int .i64 a1_0] (by rfl) rfl rfl (by (try simp only [List.map_toArray, List.map_cons, List.map_nil]); first | done | rfl | (simp only [List.length_drop, List.length_take]; rfl)) ?_
     with_reducible refine (syntagmref14_Right.calls _ _ l0_0 _ _ l0_1 _ _ l0_2 (fun k_ => k_ < w.heap.size) _ _ l0_3 a0_4 a1_0 t227 _ ?side1 ?side2 ?side3 ?side4 ?side5 ?side6 ?side7 A5.out).mono ?_
     (case side1 => repeat (first | exact (jB HR0_0.out HB.out) | (with_reducible refine Kd.C_alloc ?_ _) | (with_reducible refine Kd.C_drewN ?_ _) | (with_reducible refine Kd.C_drew ?_)))
     (case side2 => exact HC0_0.out)
     (case side3 => repeat (first | exact (jB HR0_1.out HB.out) | (with_reducible refine Kd.C_alloc ?_ _) | (with_reducible refine Kd.C_drewN ?_ _) | (with_reducible refine Kd.C_drew ?_)))
     (case side4 => exact HC0_1.out)
     (case side5 => repeat (first | exact (jB HR0_2.out HB.out) | (with_reducible refine Kd.C_alloc ?_ _) | (with_reducible refine Kd.C_drewN ?_ _) | (with_reducible refine Kd.C_drew ?_)))
     (case side6 => exact HC0_2.out)
     (case side7 => exact Kd.V_mk HC0_3.out (Kd.F_below (Kd.C_F k64_heap HR0_3.out) (by repeat (first | (with_reducible first | exact HB.out | apply jA | apply jN | apply jD | refine jS ?_ GE224.out | refine jS ?_ GE225.out) | exact HB.out))))
     rintro e w20 ⟨v228, rfl, ho0, hb⟩
     refine ⟨_, rfl, ?_⟩
     have n0_ := jM (Kd.V_lower (Kd.V_mono (ok' := fun k_ => k_ ≠ gb224 ∧ k_ ≠ gb225) ho0 (fun k_ hk_ => ⟨Or.elim hk_ (fun hs_ => fun e_ => Nat.not_le.2 hs_ (by rw [e_]; exact GW224.out)) (fun hn_ => (Kd.freshB (g := gb224) (o := .cells #[.slice A0_0 l0_0.length c0_0, .slice A0_1 l0_1.length c0_1, .slice A0_2 l0_2.length c0_2, .slice A0_3 l0_3.length c0_3, .int .i64 a0_4] 27 (0, 0)) (by (with_reducible repeat (first | refine jY ?_ _ | refine jZ ?_ | refine jX ?_ _)); exact BK224.out) k_ hn_)), Or.elim hk_ (fun hs_ => fun e_ => Nat.not_le.2 hs_ (by rw [e_]; exact GW225.out)) (fun hn_ => (Kd.freshB (g := gb225) (o := .cells #[.int .i64 a1_0, .int .i64 a1_1] 39 (0, 0)) (by (with_reducible repeat (first | refine jY ?_ _ | refine jZ ?_ | refine jX ?_ _)); exact BK225.out) k_ hn_))⟩)) (below_size (by repeat (first | (with_reducible first | exact HB.out | apply jA | apply jN | apply jD | refine jS ?_ GE224.out | refine jS ?_ GE225.out) | exact HB.out))))
     have n1_ := jM (jW (g := gb224) (o := .cells #[.slice A0_0 l0_0.length c0_0, .slice A0_1 l0_1.length c0_1, .slice A0_2 l0_2.length c0_2, .slice A0_3 l0_3.length c0_3, .int .i64 a0_4] 27 (0, 0)) (by (with_reducible repeat (first | refine jY ?_ _ | refine jZ ?_ | refine jX ?_ _)); exact BK224.out) hb)
     have n2_ := jM (jW (g := gb225) (o := .cells #[.int .i64 a1_0, .int .i64 a1_1] 39 (0, 0)) (by (with_reducible repeat (first | refine jY ?_ _ | refine jZ ?_ | refine jX ?_ _)); exact BK225.out) hb)
     have n3_ := jM (jT (by repeat (first | (with_reducible first | exact HB.out | apply jA | apply jN | apply jD | refine jS ?_ GE224.out | refine jS ?_ GE225.out) | exact HB.out)) hb)
     clear BK224
     clear BK225
     clear HB
     have HO229 := n0_
     have BK224 := n1_
     have BK225 := n2_
     have HB := n3_
     clear n0_ n1_ n2_ n3_
     (try clear hb)
     (try clear hb2)
     (try clear hk)
     (try clear hi)
     (try clear ho0)
     obtain ⟨Ao21, co21, eo21⟩ := Kd.V_slice HO229.out
     (first | subst eo21 | (injection eo21 with f1_ f2_ f3_; have f4_ := f1_.symm; have f5_ := f3_.symm; clear f1_ f2_ f3_; subst f4_; subst f5_))
     refine hK.out _ _ ⟨(jC BK224.out 0).trans rfl, (jC BK224.out 1).trans rfl, (jC BK224.out 2).trans rfl, (jC BK224.out 3).trans rfl, (jC BK224.out 4).trans rfl, (jC BK225.out 0).trans rfl, (jC BK225.out 1).trans rfl⟩ (fun hHeld => ?_)
     clear hK K
     refine norm_ (a' := ?_) ?_ ?_
     rotate_left
     ·show Act.put _ (some 16) _ = _
      simp only [Act.put, sA, i64_w, i32_w]
      rfl
     refine pure_ (i := 11) (N := some 17) (v := ?_) (a' := ?_) (tf 12 2) rfl rfl (any_of HT_.out (by kernel_rfl)) (fun _ _ _ h => h) (Or.inl ⟨by rfl, ?_⟩) ?_ ?_
     rotate_left
     ·intro w';go_simp;with_reducible rfl
     rotate_left
     ·simp only [Act.put, sA, i64_w, i32_w];rfl
     refine pure_ (i := 12) (N := some 18) (v := ?_) (a' := ?_) (tf 13 1) rfl rfl (any_of HT_.out (by kernel_rfl)) (fun _ _ _ h => h) (Or.inl ⟨by rfl, ?_⟩) ?_ ?_
     rotate_left
     ·intro w';go_simp;with_reducible rfl
     rotate_left
     ·simp only [Act.put, sA, i64_w, i32_w];rfl
     refine pure_ (i := 13) (N := some 19) (v := ?_) (a' := ?_) (tf 14 0) rfl rfl (any_of HT_.out (by kernel_rfl)) (fun _ _ _ h => h) (Or.inl ⟨by rfl, ?_⟩) ?_ ?_
     rotate_left
     ·intro w';go_simp;with_reducible rfl
     rotate_left
     ·simp only [Act.put, sA, i64_w, i32_w];rfl
     refine done_ (done_of HT_.out (by kernel_rfl)) ?_
     try go_wp2
     have x0 := jC BK224.out 0
     have x1 := jC BK224.out 1
     have x2 := jC BK224.out 2
     have x3 := jC BK224.out 3
     have x4 := jC BK224.out 4
     have v0 := jC BK225.out 0
     have v1 := jC BK225.out 1
     simp only [List.getElem?_toArray, List.getElem?_cons_zero, List.getElem?_cons_succ] at x0 x1 x2 x3 x4 v0 v1
     have hlt : a1_1 < (t230.length : Int) := of_decide_eq_true c15b0
     have hge : 0 ≤ a1_1 := of_decide_eq_true c14b0
     go_region_with (go_at_call 37; (with_reducible refine (syntagmref14_Right.calls _ _ l0_0 _ _ l0_1 _ _ l0_2 (fun k_ => k_ < w.heap.size) _ _ l0_3 a0_4 a1_0 t230 _ (jB HR0_0.out (by repeat (first | exact HB.out | apply jD | apply jN))) HC0_0.out (jB HR0_1.out (by repeat (first | exact HB.out | apply jD | apply jN))) HC0_1.out (jB HR0_2.out (by repeat (first | exact HB.out | apply jD | apply jN))) HC0_2.out (Kd.V_mk HC0_3.out (Kd.F_below (Kd.C_F k64_heap HR0_3.out) (by repeat (first | exact HB.out | apply jD | apply jN)))) A13.out).mono ?_); rintro e wz ⟨v231, rfl, ho0, hb⟩; obtain ⟨Ao24, co24, eo24⟩ := Kd.V_slice ho0; subst eo24; obtain ⟨ad233, e233, hx233_0⟩ := Kd.at_int (Kd.V_reads' ho0).2.2 a1_1 hge hlt; cases e233; have y224 := jW (g := gb224) (o := .cells #[.slice A0_0 l0_0.length c0_0, .slice A0_1 l0_1.length c0_1, .slice A0_2 l0_2.length c0_2, .slice A0_3 l0_3.length c0_3, .int .i64 a0_4] 27 (0, 0)) (by repeat (first | exact BK224.out | refine jZ ?_ | refine jY ?_ _)) hb; have y225 := jW (g := gb225) (o := .cells #[.int .i64 a1_0, .int .i64 a1_1] 39 (0, 0)) (by repeat (first | exact BK225.out | refine jZ ?_ | refine jY ?_ _)) hb; have y0 := jC y224 0; have y1 := jC y224 1; have y2 := jC y224 2; have y3 := jC y224 3; have y4 := jC y224 4; have z0 := jC y225 0; have z1 := jC y225 1; have HB2 := jM (jT (by repeat (first | exact HB.out | apply jD | apply jN)) hb); clear hb ho0 y224 y225)
     all_goals go_wp2_with fail
     all_goals go_ret2
     all_goals exact ⟨rfl, by repeat (first | exact HB2.out | apply jD | apply jN)⟩
    ·rw [if_neg c15] at H
     exact absurd H (by simp)
   ·rw [if_neg c14] at H
    exact absurd H (by simp)
 ·replace c4 := Bool.eq_false_iff.mpr c4
  subst c4
  have H1 : (some (0, false)) = some (r1, r2) := by rw [if_neg (show ¬ (false = true) by decide)] at H; exact H
  clear H
  have H := H1
  clear H1
  simp only [Option.some.injEq, Prod.mk.injEq] at H
  obtain ⟨rfl, rfl⟩ := H
  go_enter Tryd.func16, Tryd.ntmps16
  try go_wp2_with (first | ((with_reducible refine gate_dst (N := 2) rfl ?_); (try (refine gate_guard (by rfl) ?_; dsimp only)); refine box_event ?hg (N := 2) ?hd (cs := #[.slice A0_0 l0_0.length c0_0, .slice A0_1 l0_1.length c0_1, .slice A0_2 l0_2.length c0_2, .slice A0_3 l0_3.length c0_3, .int .i64 a0_4]) (t := 27) ?hr ?_; (case hd => rfl); (case hg => rfl); (case hr => first | (go_simp; done) | (go_simp; rfl)); intro gb224 hg w25 hbox hb; have n0_ := jM (jT (by repeat (first | (with_reducible first | exact HB.out | apply jA | apply jN | apply jD) | exact HB.out)) hb); have n1_ := jM (hbox); have n2_ := jM ((by rw [hg]; exact (below_size (by repeat (first | (with_reducible first | exact HB.out | apply jA | apply jN | apply jD) | exact HB.out))) : w.heap.size ≤ gb224)); have n3_ := jM ((by rw [hg]; exact (below_size (by repeat (first | (with_reducible first | exact HB.out | apply jA | apply jN | apply jD) | exact HB.out))) : w.heap.size ≤ gb224)); clear HB; have HB := n0_; have BK224 := n1_; have GW224 := n2_; have GE224 := n3_; clear n0_ n1_ n2_ n3_; clear hb hbox hg) | ((with_reducible refine gate_dst (N := 3) rfl ?_); (try (refine gate_guard (by rfl) ?_; dsimp only)); refine box_event ?hg (N := 3) ?hd (cs := #[.int .i64 a1_0, .int .i64 a1_1]) (t := 39) ?hr ?_; (case hd => rfl); (case hg => rfl); (case hr => first | (go_simp; done) | (go_simp; rfl)); intro gb225 hg w26 hbox hb; have n0_ := jM (jW (g := gb224) (o := .cells #[.slice A0_0 l0_0.length c0_0, .slice A0_1 l0_1.length c0_1, .slice A0_2 l0_2.length c0_2, .slice A0_3 l0_3.length c0_3, .int .i64 a0_4] 27 (0, 0)) (by (with_reducible repeat (first | refine jY ?_ _ | refine jZ ?_ | refine jX ?_ _)); exact BK224.out) hb); have n1_ := jM (jT (by repeat (first | (with_reducible first | exact HB.out | apply jA | apply jN | apply jD | refine jS ?_ GE224.out) | exact HB.out)) hb); have n2_ := jM (hbox); have n3_ := jM ((by rw [hg]; exact (below_size (by repeat (first | (with_reducible first | exact HB.out | apply jA | apply jN | apply jD | refine jS ?_ GE224.out) | exact HB.out))) : w.heap.size ≤ gb225)); have n4_ := jM ((by rw [hg]; exact (below_size (by repeat (first | (with_reducible first | exact HB.out | apply jA | apply jN | apply jD | refine jS ?_ GE224.out) | exact HB.out))) : w.heap.size ≤ gb225)); have n5_ := jM ((by rw [hg]; exact Nat.ne_of_lt (blk_lt (g := gb224) (o := .cells #[.slice A0_0 l0_0.length c0_0, .slice A0_1 l0_1.length c0_1, .slice A0_2 l0_2.length c0_2, .slice A0_3 l0_3.length c0_3, .int .i64 a0_4] 27 (0, 0)) (by (with_reducible repeat (first | refine jY ?_ _ | refine jZ ?_ | refine jX ?_ _)); exact BK224.out)) : gb224 ≠ gb225)); have n6_ := jM ((by rw [hg]; exact Nat.ne_of_gt (blk_lt (g := gb224) (o := .cells #[.slice A0_0 l0_0.length c0_0, .slice A0_1 l0_1.length c0_1, .slice A0_2 l0_2.length c0_2, .slice A0_3 l0_3.length c0_3, .int .i64 a0_4] 27 (0, 0)) (by (with_reducible repeat (first | refine jY ?_ _ | refine jZ ?_ | refine jX ?_ _)); exact BK224.out)) : gb225 ≠ gb224)); clear BK224; clear HB; have BK224 := n0_; have HB := n1_; have BK225 := n2_; have GW225 := n3_; have GE225 := n4_; have NB224_225 := n5_; have NB225_224 := n6_; clear n0_ n1_ n2_ n3_ n4_ n5_ n6_; clear hb hbox hg))
  have n0_ := jM (jZ BK224.out)
  have n1_ := jM (jZ BK225.out)
  have n2_ := jM (jD HB.out)
  clear BK224
  clear BK225
  clear HB
  have BK224 := n0_
  have BK225 := n1_
  have HB := n2_
  clear n0_ n1_ n2_
  refine start_ (n := 14) (S := fun w' => w'.cell? ⟨gb224, 0, none⟩ = some (.slice A0_0 l0_0.length c0_0) ∧ w'.cell? ⟨gb224, 1, none⟩ = some (.slice A0_1 l0_1.length c0_1) ∧ w'.cell? ⟨gb224, 2, none⟩ = some (.slice A0_2 l0_2.length c0_2) ∧ w'.cell? ⟨gb224, 3, none⟩ = some (.slice A0_3 l0_3.length c0_3) ∧ w'.cell? ⟨gb224, 4, none⟩ = some (.int .i64 a0_4) ∧ w'.cell? ⟨gb225, 0, none⟩ = some (.int .i64 a1_0) ∧ w'.cell? ⟨gb225, 1, none⟩ = some (.int .i64 a1_1)) (ds := []) (tf 0 14) (by kernel_rfl) rfl rfl ⟨(jC BK224.out 0).trans rfl, (jC BK224.out 1).trans rfl, (jC BK224.out 2).trans rfl, (jC BK224.out 3).trans rfl, (jC BK224.out 4).trans rfl, (jC BK225.out 0).trans rfl, (jC BK225.out 1).trans rfl⟩ (fun hHeld => ?_); refine with_tabW syntagmref14_Behind.tab1 syntagmref14_Behind.bits1 (fun HT_ HW_ => ?_)
  generalize w26.drew = w27 at BK224 BK225 HB hHeld ⊢
  refine take_ (i := 0) (N := some 6) (v := ?_) (a' := ?_) (tf 1 13) rfl rfl (take_ofW HT_.out HW_.out (by kernel_rfl)) (fun _ _ _ h => h) (Or.inl ⟨by rfl, ?_⟩) hHeld ?_ ?_
  rotate_left
  ·rintro w' ⟨s0, s1, s2, s3, s4, s5, s6⟩;go_simp;with_reducible rfl
  rotate_left
  ·simp only [Act.put, sA, i64_w, i32_w];rfl
  refine take_ (i := 1) (N := some 7) (v := ?_) (a' := ?_) (tf 2 12) rfl rfl (take_ofW HT_.out HW_.out (by kernel_rfl)) (fun _ _ _ h => h) (Or.inl ⟨by rfl, ?_⟩) hHeld ?_ ?_
  rotate_left
  ·rintro w' ⟨s0, s1, s2, s3, s4, s5, s6⟩;go_simp;with_reducible rfl
  rotate_left
  ·simp only [Act.put, sA, i64_w, i32_w];rfl
  refine one_ (i := 2) (N := some 8) (tf 3 11) rfl rfl (one_of HT_.out (by kernel_rfl)) (by decide) (fun K hK => ?_)
  refine goes_ Tryd.func36 (by kernel_rfl) rfl #[.agg #[.slice A0_0 l0_0.length c0_0, .slice A0_1 l0_1.length c0_1, .slice A0_2 l0_2.length c0_2, .slice A0_3 l0_3.length c0_3, .int .i64 a0_4], .agg #[.int .i64 a1_0, .int .i64 a1_1]] (by rfl) rfl rfl (by (try simp only [List.map_toArray, List.map_cons, List.map_nil]); first | done | rfl | (simp only [List.length_drop, List.length_take]; rfl)) ?_
  with_reducible refine (syntagmref14_Is.calls _ _ l0_0 _ _ l0_1 _ _ l0_2 _ _ l0_3 a0_4 a1_0 a1_1 false _ ?side1 ?side2 ?side3 ?side4 ?side5 ?side6 ?side7 ?side8 A3.out).mono ?_
  (case side1 => repeat (first | exact (jB HR0_0.out HB.out) | (with_reducible refine Kd.C_alloc ?_ _) | (with_reducible refine Kd.C_drewN ?_ _) | (with_reducible refine Kd.C_drew ?_)))
  (case side2 => exact HC0_0.out)
  (case side3 => repeat (first | exact (jB HR0_1.out HB.out) | (with_reducible refine Kd.C_alloc ?_ _) | (with_reducible refine Kd.C_drewN ?_ _) | (with_reducible refine Kd.C_drew ?_)))
  (case side4 => exact HC0_1.out)
  (case side5 => repeat (first | exact (jB HR0_2.out HB.out) | (with_reducible refine Kd.C_alloc ?_ _) | (with_reducible refine Kd.C_drewN ?_ _) | (with_reducible refine Kd.C_drew ?_)))
  (case side6 => exact HC0_2.out)
  (case side7 => repeat (first | exact (jB HR0_3.out HB.out) | (with_reducible refine Kd.C_alloc ?_ _) | (with_reducible refine Kd.C_drewN ?_ _) | (with_reducible refine Kd.C_drew ?_)))
  (case side8 => exact HC0_3.out)
  rintro e w28 ⟨rfl, hb⟩
  refine ⟨_, rfl, ?_⟩
  have n0_ := jM (jW (g := gb224) (o := .cells #[.slice A0_0 l0_0.length c0_0, .slice A0_1 l0_1.length c0_1, .slice A0_2 l0_2.length c0_2, .slice A0_3 l0_3.length c0_3, .int .i64 a0_4] 27 (0, 0)) (by (with_reducible repeat (first | refine jY ?_ _ | refine jZ ?_ | refine jX ?_ _)); exact BK224.out) hb)
  have n1_ := jM (jW (g := gb225) (o := .cells #[.int .i64 a1_0, .int .i64 a1_1] 39 (0, 0)) (by (with_reducible repeat (first | refine jY ?_ _ | refine jZ ?_ | refine jX ?_ _)); exact BK225.out) hb)
  have n2_ := jM (jT (by repeat (first | (with_reducible first | exact HB.out | apply jA | apply jN | apply jD | refine jS ?_ GE224.out | refine jS ?_ GE225.out) | exact HB.out)) hb)
  clear BK224
  clear BK225
  clear HB
  have BK224 := n0_
  have BK225 := n1_
  have HB := n2_
  clear n0_ n1_ n2_
  (try clear hb)
  (try clear hb2)
  (try clear hk)
  (try clear hi)
  refine hK.out _ _ ⟨(jC BK224.out 0).trans rfl, (jC BK224.out 1).trans rfl, (jC BK224.out 2).trans rfl, (jC BK224.out 3).trans rfl, (jC BK224.out 4).trans rfl, (jC BK225.out 0).trans rfl, (jC BK225.out 1).trans rfl⟩ (fun hHeld => ?_)
  clear hK K
  refine norm_ (a' := ?_) ?_ ?_
  rotate_left
  ·show Act.put _ (some 8) _ = _
   simp only [Act.put, sA, i64_w, i32_w]
   rfl
  refine pure_ (i := 3) (N := some 9) (v := ?_) (a' := ?_) (tf 4 10) rfl rfl (any_of HT_.out (by kernel_rfl)) (fun _ _ _ h => h) (Or.inl ⟨by rfl, ?_⟩) ?_ ?_
  rotate_left
  ·intro w';go_simp;with_reducible rfl
  rotate_left
  ·simp only [Act.put, sA, i64_w, i32_w];rfl
  refine pure_ (i := 4) (N := some 10) (v := ?_) (a' := ?_) (tf 5 9) rfl rfl (any_of HT_.out (by kernel_rfl)) (fun _ _ _ h => h) (Or.inl ⟨by rfl, ?_⟩) ?_ ?_
  rotate_left
  ·intro w';go_simp;with_reducible rfl
  rotate_left
  ·simp only [Act.put, sA, i64_w, i32_w];rfl
  refine pure_ (i := 5) (N := some 11) (v := undef) (a' := ?_) (tf 6 8) rfl rfl (any_of HT_.out (by kernel_rfl)) (fun _ _ _ h => h) (Or.inr ⟨by rfl, rfl⟩) ?_ ?_
  rotate_left
  ·simp only [Act.put, sA, i64_w, i32_w];rfl
  refine pure_ (i := 6) (N := some 12) (v := undef) (a' := ?_) (tf 7 7) rfl rfl (any_of HT_.out (by kernel_rfl)) (fun _ _ _ h => h) (Or.inr ⟨by rfl, rfl⟩) ?_ ?_
  rotate_left
  ·simp only [Act.put, sA, i64_w, i32_w];rfl
  refine pure_ (i := 7) (N := some 13) (v := undef) (a' := ?_) (tf 8 6) rfl rfl (any_of HT_.out (by kernel_rfl)) (fun _ _ _ h => h) (Or.inr ⟨by rfl, rfl⟩) ?_ ?_
  rotate_left
  ·simp only [Act.put, sA, i64_w, i32_w];rfl
  refine pure_ (i := 8) (N := some 14) (v := undef) (a' := ?_) (tf 9 5) rfl rfl (any_of HT_.out (by kernel_rfl)) (fun _ _ _ h => h) (Or.inr ⟨by rfl, rfl⟩) ?_ ?_
  rotate_left
  ·simp only [Act.put, sA, i64_w, i32_w];rfl
  refine pure_ (i := 9) (N := some 15) (v := undef) (a' := ?_) (tf 10 4) rfl rfl (any_of HT_.out (by kernel_rfl)) (fun _ _ _ h => h) (Or.inr ⟨by rfl, rfl⟩) ?_ ?_
  rotate_left
  ·simp only [Act.put, sA, i64_w, i32_w];rfl
  refine pure_ (i := 10) (N := some 16) (v := undef) (a' := ?_) (tf 11 3) rfl rfl (any_of HT_.out (by kernel_rfl)) (fun _ _ _ h => h) (Or.inr ⟨by rfl, rfl⟩) ?_ ?_
  rotate_left
  ·simp only [Act.put, sA, i64_w, i32_w];rfl
  refine pure_ (i := 11) (N := some 17) (v := undef) (a' := ?_) (tf 12 2) rfl rfl (any_of HT_.out (by kernel_rfl)) (fun _ _ _ h => h) (Or.inr ⟨by rfl, rfl⟩) ?_ ?_
  rotate_left
  ·simp only [Act.put, sA, i64_w, i32_w];rfl
  refine pure_ (i := 12) (N := some 18) (v := undef) (a' := ?_) (tf 13 1) rfl rfl (any_of HT_.out (by kernel_rfl)) (fun _ _ _ h => h) (Or.inr ⟨by rfl, rfl⟩) ?_ ?_
  rotate_left
  ·simp only [Act.put, sA, i64_w, i32_w];rfl
  refine pure_ (i := 13) (N := some 19) (v := ?_) (a' := ?_) (tf 14 0) rfl rfl (any_of HT_.out (by kernel_rfl)) (fun _ _ _ h => h) (Or.inl ⟨by rfl, ?_⟩) ?_ ?_
  rotate_left
  ·intro w';go_simp;with_reducible rfl
  rotate_left
  ·simp only [Act.put, sA, i64_w, i32_w];rfl
  refine done_ (done_of HT_.out (by kernel_rfl)) ?_
  try go_wp2
  go_ret2
  exact ⟨by first | rfl | (simp [errW_none, errW_some] <;> rfl) | (simp [*, errW_none, errW_some] <;> rfl), by repeat (first | (with_reducible first | exact HB.out | apply jA | apply jN | apply jD | refine jS ?_ GE224.out | refine jS ?_ GE225.out) | exact HB.out)⟩

end Go.Proofs.YtclollnicbcooaaDoor.P
end

section
namespace Go.Proofs.YtclollnicbcooaaDoor.P
open Go.RowKit Go.Proofs.YtclollnicbcooaaDoorW.PrintWords Go.Proofs.YtclollnicbcooaaDoorW.PrintLast Go.Proofs.YtclollnicbcooaaDoorW.PrintMore
attribute [local go_sem] max2_int min2_int max_two min_two max_three min_three max_four min_four

theorem eqA39 (d : Nat) (w : World) (x0 y0 : Int) (x1 y1 : Int) :
  (Op.equalIn (d + 2) 39 (.agg #[.int .i64 x0, .int .i64 x1]) (.agg #[.int .i64 y0, .int .i64 y1])).run Tryd.prog w = .ok (x0 == y0 && (x1 == y1)) w := by
 refine eqA_of Tryd.underlying39 (by kernel_rfl) ?_
 refine eqf_cons (by rfl) (by go_simp; rfl) (by go_simp; rfl) (by go_simp) ?_
 exact eqf_last (by rfl) (by go_simp; rfl) (by go_simp; rfl) (by go_simp)
end Go.Proofs.YtclollnicbcooaaDoor.P
end

section
namespace Go.Proofs.YtclollnicbcooaaDoor.P
open Go.RowKit Go.Proofs.YtclollnicbcooaaDoorW.PrintWords Go.Proofs.YtclollnicbcooaaDoorW.PrintLast Go.Proofs.YtclollnicbcooaaDoorW.PrintMore
attribute [local go_sem] max2_int min2_int max_two min_two max_three min_three max_four min_four

attribute [local go_sem high] eqA39
/-! ### syntagmref14_Row: function 17 -/
def syntagmref14_Row.l0 : Nat → List (S39) → List (S39) → Int → Option (Bool)
 | 0, _, _, _ => none
 | k + 1, x0, x1, x5 => if x5 < (x0.length : Int) then (if 0 ≤ x5 then (if x5 < (x1.length : Int) then (if (!(((rd_T39 x0 x5).f0) == ((rd_T39 x1 x5).f0)) || (!(((rd_T39 x0 x5).f1) == ((rd_T39 x1 x5).f1)))) = true then (some false) else (syntagmref14_Row.l0 k x0 x1 (wrap64 (x5 + 1)))) else (none)) else (none)) else (some true)
def syntagmref14_Row.f (k : Nat) (l0 : List (S39)) (l1 : List (S39)) : Option (Bool) := if (l0.length : Int) = (l1.length : Int) then (syntagmref14_Row.l0 k l0 l1 0) else (some false)
set_option maxHeartbeats 8000000 in
set_option maxRecDepth 100000 in
theorem syntagmref14_Row.calls (k : Nat) (A0 : Option Addr) (c0 : Nat) (l0 : List (S39)) (A1 : Option Addr) (c1 : Nat) (l1 : List (S39)) (r : Bool) (w : World) (hr0 : Kd.C k39 w A0 l0.length l0) (hc0 : l0.length ≤ c0) (hr1 : Kd.C k39 w A1 l1.length l1) (hc1 : l1.length ≤ c1) (h : syntagmref14_Row.f k l0 l1 = some r) :
  Calls Tryd.prog 17 #[.slice A0 l0.length c0, .slice A1 l1.length c1] w fun e w' => e = .returned (.bool r) ∧ Drawn0 w w' := by
 have hu39 := Tryd.underlying39
 have HR0 := jM hr0
 have HC0 := jM hc0
 clear hr0 hc0
 have HR1 := jM hr1
 have HC1 := jM hc1
 clear hr1 hc1
 have H : (if (l0.length : Int) = (l1.length : Int) then (syntagmref14_Row.l0 k l0 l1 0) else (some false)) = some r := h
 clear h
 by_cases c3 : (l0.length : Int) = (l1.length : Int)
 ·rw [if_pos c3] at H
  have c3b0 : ((l0.length : Int) == (l1.length : Int)) = true := beq_iff_eq.mpr c3
  have c3b1 : ((l0.length : Int) != (l1.length : Int)) = false := bne_eq_false_iff_eq.mpr c3
  have c3b2 : (l0.length == l1.length) = true := by first | simpa using c3 | (simp at c3 ⊢; omega)
  clear c3
  have H' := jM H
  clear H
  go_enter Tryd.func17, Tryd.ntmps17
  go_wp2
  repeat (go_quiet (fail); try go_wp2)
  go_loopg [5] k (fun kq v5 w' => ∃ (x5_1 : Int), v5 = .int .i64 x5_1 ∧ Aside0 (syntagmref14_Row.l0 kq l0 l1 x5_1 = some r) ∧ Aside0 (kq ≤ k) ∧ Drawn0 w w')
  case atStart => exact ⟨(0), (by first | rfl | (simp; done) | (simp [*]; done)), H', ⟨Nat.le_refl _⟩, by repeat (first | exact Drawn0.refl _ | apply Drawn0.step)⟩
  case round =>
   clear H'
   try clear c1
   try clear p2
   try clear c3
   try clear c3b0
   try clear c3b1
   try clear c3b2
   obtain ⟨x5_1, rfl, HA, HK1, ⟨m1, rfl⟩⟩ := hrel
   cases gk with
   | zero => exact absurd HA.out (by simp [syntagmref14_Row.l0])
   | succ k1 =>
    have H := HA.out
    clear HA
    simp only [syntagmref14_Row.l0] at H
    by_cases c4 : x5_1 < (l0.length : Int)
    ·rw [if_pos c4] at H
     have c4b0 : decide (x5_1 < (l0.length : Int)) = true := decide_eq_true c4
     clear c4
     by_cases c5 : 0 ≤ x5_1
     ·rw [if_pos c5] at H
      have c5b0 : decide (0 ≤ x5_1) = true := decide_eq_true c5
      clear c5
      by_cases c6 : x5_1 < (l1.length : Int)
      ·rw [if_pos c6] at H
       have c6b0 : decide (x5_1 < (l1.length : Int)) = true := decide_eq_true c6
       clear c6
       by_cases c7 : (!(((rd_T39 l0 x5_1).f0) == ((rd_T39 l1 x5_1).f0)) || (!(((rd_T39 l0 x5_1).f1) == ((rd_T39 l1 x5_1).f1)))) = true
       ·rw [if_pos c7] at H
        have c7b0 : (!(((rd_T39 l0 x5_1).f0) == ((rd_T39 l1 x5_1).f0)) || (!(((rd_T39 l0 x5_1).f1) == ((rd_T39 l1 x5_1).f1)))) = true := c7
        clear c7
        obtain rfl := Option.some.inj H
        have p234 : 0 ≤ (x5_1 : Int) := of_decide_eq_true (by first | (with_reducible assumption) | assumption)
        have q234 : x5_1 < (l0.length : Int) := of_decide_eq_true (by first | (with_reducible assumption) | assumption)
        obtain ⟨ad234, e234, hx234_0, hx234_1⟩ := at_T39 HR0.out x5_1 p234 q234
        cases e234
        replace p234 := eq_true p234
        replace q234 := eq_true q234
        have p235 : 0 ≤ (x5_1 : Int) := of_decide_eq_true (by first | (with_reducible assumption) | assumption)
        have q235 : x5_1 < (l1.length : Int) := of_decide_eq_true (by first | (with_reducible assumption) | assumption)
        obtain ⟨ad235, e235, hx235_0, hx235_1⟩ := at_T39 HR1.out x5_1 p235 q235
        cases e235
        replace p235 := eq_true p235
        replace q235 := eq_true q235
        go_wp2
        repeat (go_quiet (fail); try go_wp2)
        go_ret
        exact ⟨by first | rfl | (simp; done) | (simp [*]; done), by repeat (first | exact Drawn0.refl _ | apply Drawn0.step)⟩
       ·rw [if_neg c7] at H
        have c7b0 : (!(((rd_T39 l0 x5_1).f0) == ((rd_T39 l1 x5_1).f0)) || (!(((rd_T39 l0 x5_1).f1) == ((rd_T39 l1 x5_1).f1)))) = false := by simpa using c7
        clear c7
        have H' := jM H
        clear H
        have p234 : 0 ≤ (x5_1 : Int) := of_decide_eq_true (by first | (with_reducible assumption) | assumption)
        have q234 : x5_1 < (l0.length : Int) := of_decide_eq_true (by first | (with_reducible assumption) | assumption)
        obtain ⟨ad234, e234, hx234_0, hx234_1⟩ := at_T39 HR0.out x5_1 p234 q234
        cases e234
        replace p234 := eq_true p234
        replace q234 := eq_true q234
        have p235 : 0 ≤ (x5_1 : Int) := of_decide_eq_true (by first | (with_reducible assumption) | assumption)
        have q235 : x5_1 < (l1.length : Int) := of_decide_eq_true (by first | (with_reducible assumption) | assumption)
        obtain ⟨ad235, e235, hx235_0, hx235_1⟩ := at_T39 HR1.out x5_1 p235 q235
        cases e235
        replace p235 := eq_true p235
        replace q235 := eq_true q235
        go_wp2
        repeat (go_quiet (fail); try go_wp2)
        go_roundg k1
        case measure => have := HK1.out; omega
        case rel => exact ⟨(wrap64 (x5_1 + 1)), (by first | rfl | (simp; done) | (simp [*]; done)), H', ⟨by have := HK1.out; omega⟩, by repeat (first | exact Drawn0.refl _ | apply Drawn0.step)⟩
      ·rw [if_neg c6] at H
       exact absurd H (by simp)
     ·rw [if_neg c5] at H
      exact absurd H (by simp)
    ·rw [if_neg c4] at H
     have c4b0 : decide (x5_1 < (l0.length : Int)) = false := decide_eq_false c4
     clear c4
     obtain rfl := Option.some.inj H
     go_wp2
     repeat (go_quiet (fail); try go_wp2)
     go_ret
     exact ⟨by first | rfl | (simp; done) | (simp [*]; done), by repeat (first | exact Drawn0.refl _ | apply Drawn0.step)⟩
 ·rw [if_neg c3] at H
  have c3b0 : ((l0.length : Int) == (l1.length : Int)) = false := beq_eq_false_iff_ne.mpr c3
  have c3b1 : ((l0.length : Int) != (l1.length : Int)) = true := bne_iff_ne.mpr c3
  have c3b2 : (l0.length == l1.length) = false := by first | simpa using c3 | (simp at c3 ⊢; omega)
  obtain rfl := Option.some.inj H
  go_enter Tryd.func17, Tryd.ntmps17
  go_wp2
  repeat (go_quiet (fail); try go_wp2)
  go_ret
  exact ⟨by first | rfl | (simp; done) | (simp [*]; done), by repeat (first | exact Drawn0.refl _ | apply Drawn0.step)⟩

/-! ### syntagmref14_has: function 39 -/
def syntagmref14_has.l0 : Nat → List (S39) → Int → Int → Int → Option (Bool)
 | 0, _, _, _, _ => none
 | k + 1, x0, x5, x237000, x237001 => if x5 < (x0.length : Int) then (if 0 ≤ x5 then (if (((rd_T39 x0 x5).f0) == x237000 && (((rd_T39 x0 x5).f1) == x237001)) = true then (some true) else (syntagmref14_has.l0 k x0 (wrap64 (x5 + 1)) x237000 x237001)) else (none)) else (some false)
def syntagmref14_has.f (k : Nat) (l0 : List (S39)) (a1_0 : Int) (a1_1 : Int) : Option (Bool) := syntagmref14_has.l0 k l0 0 a1_0 a1_1
set_option maxHeartbeats 8000000 in
set_option maxRecDepth 100000 in
theorem syntagmref14_has.calls (k : Nat) (A0 : Option Addr) (c0 : Nat) (l0 : List (S39)) (a1_0 : Int) (a1_1 : Int) (r : Bool) (w : World) (hr0 : Kd.C k39 w A0 l0.length l0) (hc0 : l0.length ≤ c0) (h : syntagmref14_has.f k l0 a1_0 a1_1 = some r) :
  Calls Tryd.prog 39 #[.slice A0 l0.length c0, .agg #[.int .i64 a1_0, .int .i64 a1_1]] w fun e w' => e = .returned (.bool r) ∧ Below w.heap.size w w' := by
 have hu39 := Tryd.underlying39
 have HR0 := jM hr0
 have HC0 := jM hc0
 clear hr0 hc0
 have HB := jM (Below.refl w.heap.size w)
 have H : (syntagmref14_has.l0 k l0 0 a1_0 a1_1) = some r := h
 clear h
 have H' := jM H
 clear H
 go_enter Tryd.func39, Tryd.ntmps39
 go_wp2_with (first | ((with_reducible refine gate_dst (N := 3) rfl ?_); refine box_event ?hg (N := 3) ?hd (cs := #[.int .i64 a1_0, .int .i64 a1_1]) (t := 39) ?hr ?_; (case hd => rfl); (case hg => rfl); (case hr => first | (go_simp; done) | (go_simp; rfl)); intro gb236 hg w3 hbox hb; have n0_ := jM (jT (by repeat (first | (with_reducible first | exact HB.out | apply jA | apply jN | apply jD) | exact HB.out)) hb); have n1_ := jM (hbox); have n2_ := jM ((by rw [hg]; exact (below_size (by repeat (first | (with_reducible first | exact HB.out | apply jA | apply jN | apply jD) | exact HB.out))) : w.heap.size ≤ gb236)); have n3_ := jM ((by rw [hg]; exact (below_size (by repeat (first | (with_reducible first | exact HB.out | apply jA | apply jN | apply jD) | exact HB.out))) : w.heap.size ≤ gb236)); clear HB; have HB := n0_; have BK236 := n1_; have GW236 := n2_; have GE236 := n3_; clear n0_ n1_ n2_ n3_; clear hb hbox hg))
 repeat (go_quiet (first | ((with_reducible refine gate_dst (N := 3) rfl ?_); refine box_event ?hg (N := 3) ?hd (cs := #[.int .i64 a1_0, .int .i64 a1_1]) (t := 39) ?hr ?_; (case hd => rfl); (case hg => rfl); (case hr => first | (go_simp; done) | (go_simp; rfl)); intro gb236 hg w3 hbox hb; have n0_ := jM (jT (by repeat (first | (with_reducible first | exact HB.out | apply jA | apply jN | apply jD) | exact HB.out)) hb); have n1_ := jM (hbox); have n2_ := jM ((by rw [hg]; exact (below_size (by repeat (first | (with_reducible first | exact HB.out | apply jA | apply jN | apply jD) | exact HB.out))) : w.heap.size ≤ gb236)); have n3_ := jM ((by rw [hg]; exact (below_size (by repeat (first | (with_reducible first | exact HB.out | apply jA | apply jN | apply jD) | exact HB.out))) : w.heap.size ≤ gb236)); clear HB; have HB := n0_; have BK236 := n1_; have GW236 := n2_; have GE236 := n3_; clear n0_ n1_ n2_ n3_; clear hb hbox hg)); try go_wp2_with (first | ((with_reducible refine gate_dst (N := 3) rfl ?_); refine box_event ?hg (N := 3) ?hd (cs := #[.int .i64 a1_0, .int .i64 a1_1]) (t := 39) ?hr ?_; (case hd => rfl); (case hg => rfl); (case hr => first | (go_simp; done) | (go_simp; rfl)); intro gb236 hg w3 hbox hb; have n0_ := jM (jT (by repeat (first | (with_reducible first | exact HB.out | apply jA | apply jN | apply jD) | exact HB.out)) hb); have n1_ := jM (hbox); have n2_ := jM ((by rw [hg]; exact (below_size (by repeat (first | (with_reducible first | exact HB.out | apply jA | apply jN | apply jD) | exact HB.out))) : w.heap.size ≤ gb236)); have n3_ := jM ((by rw [hg]; exact (below_size (by repeat (first | (with_reducible first | exact HB.out | apply jA | apply jN | apply jD) | exact HB.out))) : w.heap.size ≤ gb236)); clear HB; have HB := n0_; have BK236 := n1_; have GW236 := n2_; have GE236 := n3_; clear n0_ n1_ n2_ n3_; clear hb hbox hg)))
 go_loopg [5] k (fun kq v5 w' => ∃ (x5_1 : Int), v5 = .int .i64 x5_1 ∧ Aside0 (syntagmref14_has.l0 kq l0 x5_1 a1_0 a1_1 = some r) ∧ Aside0 (kq ≤ k) ∧ Aside0 (w'.heap[gb236]? = some (.cells #[.int .i64 a1_0, .int .i64 a1_1] 39 (0, 0))) ∧ Aside0 (Below w.heap.size w w'))
 case atStart => exact ⟨(0), (by first | rfl | (simp; done) | (simp [*]; done)), H', ⟨Nat.le_refl _⟩, ⟨by (with_reducible repeat (first | refine jY ?_ _ | refine jZ ?_ | refine jX ?_ _)); exact BK236.out⟩, ⟨by repeat (first | (with_reducible first | exact HB.out | apply jA | apply jN | apply jD | refine jS ?_ GE236.out) | exact HB.out)⟩⟩
 case round =>
  clear H'
  try clear p2
  try clear c3
  obtain ⟨x5_1, rfl, HA, HK1, BK236, HB⟩ := hrel
  cases gk with
  | zero => exact absurd HA.out (by simp [syntagmref14_has.l0])
  | succ k1 =>
   have H := HA.out
   clear HA
   simp only [syntagmref14_has.l0] at H
   by_cases c4 : x5_1 < (l0.length : Int)
   ·rw [if_pos c4] at H
    have c4b0 : decide (x5_1 < (l0.length : Int)) = true := decide_eq_true c4
    clear c4
    by_cases c5 : 0 ≤ x5_1
    ·rw [if_pos c5] at H
     have c5b0 : decide (0 ≤ x5_1) = true := decide_eq_true c5
     clear c5
     by_cases c6 : (((rd_T39 l0 x5_1).f0) == a1_0 && (((rd_T39 l0 x5_1).f1) == a1_1)) = true
     ·rw [if_pos c6] at H
      have c6b0 : (((rd_T39 l0 x5_1).f0) == a1_0 && (((rd_T39 l0 x5_1).f1) == a1_1)) = true := c6
      (try (have c6b1 : decide (((rd_T39 l0 x5_1).f0) = a1_0 && (((rd_T39 l0 x5_1).f1) == a1_1)) = true := by simpa using c6))
      (try (have c6b2 : (((rd_T39 l0 x5_1).f0) == a1_0 && (((rd_T39 l0 x5_1).f1) == a1_1)) = true := by simpa using c6))
      clear c6
      obtain rfl := Option.some.inj H
      have p237 : 0 ≤ (x5_1 : Int) := of_decide_eq_true (by first | (with_reducible assumption) | assumption)
      have q237 : x5_1 < (l0.length : Int) := of_decide_eq_true (by first | (with_reducible assumption) | assumption)
      obtain ⟨ad237, e237, hx237_0, hx237_1⟩ := at_T39 HR0.out x5_1 p237 q237
      cases e237
      replace hx237_0 := (HB.out.cell (jL w _ hx237_0)).trans hx237_0
      replace hx237_1 := (HB.out.cell (jL w _ hx237_1)).trans hx237_1
      replace p237 := eq_true p237
      replace q237 := eq_true q237
      have hcz7_0 : wr.cell? ⟨gb236, 0, none⟩ = some (.int .i64 a1_0) := (jC BK236.out 0).trans rfl
      have hcz7_1 : wr.cell? ⟨gb236, 1, none⟩ = some (.int .i64 a1_1) := (jC BK236.out 1).trans rfl
      have hfz7_0 := jF BK236.out 0
      have hfz7_1 := jF BK236.out 1
      go_wp2
      repeat (go_quiet (fail); try go_wp2)
      go_ret
      exact ⟨by first | rfl | (simp [errW_none, errW_some] <;> rfl) | (simp [*, errW_none, errW_some] <;> rfl), by repeat (first | (with_reducible first | exact HB.out | apply jA | apply jN | apply jD | refine jS ?_ GE236.out) | exact HB.out)⟩
     ·rw [if_neg c6] at H
      have c6b0 : (((rd_T39 l0 x5_1).f0) == a1_0 && (((rd_T39 l0 x5_1).f1) == a1_1)) = false := by simpa using c6
      (try (have c6b1 : decide (((rd_T39 l0 x5_1).f0) = a1_0 && (((rd_T39 l0 x5_1).f1) == a1_1)) = false := by simpa using c6))
      (try (have c6b2 : (((rd_T39 l0 x5_1).f0) == a1_0 && (((rd_T39 l0 x5_1).f1) == a1_1)) = false := by simpa using c6))
      (try (have c6b3 : ¬ (((rd_T39 l0 x5_1).f0) = a1_0 && (((rd_T39 l0 x5_1).f1) == a1_1)) := by simpa using c6))
      clear c6
      have H' := jM H
      clear H
      have p237 : 0 ≤ (x5_1 : Int) := of_decide_eq_true (by first | (with_reducible assumption) | assumption)
      have q237 : x5_1 < (l0.length : Int) := of_decide_eq_true (by first | (with_reducible assumption) | assumption)
      obtain ⟨ad237, e237, hx237_0, hx237_1⟩ := at_T39 HR0.out x5_1 p237 q237
      cases e237
      replace hx237_0 := (HB.out.cell (jL w _ hx237_0)).trans hx237_0
      replace hx237_1 := (HB.out.cell (jL w _ hx237_1)).trans hx237_1
      replace p237 := eq_true p237
      replace q237 := eq_true q237
      have hcz8_0 : wr.cell? ⟨gb236, 0, none⟩ = some (.int .i64 a1_0) := (jC BK236.out 0).trans rfl
      have hcz8_1 : wr.cell? ⟨gb236, 1, none⟩ = some (.int .i64 a1_1) := (jC BK236.out 1).trans rfl
      have hfz8_0 := jF BK236.out 0
      have hfz8_1 := jF BK236.out 1
      go_wp2
      repeat (go_quiet (fail); try go_wp2)
      go_roundg k1
      case measure => have := HK1.out; omega
      case rel => exact ⟨(wrap64 (x5_1 + 1)), (by first | rfl | (simp; done) | (simp [*]; done)), H', ⟨by have := HK1.out; omega⟩, ⟨by (with_reducible repeat (first | refine jY ?_ _ | refine jZ ?_ | refine jX ?_ _)); exact BK236.out⟩, ⟨by repeat (first | (with_reducible first | exact HB.out | apply jA | apply jN | apply jD | refine jS ?_ GE236.out) | exact HB.out)⟩⟩
    ·rw [if_neg c5] at H
     exact absurd H (by simp)
   ·rw [if_neg c4] at H
    have c4b0 : decide (x5_1 < (l0.length : Int)) = false := decide_eq_false c4
    clear c4
    obtain rfl := Option.some.inj H
    go_wp2
    repeat (go_quiet (fail); try go_wp2)
    go_ret
    exact ⟨by first | rfl | (simp [errW_none, errW_some] <;> rfl) | (simp [*, errW_none, errW_some] <;> rfl), by repeat (first | (with_reducible first | exact HB.out | apply jA | apply jN | apply jD | refine jS ?_ GE236.out) | exact HB.out)⟩

/-! ### syntagmref14_less: function 69 -/
def syntagmref14_less.f (a0_0 : Int) (a0_1 : Int) (a1_0 : Int) (a1_1 : Int) : Option (Bool) := if a0_0 < a1_0 then (some true) else (if a0_0 = a1_0 then (some (decide (a0_1 < a1_1))) else (some false))
set_option maxHeartbeats 8000000 in
set_option maxRecDepth 100000 in
theorem syntagmref14_less.calls (a0_0 : Int) (a0_1 : Int) (a1_0 : Int) (a1_1 : Int) (r : Bool) (w : World) (h : syntagmref14_less.f a0_0 a0_1 a1_0 a1_1 = some r) :
  Calls Tryd.prog 69 #[.agg #[.int .i64 a0_0, .int .i64 a0_1], .agg #[.int .i64 a1_0, .int .i64 a1_1]] w fun e w' => e = .returned (.bool r) ∧ Below w.heap.size w w' := by
 have hu39 := Tryd.underlying39
 have HB := jM (Below.refl w.heap.size w)
 have H : (if a0_0 < a1_0 then (some true) else (if a0_0 = a1_0 then (some (decide (a0_1 < a1_1))) else (some false))) = some r := h
 clear h
 by_cases c3 : a0_0 < a1_0
 ·rw [if_pos c3] at H
  have c3b0 : decide (a0_0 < a1_0) = true := decide_eq_true c3
  clear c3
  obtain rfl := Option.some.inj H
  go_enter Tryd.func69, Tryd.ntmps69
  go_wp2_with (first | ((with_reducible refine gate_dst (N := 2) rfl ?_); refine box_event ?hg (N := 2) ?hd (cs := #[.int .i64 a0_0, .int .i64 a0_1]) (t := 39) ?hr ?_; (case hd => rfl); (case hg => rfl); (case hr => first | (go_simp; done) | (go_simp; rfl)); intro gb238 hg w4 hbox hb; have n0_ := jM (jT (by repeat (first | (with_reducible first | exact HB.out | apply jA | apply jN | apply jD) | exact HB.out)) hb); have n1_ := jM (hbox); have n2_ := jM ((by rw [hg]; exact (below_size (by repeat (first | (with_reducible first | exact HB.out | apply jA | apply jN | apply jD) | exact HB.out))) : w.heap.size ≤ gb238)); have n3_ := jM ((by rw [hg]; exact (below_size (by repeat (first | (with_reducible first | exact HB.out | apply jA | apply jN | apply jD) | exact HB.out))) : w.heap.size ≤ gb238)); clear HB; have HB := n0_; have BK238 := n1_; have GW238 := n2_; have GE238 := n3_; clear n0_ n1_ n2_ n3_; clear hb hbox hg) | ((with_reducible refine gate_dst (N := 3) rfl ?_); refine box_event ?hg (N := 3) ?hd (cs := #[.int .i64 a1_0, .int .i64 a1_1]) (t := 39) ?hr ?_; (case hd => rfl); (case hg => rfl); (case hr => first | (go_simp; done) | (go_simp; rfl)); intro gb239 hg w5 hbox hb; have n0_ := jM (jW (g := gb238) (o := .cells #[.int .i64 a0_0, .int .i64 a0_1] 39 (0, 0)) (by (with_reducible repeat (first | refine jY ?_ _ | refine jZ ?_ | refine jX ?_ _)); exact BK238.out) hb); have n1_ := jM (jT (by repeat (first | (with_reducible first | exact HB.out | apply jA | apply jN | apply jD | refine jS ?_ GE238.out) | exact HB.out)) hb); have n2_ := jM (hbox); have n3_ := jM ((by rw [hg]; exact (below_size (by repeat (first | (with_reducible first | exact HB.out | apply jA | apply jN | apply jD | refine jS ?_ GE238.out) | exact HB.out))) : w.heap.size ≤ gb239)); have n4_ := jM ((by rw [hg]; exact (below_size (by repeat (first | (with_reducible first | exact HB.out | apply jA | apply jN | apply jD | refine jS ?_ GE238.out) | exact HB.out))) : w.heap.size ≤ gb239)); have n5_ := jM ((by rw [hg]; exact Nat.ne_of_lt (blk_lt (g := gb238) (o := .cells #[.int .i64 a0_0, .int .i64 a0_1] 39 (0, 0)) (by (with_reducible repeat (first | refine jY ?_ _ | refine jZ ?_ | refine jX ?_ _)); exact BK238.out)) : gb238 ≠ gb239)); have n6_ := jM ((by rw [hg]; exact Nat.ne_of_gt (blk_lt (g := gb238) (o := .cells #[.int .i64 a0_0, .int .i64 a0_1] 39 (0, 0)) (by (with_reducible repeat (first | refine jY ?_ _ | refine jZ ?_ | refine jX ?_ _)); exact BK238.out)) : gb239 ≠ gb238)); clear BK238; clear HB; have BK238 := n0_; have HB := n1_; have BK239 := n2_; have GW239 := n3_; have GE239 := n4_; have NB238_239 := n5_; have NB239_238 := n6_; clear n0_ n1_ n2_ n3_ n4_ n5_ n6_; clear hb hbox hg; have hnb6 := NB238_239.out; have hnc6 := NB239_238.out; have hcz7_0 : w5.cell? ⟨gb238, 0, none⟩ = some (.int .i64 a0_0) := (jC BK238.out 0).trans rfl; have hcz7_1 : w5.cell? ⟨gb238, 1, none⟩ = some (.int .i64 a0_1) := (jC BK238.out 1).trans rfl; have hfz7_0 := jF BK238.out 0; have hfz7_1 := jF BK238.out 1; have hcz8_0 : w5.cell? ⟨gb239, 0, none⟩ = some (.int .i64 a1_0) := (jC BK239.out 0).trans rfl; have hcz8_1 : w5.cell? ⟨gb239, 1, none⟩ = some (.int .i64 a1_1) := (jC BK239.out 1).trans rfl; have hfz8_0 := jF BK239.out 0; have hfz8_1 := jF BK239.out 1))
  go_ret
  exact ⟨by first | rfl | (simp [errW_none, errW_some] <;> rfl) | (simp [*, errW_none, errW_some] <;> rfl), by repeat (first | (with_reducible first | exact HB.out | apply jA | apply jN | apply jD | refine jS ?_ GE238.out | refine jS ?_ GE239.out) | exact HB.out)⟩
 ·rw [if_neg c3] at H
  have c3b0 : decide (a0_0 < a1_0) = false := decide_eq_false c3
  clear c3
  by_cases c9 : a0_0 = a1_0
  ·rw [if_pos c9] at H
   have c9b0 : (a0_0 == a1_0) = true := beq_iff_eq.mpr c9
   have c9b1 : (a0_0 != a1_0) = false := bne_eq_false_iff_eq.mpr c9
   clear c9
   obtain rfl := Option.some.inj H
   go_enter Tryd.func69, Tryd.ntmps69
   go_wp2_with (first | ((with_reducible refine gate_dst (N := 2) rfl ?_); refine box_event ?hg (N := 2) ?hd (cs := #[.int .i64 a0_0, .int .i64 a0_1]) (t := 39) ?hr ?_; (case hd => rfl); (case hg => rfl); (case hr => first | (go_simp; done) | (go_simp; rfl)); intro gb238 hg w10 hbox hb; have n0_ := jM (jT (by repeat (first | (with_reducible first | exact HB.out | apply jA | apply jN | apply jD) | exact HB.out)) hb); have n1_ := jM (hbox); have n2_ := jM ((by rw [hg]; exact (below_size (by repeat (first | (with_reducible first | exact HB.out | apply jA | apply jN | apply jD) | exact HB.out))) : w.heap.size ≤ gb238)); have n3_ := jM ((by rw [hg]; exact (below_size (by repeat (first | (with_reducible first | exact HB.out | apply jA | apply jN | apply jD) | exact HB.out))) : w.heap.size ≤ gb238)); clear HB; have HB := n0_; have BK238 := n1_; have GW238 := n2_; have GE238 := n3_; clear n0_ n1_ n2_ n3_; clear hb hbox hg) | ((with_reducible refine gate_dst (N := 3) rfl ?_); refine box_event ?hg (N := 3) ?hd (cs := #[.int .i64 a1_0, .int .i64 a1_1]) (t := 39) ?hr ?_; (case hd => rfl); (case hg => rfl); (case hr => first | (go_simp; done) | (go_simp; rfl)); intro gb239 hg w11 hbox hb; have n0_ := jM (jW (g := gb238) (o := .cells #[.int .i64 a0_0, .int .i64 a0_1] 39 (0, 0)) (by (with_reducible repeat (first | refine jY ?_ _ | refine jZ ?_ | refine jX ?_ _)); exact BK238.out) hb); have n1_ := jM (jT (by repeat (first | (with_reducible first | exact HB.out | apply jA | apply jN | apply jD | refine jS ?_ GE238.out) | exact HB.out)) hb); have n2_ := jM (hbox); have n3_ := jM ((by rw [hg]; exact (below_size (by repeat (first | (with_reducible first | exact HB.out | apply jA | apply jN | apply jD | refine jS ?_ GE238.out) | exact HB.out))) : w.heap.size ≤ gb239)); have n4_ := jM ((by rw [hg]; exact (below_size (by repeat (first | (with_reducible first | exact HB.out | apply jA | apply jN | apply jD | refine jS ?_ GE238.out) | exact HB.out))) : w.heap.size ≤ gb239)); have n5_ := jM ((by rw [hg]; exact Nat.ne_of_lt (blk_lt (g := gb238) (o := .cells #[.int .i64 a0_0, .int .i64 a0_1] 39 (0, 0)) (by (with_reducible repeat (first | refine jY ?_ _ | refine jZ ?_ | refine jX ?_ _)); exact BK238.out)) : gb238 ≠ gb239)); have n6_ := jM ((by rw [hg]; exact Nat.ne_of_gt (blk_lt (g := gb238) (o := .cells #[.int .i64 a0_0, .int .i64 a0_1] 39 (0, 0)) (by (with_reducible repeat (first | refine jY ?_ _ | refine jZ ?_ | refine jX ?_ _)); exact BK238.out)) : gb239 ≠ gb238)); clear BK238; clear HB; have BK238 := n0_; have HB := n1_; have BK239 := n2_; have GW239 := n3_; have GE239 := n4_; have NB238_239 := n5_; have NB239_238 := n6_; clear n0_ n1_ n2_ n3_ n4_ n5_ n6_; clear hb hbox hg; have hnb12 := NB238_239.out; have hnc12 := NB239_238.out; have hcz13_0 : w11.cell? ⟨gb238, 0, none⟩ = some (.int .i64 a0_0) := (jC BK238.out 0).trans rfl; have hcz13_1 : w11.cell? ⟨gb238, 1, none⟩ = some (.int .i64 a0_1) := (jC BK238.out 1).trans rfl; have hfz13_0 := jF BK238.out 0; have hfz13_1 := jF BK238.out 1; have hcz14_0 : w11.cell? ⟨gb239, 0, none⟩ = some (.int .i64 a1_0) := (jC BK239.out 0).trans rfl; have hcz14_1 : w11.cell? ⟨gb239, 1, none⟩ = some (.int .i64 a1_1) := (jC BK239.out 1).trans rfl; have hfz14_0 := jF BK239.out 0; have hfz14_1 := jF BK239.out 1))
   go_ret
   exact ⟨by first | rfl | (simp [errW_none, errW_some] <;> rfl) | (simp [*, errW_none, errW_some] <;> rfl), by repeat (first | (with_reducible first | exact HB.out | apply jA | apply jN | apply jD | refine jS ?_ GE238.out | refine jS ?_ GE239.out) | exact HB.out)⟩
  ·rw [if_neg c9] at H
   have c9b0 : (a0_0 == a1_0) = false := beq_eq_false_iff_ne.mpr c9
   have c9b1 : (a0_0 != a1_0) = true := bne_iff_ne.mpr c9
   obtain rfl := Option.some.inj H
   go_enter Tryd.func69, Tryd.ntmps69
   go_wp2_with (first | ((with_reducible refine gate_dst (N := 2) rfl ?_); refine box_event ?hg (N := 2) ?hd (cs := #[.int .i64 a0_0, .int .i64 a0_1]) (t := 39) ?hr ?_; (case hd => rfl); (case hg => rfl); (case hr => first | (go_simp; done) | (go_simp; rfl)); intro gb238 hg w15 hbox hb; have n0_ := jM (jT (by repeat (first | (with_reducible first | exact HB.out | apply jA | apply jN | apply jD) | exact HB.out)) hb); have n1_ := jM (hbox); have n2_ := jM ((by rw [hg]; exact (below_size (by repeat (first | (with_reducible first | exact HB.out | apply jA | apply jN | apply jD) | exact HB.out))) : w.heap.size ≤ gb238)); have n3_ := jM ((by rw [hg]; exact (below_size (by repeat (first | (with_reducible first | exact HB.out | apply jA | apply jN | apply jD) | exact HB.out))) : w.heap.size ≤ gb238)); clear HB; have HB := n0_; have BK238 := n1_; have GW238 := n2_; have GE238 := n3_; clear n0_ n1_ n2_ n3_; clear hb hbox hg) | ((with_reducible refine gate_dst (N := 3) rfl ?_); refine box_event ?hg (N := 3) ?hd (cs := #[.int .i64 a1_0, .int .i64 a1_1]) (t := 39) ?hr ?_; (case hd => rfl); (case hg => rfl); (case hr => first | (go_simp; done) | (go_simp; rfl)); intro gb239 hg w16 hbox hb; have n0_ := jM (jW (g := gb238) (o := .cells #[.int .i64 a0_0, .int .i64 a0_1] 39 (0, 0)) (by (with_reducible repeat (first | refine jY ?_ _ | refine jZ ?_ | refine jX ?_ _)); exact BK238.out) hb); have n1_ := jM (jT (by repeat (first | (with_reducible first | exact HB.out | apply jA | apply jN | apply jD | refine jS ?_ GE238.out) | exact HB.out)) hb); have n2_ := jM (hbox); have n3_ := jM ((by rw [hg]; exact (below_size (by repeat (first | (with_reducible first | exact HB.out | apply jA | apply jN | apply jD | refine jS ?_ GE238.out) | exact HB.out))) : w.heap.size ≤ gb239)); have n4_ := jM ((by rw [hg]; exact (below_size (by repeat (first | (with_reducible first | exact HB.out | apply jA | apply jN | apply jD | refine jS ?_ GE238.out) | exact HB.out))) : w.heap.size ≤ gb239)); have n5_ := jM ((by rw [hg]; exact Nat.ne_of_lt (blk_lt (g := gb238) (o := .cells #[.int .i64 a0_0, .int .i64 a0_1] 39 (0, 0)) (by (with_reducible repeat (first | refine jY ?_ _ | refine jZ ?_ | refine jX ?_ _)); exact BK238.out)) : gb238 ≠ gb239)); have n6_ := jM ((by rw [hg]; exact Nat.ne_of_gt (blk_lt (g := gb238) (o := .cells #[.int .i64 a0_0, .int .i64 a0_1] 39 (0, 0)) (by (with_reducible repeat (first | refine jY ?_ _ | refine jZ ?_ | refine jX ?_ _)); exact BK238.out)) : gb239 ≠ gb238)); clear BK238; clear HB; have BK238 := n0_; have HB := n1_; have BK239 := n2_; have GW239 := n3_; have GE239 := n4_; have NB238_239 := n5_; have NB239_238 := n6_; clear n0_ n1_ n2_ n3_ n4_ n5_ n6_; clear hb hbox hg; have hnb17 := NB238_239.out; have hnc17 := NB239_238.out; have hcz18_0 : w16.cell? ⟨gb238, 0, none⟩ = some (.int .i64 a0_0) := (jC BK238.out 0).trans rfl; have hcz18_1 : w16.cell? ⟨gb238, 1, none⟩ = some (.int .i64 a0_1) := (jC BK238.out 1).trans rfl; have hfz18_0 := jF BK238.out 0; have hfz18_1 := jF BK238.out 1; have hcz19_0 : w16.cell? ⟨gb239, 0, none⟩ = some (.int .i64 a1_0) := (jC BK239.out 0).trans rfl; have hcz19_1 : w16.cell? ⟨gb239, 1, none⟩ = some (.int .i64 a1_1) := (jC BK239.out 1).trans rfl; have hfz19_0 := jF BK239.out 0; have hfz19_1 := jF BK239.out 1))
   go_ret
   exact ⟨by first | rfl | (simp [errW_none, errW_some] <;> rfl) | (simp [*, errW_none, errW_some] <;> rfl), by repeat (first | (with_reducible first | exact HB.out | apply jA | apply jN | apply jD | refine jS ?_ GE238.out | refine jS ?_ GE239.out) | exact HB.out)⟩

end Go.Proofs.YtclollnicbcooaaDoor.P
end
