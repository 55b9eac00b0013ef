/- Texts of this claim put together: Px21, Open, Types, SRefV, Px9, Px10, Px12, Px13, Px14, Rf, Rf2, SFew, Pw, Pk, Pg. -/
import Derived.Test.YtclollnicbcooaaDoorVa0
import Derived.Test.YtclollnicbcooaaDoorVa1
import Derived.Test.YtclollnicbcooaaDoorVa3
import Derived.Test.YtclollnicbcooaaDoorVa2
import Derived.Deep.Slices
import Derived.OpenShut
import Derived.ShutString
import Derived.ProofKit
import Derived.IntWalk
section
namespace Go.Proofs.YtclollnicbcooaaDoor.P
open Go.RowKit Go.Proofs.YtclollnicbcooaaDoorW.PrintWords Go.Proofs.YtclollnicbcooaaDoorW.PrintLast Go.Proofs.YtclollnicbcooaaDoorW.PrintMore
attribute [local go_sem] max2_int min2_int max_two min_two max_three min_three max_four min_four   -- for this text's walks alone
set_option linter.unusedVariables false
set_option linter.unusedSimpArgs false

/-! ### syntagmlaw14_StatesAhead: function 6 -/
mutual
def syntagmlaw14_StatesAhead.l0 : Nat → Bool → List Bool → Int → List (S82) → List (S101) → List ByteArray → List (S64) → Int → List (List (S37)) → List (List Int) → Option (Bool)
 | 0, _, _, _, _, _, _, _, _, _, _ => none
 | k + 1, x3, x7, x8, x421000, x421001, x421002, x421003, x421004, x431000, x431001 => if x8 < (x431000.length : Int) then (syntagmlaw14_StatesAhead.l1 k x3 x7 x8 0 x421000 x421001 x421002 x421003 x421004 x431000 x431001) else (syntagmlaw14_StatesAhead.l4 k x3 x7 0)
def syntagmlaw14_StatesAhead.l1 : Nat → Bool → List Bool → Int → Int → List (S82) → List (S101) → List ByteArray → List (S64) → Int → List (List (S37)) → List (List Int) → Option (Bool)
 | 0, _, _, _, _, _, _, _, _, _, _, _ => none
 | k + 1, x3, x7, x8, x9, x421000, x421001, x421002, x421003, x421004, x431000, x431001 => if x9 < x8 then (if 0 ≤ x8 then (if x8 < (x431000.length : Int) then ((syntagmlaw14_Row.f k (rd_L15 x431000 x8)).bind fun t436 => (if 0 ≤ x9 then (if x9 < (x431000.length : Int) then ((syntagmlaw14_Row.f k (rd_L15 x431000 x9)).bind fun t440 => ((syntagmref14_Row.f k t436 t440).bind fun t443 => (if t443 = true then (some false) else (syntagmlaw14_StatesAhead.l1 k x3 x7 x8 (wrap64 (x9 + 1)) x421000 x421001 x421002 x421003 x421004 x431000 x431001)))) else (none)) else (none))) else (none)) else (none)) else (syntagmlaw14_StatesAhead.l2 k x3 x7 x8 0 x421000 x421001 x421002 x421003 x421004 x431000 x431001)
def syntagmlaw14_StatesAhead.l2 : Nat → Bool → List Bool → Int → Int → List (S82) → List (S101) → List ByteArray → List (S64) → Int → List (List (S37)) → List (List Int) → Option (Bool)
 | 0, _, _, _, _, _, _, _, _, _, _, _ => none
 | k + 1, x3, x7, x8, x10, x421000, x421001, x421002, x421003, x421004, x431000, x431001 => if 0 ≤ x8 then (if x8 < (x431001.length : Int) then (if x10 < ((rd_L17 x431001 x8).length : Int) then (if x10 ≥ (x421000.length : Int) then (syntagmlaw14_StatesAhead.j3 k x3 x7 x8 x10 (wrap64 ((-1) - (wrap64 (x10 - (x421000.length : Int))))) x421000 x421001 x421002 x421003 x421004 x431000 x431001) else (syntagmlaw14_StatesAhead.j3 k x3 x7 x8 x10 x10 x421000 x421001 x421002 x421003 x421004 x431000 x431001)) else (syntagmlaw14_StatesAhead.l0 k x3 x7 (wrap64 (x8 + 1)) x421000 x421001 x421002 x421003 x421004 x431000 x431001)) else (none)) else (none)
def syntagmlaw14_StatesAhead.j3 : Nat → Bool → List Bool → Int → Int → Int → List (S82) → List (S101) → List ByteArray → List (S64) → Int → List (List (S37)) → List (List Int) → Option (Bool)
 | 0, _, _, _, _, _, _, _, _, _, _, _, _ => none
 | k + 1, x3, x7, x8, x10, x11, x421000, x421001, x421002, x421003, x421004, x431000, x431001 => if 0 ≤ x8 then (if x8 < (x431001.length : Int) then (if 0 ≤ x10 then (if x10 < ((rd_L17 x431001 x8).length : Int) then ((states_Go.f x421000 x421001 x421002 x421003 x421004 x431000 x431001 x8 x11).bind fun t447 => (if (rd (rd_L17 x431001 x8) x10) = t447 then (if (rd (rd_L17 x431001 x8) x10) ≥ (x431000.length : Int) then (syntagmlaw14_StatesAhead.j4 k x3 x7 x8 x10 x11 (rd (rd_L17 x431001 x8) x10) true x421000 x421001 x421002 x421003 x421004 x431000 x431001) else (syntagmlaw14_StatesAhead.j4 k x3 x7 x8 x10 x11 (rd (rd_L17 x431001 x8) x10) ((rd (rd_L17 x431001 x8) x10) == 0) x421000 x421001 x421002 x421003 x421004 x431000 x431001)) else (syntagmlaw14_StatesAhead.j4 k x3 x7 x8 x10 x11 (rd (rd_L17 x431001 x8) x10) true x421000 x421001 x421002 x421003 x421004 x431000 x431001))) else (none)) else (none)) else (none)) else (none)
def syntagmlaw14_StatesAhead.j4 : Nat → Bool → List Bool → Int → Int → Int → Int → Bool → List (S82) → List (S101) → List ByteArray → List (S64) → Int → List (List (S37)) → List (List Int) → Option (Bool)
 | 0, _, _, _, _, _, _, _, _, _, _, _, _, _, _ => none
 | k + 1, x3, x7, x8, x10, x11, x12, x118, x421000, x421001, x421002, x421003, x421004, x431000, x431001 => if x118 = true then (some false) else (if x12 < 0 then (syntagmlaw14_StatesAhead.l2 k x3 x7 x8 (wrap64 (x10 + 1)) x421000 x421001 x421002 x421003 x421004 x431000 x431001) else (if 0 ≤ x12 then (if x12 < (x7.length : Int) then (syntagmlaw14_StatesAhead.l3 k x3 (x7.set (x12 : Int).toNat true) x8 x10 x11 x12 0 x421000 x421001 x421002 x421003 x421004 x431000 x431001) else (none)) else (none)))
def syntagmlaw14_StatesAhead.l3 : Nat → Bool → List Bool → Int → Int → Int → Int → Int → List (S82) → List (S101) → List ByteArray → List (S64) → Int → List (List (S37)) → List (List Int) → Option (Bool)
 | 0, _, _, _, _, _, _, _, _, _, _, _, _, _, _ => none
 | k + 1, x3, x7, x8, x10, x11, x12, x13, x421000, x421001, x421002, x421003, x421004, x431000, x431001 => if 0 ≤ x12 then (if x12 < (x431000.length : Int) then (if x13 < ((rd_L15 x431000 x12).length : Int) then (if 0 ≤ x13 then ((states_Behind.f x421000 x421001 x421002 x421003 x421004 ((rd_T37 (rd_L15 x431000 x12) x13).f0) (wrap64 (((rd_T37 (rd_L15 x431000 x12) x13).f1) - 1))).bind fun bt453 => (if bt453.2 = true then (if bt453.1 = x11 then (syntagmlaw14_StatesAhead.l3 k x3 x7 x8 x10 x11 x12 (wrap64 (x13 + 1)) x421000 x421001 x421002 x421003 x421004 x431000 x431001) else (some false)) else (some false))) else (none)) else (syntagmlaw14_StatesAhead.l2 k x3 x7 x8 (wrap64 (x10 + 1)) x421000 x421001 x421002 x421003 x421004 x431000 x431001)) else (none)) else (none)
def syntagmlaw14_StatesAhead.l4 : Nat → Bool → List Bool → Int → Option (Bool)
 | 0, _, _, _ => none
 | k + 1, x3, x7, x17 => if x17 < (x7.length : Int) then (if 0 ≤ x17 then (if rdOf false x7 x17 = true then (syntagmlaw14_StatesAhead.l4 k x3 x7 (wrap64 (x17 + 1))) else (some false)) else (none)) else (some x3)
end
def syntagmlaw14_StatesAhead.f (k : Nat) (l0_0 : List (S82)) (l0_1 : List (S101)) (l0_2 : List ByteArray) (l0_3 : List (S64)) (a0_4 : Int) : Option (Bool) := (syntagmlaw14_works.f).bind fun t421 => (if t421 = true then ((syntagmlaw14_Little.f k l0_0 l0_1 l0_2 l0_3 a0_4).bind fun t422 => (if t422 = true then ((states_Build.f l0_0 l0_1 l0_2 l0_3 a0_4).bind fun bt423 => (if bt423.2.2 = 0 then (if 0 ≤ (bt423.1.length : Int) then (if ((bt423.1.length : Int) : Int).toNat ≤ 281474976710656 then ((some (List.replicate ((bt423.1.length : Int) : Int).toNat false : List Bool)).bind fun y431 => (if 0 < (y431.length : Int) then (syntagmlaw14_StatesAhead.l0 k t421 (y431.set (0 : Int).toNat true) 0 l0_0 l0_1 l0_2 l0_3 a0_4 bt423.1 bt423.2.1) else (none))) else (none)) else (none)) else (some ((bt423.1.length : Int) == 0)))) else (some t421))) else (some false))
def syntagmlaw14_StatesAhead.T18 : Bool × List (List Nat × List Nat) := (true, [([], []), ([0], [0]), ([], []), ([1, 2], [1, 2]), ([3], [3]), ([4], [4]), ([], []), ([6], [6]), ([], []), ([7, 8], [7, 8]), ([9], [9]), ([10, 5], [10]), ([5, 11, 11], [5, 11])])
def syntagmlaw14_StatesAhead.B18 : List Nat := [0, 1, 0, 7, 15, 31, 0, 64, 0, 448, 960, 2047, 4095]
theorem syntagmlaw14_StatesAhead.tab18 : rtab .any (opsOf Tryd.f6 18) = syntagmlaw14_StatesAhead.T18 := by kernel_rfl
theorem syntagmlaw14_StatesAhead.bits18 : waitsOk syntagmlaw14_StatesAhead.T18.2 syntagmlaw14_StatesAhead.B18 = true := by kernel_rfl
set_option maxHeartbeats 8000000 in
set_option maxRecDepth 100000 in
theorem syntagmlaw14_StatesAhead.calls (k : Nat) (A0_0 : Option Addr) (c0_0 : Nat) (l0_0 : List (S82)) (A0_1 : Option Addr) (c0_1 : Nat) (l0_1 : List (S101)) (A0_2 : Option Addr) (c0_2 : Nat) (l0_2 : List ByteArray) (A0_3 : Option Addr) (c0_3 : Nat) (l0_3 : List (S64)) (a0_4 : Int) (r : Bool) (w : World) (hG : GTab w) (hT : r = true) (hr0_0 : Kd.C k82 w A0_0 l0_0.length l0_0) (hc0_0 : l0_0.length ≤ c0_0) (hr0_1 : Kd.C k101 w A0_1 l0_1.length l0_1) (hc0_1 : l0_1.length ≤ c0_1) (hr0_2 : Kd.C Kd.string w A0_2 l0_2.length l0_2) (hc0_2 : l0_2.length ≤ c0_2) (hr0_3 : Kd.C k64 w A0_3 l0_3.length l0_3) (hc0_3 : l0_3.length ≤ c0_3) (h : syntagmlaw14_StatesAhead.f k l0_0 l0_1 l0_2 l0_3 a0_4 = some r) :
  Calls Tryd.prog 6 #[.agg #[.slice A0_0 l0_0.length c0_0, .slice A0_1 l0_1.length c0_1, .slice A0_2 l0_2.length c0_2, .slice A0_3 l0_3.length c0_3, .int .i64 a0_4]] w fun e w' => e = .returned (.bool r) ∧ Below w.heap.size w w' := by
 have hu27 := Tryd.underlying27
 have hu49 := Tryd.underlying49
 have hu37 := Tryd.underlying37
 have HG := Aside0.mk hG
 clear hG
 have HT := Aside0.mk hT
 clear hT
 have HR0_0 := Aside0.mk hr0_0
 have HC0_0 := Aside0.mk hc0_0
 clear hr0_0 hc0_0
 have HR0_1 := Aside0.mk hr0_1
 have HC0_1 := Aside0.mk hc0_1
 clear hr0_1 hc0_1
 have HR0_2 := Aside0.mk hr0_2
 have HC0_2 := Aside0.mk hc0_2
 clear hr0_2 hc0_2
 have HR0_3 := Aside0.mk hr0_3
 have HC0_3 := Aside0.mk hc0_3
 clear hr0_3 hc0_3
 have HB := Aside0.mk (Below.refl w.heap.size w)
 have H : ((syntagmlaw14_works.f).bind fun t421 => (if t421 = true then ((syntagmlaw14_Little.f k l0_0 l0_1 l0_2 l0_3 a0_4).bind fun t422 => (if t422 = true then ((states_Build.f l0_0 l0_1 l0_2 l0_3 a0_4).bind fun bt423 => (if bt423.2.2 = 0 then (if 0 ≤ (bt423.1.length : Int) then (if ((bt423.1.length : Int) : Int).toNat ≤ 281474976710656 then ((some (List.replicate ((bt423.1.length : Int) : Int).toNat false : List Bool)).bind fun y431 => (if 0 < (y431.length : Int) then (syntagmlaw14_StatesAhead.l0 k t421 (y431.set (0 : Int).toNat true) 0 l0_0 l0_1 l0_2 l0_3 a0_4 bt423.1 bt423.2.1) else (none))) else (none)) else (none)) else (some ((bt423.1.length : Int) == 0)))) else (some t421))) else (some false))) = some r := h
 clear h
 replace H := Option.bind_eq_some_iff.mp H
 obtain ⟨t421, A20, H⟩ := H
 replace H : (if t421 = true then ((syntagmlaw14_Little.f k l0_0 l0_1 l0_2 l0_3 a0_4).bind fun t422 => (if t422 = true then ((states_Build.f l0_0 l0_1 l0_2 l0_3 a0_4).bind fun bt423 => (if bt423.2.2 = 0 then (if 0 ≤ (bt423.1.length : Int) then (if ((bt423.1.length : Int) : Int).toNat ≤ 281474976710656 then ((some (List.replicate ((bt423.1.length : Int) : Int).toNat false : List Bool)).bind fun y431 => (if 0 < (y431.length : Int) then (syntagmlaw14_StatesAhead.l0 k t421 (y431.set (0 : Int).toNat true) 0 l0_0 l0_1 l0_2 l0_3 a0_4 bt423.1 bt423.2.1) else (none))) else (none)) else (none)) else (some ((bt423.1.length : Int) == 0)))) else (some t421))) else (some false)) = some r := H
 have A2 := Aside0.mk A20
 clear A20
 by_cases c3 : t421 = true
 ·subst c3
  have H1 : ((syntagmlaw14_Little.f k l0_0 l0_1 l0_2 l0_3 a0_4).bind fun t422 => (if t422 = true then ((states_Build.f l0_0 l0_1 l0_2 l0_3 a0_4).bind fun bt423 => (if bt423.2.2 = 0 then (if 0 ≤ (bt423.1.length : Int) then (if ((bt423.1.length : Int) : Int).toNat ≤ 281474976710656 then ((some (List.replicate ((bt423.1.length : Int) : Int).toNat false : List Bool)).bind fun y431 => (if 0 < (y431.length : Int) then (syntagmlaw14_StatesAhead.l0 k true (y431.set (0 : Int).toNat true) 0 l0_0 l0_1 l0_2 l0_3 a0_4 bt423.1 bt423.2.1) else (none))) else (none)) else (none)) else (some ((bt423.1.length : Int) == 0)))) else (some true))) = some r := by rw [if_pos rfl] at H; exact H
  clear H
  have H := H1
  clear H1
  replace H := Option.bind_eq_some_iff.mp H
  obtain ⟨t422, A40, H⟩ := H
  replace H : (if t422 = true then ((states_Build.f l0_0 l0_1 l0_2 l0_3 a0_4).bind fun bt423 => (if bt423.2.2 = 0 then (if 0 ≤ (bt423.1.length : Int) then (if ((bt423.1.length : Int) : Int).toNat ≤ 281474976710656 then ((some (List.replicate ((bt423.1.length : Int) : Int).toNat false : List Bool)).bind fun y431 => (if 0 < (y431.length : Int) then (syntagmlaw14_StatesAhead.l0 k true (y431.set (0 : Int).toNat true) 0 l0_0 l0_1 l0_2 l0_3 a0_4 bt423.1 bt423.2.1) else (none))) else (none)) else (none)) else (some ((bt423.1.length : Int) == 0)))) else (some true)) = some r := H
  have A4 := Aside0.mk A40
  clear A40
  by_cases c5 : t422 = true
  ·subst c5
   have H1 : ((states_Build.f l0_0 l0_1 l0_2 l0_3 a0_4).bind fun bt423 => (if bt423.2.2 = 0 then (if 0 ≤ (bt423.1.length : Int) then (if ((bt423.1.length : Int) : Int).toNat ≤ 281474976710656 then ((some (List.replicate ((bt423.1.length : Int) : Int).toNat false : List Bool)).bind fun y431 => (if 0 < (y431.length : Int) then (syntagmlaw14_StatesAhead.l0 k true (y431.set (0 : Int).toNat true) 0 l0_0 l0_1 l0_2 l0_3 a0_4 bt423.1 bt423.2.1) else (none))) else (none)) else (none)) else (some ((bt423.1.length : Int) == 0)))) = some r := by rw [if_pos rfl] at H; exact H
   clear H
   have H := H1
   clear H1
   replace H := Option.bind_eq_some_iff.mp H
   obtain ⟨⟨t423, t426, t429⟩, A60, H⟩ := H
   replace H : (if t429 = 0 then (if 0 ≤ (t423.length : Int) then (if ((t423.length : Int) : Int).toNat ≤ 281474976710656 then ((some (List.replicate ((t423.length : Int) : Int).toNat false : List Bool)).bind fun y431 => (if 0 < (y431.length : Int) then (syntagmlaw14_StatesAhead.l0 k true (y431.set (0 : Int).toNat true) 0 l0_0 l0_1 l0_2 l0_3 a0_4 t423 t426) else (none))) else (none)) else (none)) else (some ((t423.length : Int) == 0))) = some r := H
   have A6 := Aside0.mk A60
   clear A60
   by_cases c7 : t429 = 0
   ·rw [if_pos c7] at H
    have c7b0 : (t429 == 0) = true := beq_iff_eq.mpr c7
    have c7b1 : (t429 != 0) = false := bne_eq_false_iff_eq.mpr c7
    clear c7
    by_cases c8 : 0 ≤ (t423.length : Int)
    ·rw [if_pos c8] at H
     have c8b0 := eq_true c8
     have c8b1 : decide (0 ≤ (t423.length : Int)) = true := decide_eq_true c8
     clear c8
     by_cases c9 : ((t423.length : Int) : Int).toNat ≤ 281474976710656
     ·rw [if_pos c9] at H
      have c9b0 := eq_true c9
      have c9b1 : decide (((t423.length : Int) : Int).toNat ≤ 281474976710656) = true := decide_eq_true c9
      clear c9
      obtain ⟨y431, hy431⟩ : ∃ y_ : List Bool, y_ = (List.replicate ((t423.length : Int) : Int).toNat false) := ⟨_, rfl⟩
      replace H : (if 0 < (y431.length : Int) then (syntagmlaw14_StatesAhead.l0 k true (y431.set (0 : Int).toNat true) 0 l0_0 l0_1 l0_2 l0_3 a0_4 t423 t426) else (none)) = some r := by first | (rw [hy431]; with_reducible exact H) | (have H2_ := (Option.bind_some _ _).symm.trans H; rw [hy431]; with_reducible exact H2_) | (have H2_ := (Option.bind_some _ _).symm.trans H; with_reducible exact H2_) | with_reducible exact H | (rw [hy431]; exact H) | exact H
      have Ny431 := Aside0.mk hy431
      clear hy431
      by_cases c10 : 0 < (y431.length : Int)
      ·rw [if_pos c10] at H
       have c10b0 : decide (0 < (y431.length : Int)) = true := decide_eq_true c10
       have c10b1 : decide (0 < y431.length) = true := decide_eq_true (by omega)
       clear c10
       obtain ⟨y434, hy434⟩ : ∃ y_ : List Bool, y_ = (y431.set (0 : Int).toNat true) := ⟨_, rfl⟩
       replace H : (syntagmlaw14_StatesAhead.l0 k true y434 0 l0_0 l0_1 l0_2 l0_3 a0_4 t423 t426) = some r := by first | (rw [hy434]; with_reducible exact H) | (have H2_ := (Option.bind_some _ _).symm.trans H; rw [hy434]; with_reducible exact H2_) | (have H2_ := (Option.bind_some _ _).symm.trans H; with_reducible exact H2_) | with_reducible exact H | (rw [hy434]; exact H) | exact H
       have Ny434 := Aside0.mk hy434
       clear hy434
       have H' := Aside0.mk H
       clear H
       go_enter Tryd.func6, Tryd.ntmps6
       go_wp2_with (first | ((with_reducible refine gate_dst (N := 1) rfl ?_); (try (refine gate_guard (by rfl) ?_; dsimp only)); refine box_event ?hg (N := 1) ?hd (cs := #[.slice A0_0 l0_0.length c0_0, .slice A0_1 l0_1.length c0_1, .slice A0_2 l0_2.length c0_2, .slice A0_3 l0_3.length c0_3, .int .i64 a0_4]) (t := 27) ?hr ?_; (case hd => rfl); (case hg => rfl); (case hr => first | (go_simp; done) | (go_simp; rfl)); intro gb420 hg w12 hbox hb; have n0_ := Aside0.mk (below_step (by repeat (first | (with_reducible first | exact HB.out | apply below_alloc | apply pw_below_drewN | apply below_drew1) | exact HB.out)) hb); have n1_ := Aside0.mk (hbox); have n2_ := Aside0.mk ((by rw [hg]; exact (below_size (by repeat (first | (with_reducible first | exact HB.out | apply below_alloc | apply pw_below_drewN | apply below_drew1) | exact HB.out))) : w.heap.size ≤ gb420)); have n3_ := Aside0.mk ((by rw [hg]; exact (below_size (by repeat (first | (with_reducible first | exact HB.out | apply below_alloc | apply pw_below_drewN | apply below_drew1) | exact HB.out))) : w.heap.size ≤ gb420)); clear HB; have HB := n0_; have BK420 := n1_; have GW420 := n2_; have GE420 := n3_; clear n0_ n1_ n2_ n3_; clear hb hbox hg) | ((with_reducible refine gate_callee (f := 12) rfl ?_); refine goesL_ (some 18) rfl rfl Tryd.func12 (by kernel_rfl) rfl #[] rfl (by (try simp only [List.map_toArray, List.map_cons, List.map_nil]); first | done | rfl | (simp only [List.length_drop, List.length_take]; rfl)) ?_; (with_reducible refine (syntagmlaw14_works.calls  true _ ?side1 ?side2 A2.out).mono ?_); (case side1 => exact GTab.below HG.out (by repeat (first | (with_reducible first | exact HB.out | apply below_alloc | apply pw_below_drewN | apply below_drew1 | refine below_set ?_ GE420.out) | exact HB.out))); (case side2 => rfl); rintro e w13 ⟨rfl, hb⟩; refine ⟨_, rfl, ?_⟩; have n0_ := Aside0.mk (blk_below (g := gb420) (o := .cells #[.slice A0_0 l0_0.length c0_0, .slice A0_1 l0_1.length c0_1, .slice A0_2 l0_2.length c0_2, .slice A0_3 l0_3.length c0_3, .int .i64 a0_4] 27 (0, 0)) (by (with_reducible repeat (first | refine blk_drewN ?_ _ | refine blk_drew ?_ | refine blk_alloc ?_ _)); exact BK420.out) hb); have n1_ := Aside0.mk (below_step (by repeat (first | (with_reducible first | exact HB.out | apply below_alloc | apply pw_below_drewN | apply below_drew1 | refine below_set ?_ GE420.out) | exact HB.out)) hb); clear BK420; clear HB; have BK420 := n0_; have HB := n1_; clear n0_ n1_; (try clear hb); (try clear hb2); (try clear hk); (try clear hi); have hcz14_0 : w13.cell? ⟨gb420, 0, none⟩ = some (.slice A0_0 l0_0.length c0_0) := (blk_cell BK420.out 0).trans rfl; have hcz14_1 : w13.cell? ⟨gb420, 1, none⟩ = some (.slice A0_1 l0_1.length c0_1) := (blk_cell BK420.out 1).trans rfl; have hcz14_2 : w13.cell? ⟨gb420, 2, none⟩ = some (.slice A0_2 l0_2.length c0_2) := (blk_cell BK420.out 2).trans rfl; have hcz14_3 : w13.cell? ⟨gb420, 3, none⟩ = some (.slice A0_3 l0_3.length c0_3) := (blk_cell BK420.out 3).trans rfl; have hcz14_4 : w13.cell? ⟨gb420, 4, none⟩ = some (.int .i64 a0_4) := (blk_cell BK420.out 4).trans rfl; have hfz14_0 := blk_frozen BK420.out 0; have hfz14_1 := blk_frozen BK420.out 1; have hfz14_2 := blk_frozen BK420.out 2; have hfz14_3 := blk_frozen BK420.out 3; have hfz14_4 := blk_frozen BK420.out 4) | ((with_reducible refine gate_callee (f := 22) rfl ?_); refine goesL_ (some 22) rfl rfl Tryd.func22 (by kernel_rfl) rfl #[.agg #[.slice A0_0 l0_0.length c0_0, .slice A0_1 l0_1.length c0_1, .slice A0_2 l0_2.length c0_2, .slice A0_3 l0_3.length c0_3, .int .i64 a0_4]] rfl (by (try simp only [List.map_toArray, List.map_cons, List.map_nil]); first | done | rfl | (simp only [List.length_drop, List.length_take]; rfl)) ?_; (with_reducible refine (syntagmlaw14_Little.calls k _ _ l0_0 _ _ l0_1 _ _ l0_2 _ _ l0_3 a0_4 true _ ?side1 ?side2 ?side3 ?side4 ?side5 ?side6 ?side7 ?side8 A4.out).mono ?_); (case side1 => repeat (first | exact (Kd.C_below HR0_0.out HB.out) | (with_reducible refine Kd.C_alloc ?_ _) | (with_reducible refine Kd.C_drewN ?_ _) | (with_reducible refine Kd.C_drew ?_))); (case side2 => exact HC0_0.out); (case side3 => repeat (first | exact (Kd.C_below HR0_1.out HB.out) | (with_reducible refine Kd.C_alloc ?_ _) | (with_reducible refine Kd.C_drewN ?_ _) | (with_reducible refine Kd.C_drew ?_))); (case side4 => exact HC0_1.out); (case side5 => repeat (first | exact (Kd.C_below HR0_2.out HB.out) | (with_reducible refine Kd.C_alloc ?_ _) | (with_reducible refine Kd.C_drewN ?_ _) | (with_reducible refine Kd.C_drew ?_))); (case side6 => exact HC0_2.out); (case side7 => repeat (first | exact (Kd.C_below HR0_3.out HB.out) | (with_reducible refine Kd.C_alloc ?_ _) | (with_reducible refine Kd.C_drewN ?_ _) | (with_reducible refine Kd.C_drew ?_))); (case side8 => exact HC0_3.out); rintro e w15 ⟨rfl, hb⟩; refine ⟨_, rfl, ?_⟩; have n0_ := Aside0.mk (blk_below (g := gb420) (o := .cells #[.slice A0_0 l0_0.length c0_0, .slice A0_1 l0_1.length c0_1, .slice A0_2 l0_2.length c0_2, .slice A0_3 l0_3.length c0_3, .int .i64 a0_4] 27 (0, 0)) (by (with_reducible repeat (first | refine blk_drewN ?_ _ | refine blk_drew ?_ | refine blk_alloc ?_ _)); exact BK420.out) hb); have n1_ := Aside0.mk (below_step (by repeat (first | (with_reducible first | exact HB.out | apply below_alloc | apply pw_below_drewN | apply below_drew1 | refine below_set ?_ GE420.out) | exact HB.out)) hb); clear BK420; clear HB; have BK420 := n0_; have HB := n1_; clear n0_ n1_; (try clear hb); (try clear hb2); (try clear hk); (try clear hi); have hcz16_0 : w15.cell? ⟨gb420, 0, none⟩ = some (.slice A0_0 l0_0.length c0_0) := (blk_cell BK420.out 0).trans rfl; have hcz16_1 : w15.cell? ⟨gb420, 1, none⟩ = some (.slice A0_1 l0_1.length c0_1) := (blk_cell BK420.out 1).trans rfl; have hcz16_2 : w15.cell? ⟨gb420, 2, none⟩ = some (.slice A0_2 l0_2.length c0_2) := (blk_cell BK420.out 2).trans rfl; have hcz16_3 : w15.cell? ⟨gb420, 3, none⟩ = some (.slice A0_3 l0_3.length c0_3) := (blk_cell BK420.out 3).trans rfl; have hcz16_4 : w15.cell? ⟨gb420, 4, none⟩ = some (.int .i64 a0_4) := (blk_cell BK420.out 4).trans rfl; have hfz16_0 := blk_frozen BK420.out 0; have hfz16_1 := blk_frozen BK420.out 1; have hfz16_2 := blk_frozen BK420.out 2; have hfz16_3 := blk_frozen BK420.out 3; have hfz16_4 := blk_frozen BK420.out 4) | ((with_reducible refine gate_callee (f := 23) rfl ?_); refine goesL_ (some 28) rfl rfl Tryd.func23 (by kernel_rfl) rfl #[.agg #[.slice A0_0 l0_0.length c0_0, .slice A0_1 l0_1.length c0_1, .slice A0_2 l0_2.length c0_2, .slice A0_3 l0_3.length c0_3, .int .i64 a0_4]] rfl (by (try simp only [List.map_toArray, List.map_cons, List.map_nil]); first | done | rfl | (simp only [List.length_drop, List.length_take]; rfl)) ?_; (with_reducible refine (states_Build.calls _ _ l0_0 _ _ l0_1 _ _ l0_2 _ _ l0_3 a0_4 t423 t426 t429 _ ?side1 ?side2 ?side3 ?side4 ?side5 ?side6 ?side7 ?side8 ?side9 A6.out).mono ?_); (case side1 => exact GTab.below HG.out (by repeat (first | (with_reducible first | exact HB.out | apply below_alloc | apply pw_below_drewN | apply below_drew1 | refine below_set ?_ GE420.out) | exact HB.out))); (case side2 => repeat (first | exact (Kd.C_below HR0_0.out HB.out) | (with_reducible refine Kd.C_alloc ?_ _) | (with_reducible refine Kd.C_drewN ?_ _) | (with_reducible refine Kd.C_drew ?_))); (case side3 => exact HC0_0.out); (case side4 => repeat (first | exact (Kd.C_below HR0_1.out HB.out) | (with_reducible refine Kd.C_alloc ?_ _) | (with_reducible refine Kd.C_drewN ?_ _) | (with_reducible refine Kd.C_drew ?_))); (case side5 => exact HC0_1.out); (case side6 => repeat (first | exact (Kd.C_below HR0_2.out HB.out) | (with_reducible refine Kd.C_alloc ?_ _) | (with_reducible refine Kd.C_drewN ?_ _) | (with_reducible refine Kd.C_drew ?_))); (case side7 => exact HC0_2.out); (case side8 => repeat (first | exact (Kd.C_below HR0_3.out HB.out) | (with_reducible refine Kd.C_alloc ?_ _) | (with_reducible refine Kd.C_drewN ?_ _) | (with_reducible refine Kd.C_drew ?_))); (case side9 => exact HC0_3.out); rintro e w17 ⟨v424, v427, rfl, ho0, ho1, hb⟩; refine ⟨_, rfl, ?_⟩; have n0_ := Aside0.mk (Kd.S_lower ho0 (below_size (by repeat (first | (with_reducible first | exact HB.out | apply below_alloc | apply pw_below_drewN | apply below_drew1 | refine below_set ?_ GE420.out) | exact HB.out)))); have n1_ := Aside0.mk (Kd.S_lower ho1 (below_size (by repeat (first | (with_reducible first | exact HB.out | apply below_alloc | apply pw_below_drewN | apply below_drew1 | refine below_set ?_ GE420.out) | exact HB.out)))); have n2_ := Aside0.mk (blk_below (g := gb420) (o := .cells #[.slice A0_0 l0_0.length c0_0, .slice A0_1 l0_1.length c0_1, .slice A0_2 l0_2.length c0_2, .slice A0_3 l0_3.length c0_3, .int .i64 a0_4] 27 (0, 0)) (by (with_reducible repeat (first | refine blk_drewN ?_ _ | refine blk_drew ?_ | refine blk_alloc ?_ _)); exact BK420.out) hb); have n3_ := Aside0.mk (below_step (by repeat (first | (with_reducible first | exact HB.out | apply below_alloc | apply pw_below_drewN | apply below_drew1 | refine below_set ?_ GE420.out) | exact HB.out)) hb); clear BK420; clear HB; have HO425 := n0_; have HO428 := n1_; have BK420 := n2_; have HB := n3_; clear n0_ n1_ n2_ n3_; (try clear hb); (try clear hb2); (try clear hk); (try clear hi); (try clear ho0); (try clear ho1)) | ((with_reducible refine gate_dst (N := 5) rfl ?_); (try (refine gate_guard (by rfl) ?_; dsimp only)); refine box_event ?hg (N := 5) ?hd (cs := #[.slice none 0 0, .slice none 0 0]) (t := 49) ?hr ?_; (case hd => rfl); (case hg => rfl); (case hr => first | (go_simp; done) | (go_simp; rfl)); intro gb430 hg w18 hbox hb; have n0_ := Aside0.mk (Kd.S_below (by (with_reducible repeat (first | apply Kd.S_alloc | apply Kd.S_drewN | apply Kd.S_drew)); exact HO425.out) hb); have n1_ := Aside0.mk (Kd.S_below (by (with_reducible repeat (first | apply Kd.S_alloc | apply Kd.S_drewN | apply Kd.S_drew)); exact HO428.out) hb); have n2_ := Aside0.mk (blk_below (g := gb420) (o := .cells #[.slice A0_0 l0_0.length c0_0, .slice A0_1 l0_1.length c0_1, .slice A0_2 l0_2.length c0_2, .slice A0_3 l0_3.length c0_3, .int .i64 a0_4] 27 (0, 0)) (by (with_reducible repeat (first | refine blk_drewN ?_ _ | refine blk_drew ?_ | refine blk_alloc ?_ _)); exact BK420.out) hb); have n3_ := Aside0.mk (below_step (by repeat (first | (with_reducible first | exact HB.out | apply below_alloc | apply pw_below_drewN | apply below_drew1 | refine below_set ?_ GE420.out) | exact HB.out)) hb); have n4_ := Aside0.mk (hbox); have n5_ := Aside0.mk ((by rw [hg]; exact (below_size (by repeat (first | (with_reducible first | exact HB.out | apply below_alloc | apply pw_below_drewN | apply below_drew1 | refine below_set ?_ GE420.out) | exact HB.out))) : w.heap.size ≤ gb430)); have n6_ := Aside0.mk ((by rw [hg]; exact (below_size (by repeat (first | (with_reducible first | exact HB.out | apply below_alloc | apply pw_below_drewN | apply below_drew1 | refine below_set ?_ GE420.out) | exact HB.out))) : w.heap.size ≤ gb430)); have n7_ := Aside0.mk ((by rw [hg]; exact Nat.ne_of_lt (blk_lt (g := gb420) (o := .cells #[.slice A0_0 l0_0.length c0_0, .slice A0_1 l0_1.length c0_1, .slice A0_2 l0_2.length c0_2, .slice A0_3 l0_3.length c0_3, .int .i64 a0_4] 27 (0, 0)) (by (with_reducible repeat (first | refine blk_drewN ?_ _ | refine blk_drew ?_ | refine blk_alloc ?_ _)); exact BK420.out)) : gb420 ≠ gb430)); have n8_ := Aside0.mk ((by rw [hg]; exact Nat.ne_of_gt (blk_lt (g := gb420) (o := .cells #[.slice A0_0 l0_0.length c0_0, .slice A0_1 l0_1.length c0_1, .slice A0_2 l0_2.length c0_2, .slice A0_3 l0_3.length c0_3, .int .i64 a0_4] 27 (0, 0)) (by (with_reducible repeat (first | refine blk_drewN ?_ _ | refine blk_drew ?_ | refine blk_alloc ?_ _)); exact BK420.out)) : gb430 ≠ gb420)); clear HO425; clear HO428; clear BK420; clear HB; have HO425 := n0_; have HO428 := n1_; have BK420 := n2_; have HB := n3_; have BK430 := n4_; have GW430 := n5_; have GE430 := n6_; have NB420_430 := n7_; have NB430_420 := n8_; clear n0_ n1_ n2_ n3_ n4_ n5_ n6_ n7_ n8_; clear hb hbox hg; obtain ⟨Ao19, co19, eo19⟩ := Kd.S_slice HO425.out; subst eo19; have hnb20 := NB430_420.out; have hnc20 := NB420_430.out; have hcz21_0 : w18.cell? ⟨gb430, 0, none⟩ = some (.slice none 0 0) := (blk_cell BK430.out 0).trans rfl; have hcz21_1 : w18.cell? ⟨gb430, 1, none⟩ = some (.slice none 0 0) := (blk_cell BK430.out 1).trans rfl; have hfz21_0 := blk_frozen BK430.out 0; have hfz21_1 := blk_frozen BK430.out 1; obtain ⟨Ao22, co22, eo22⟩ := Kd.S_slice HO428.out; subst eo22) | ((with_reducible refine gate_dst (N := 43) rfl ?_); (try (refine gate_guard (by rfl) ?_; dsimp only)); refine Kd.R_make Kd.bool _ 4 rfl (N := 43) rfl 66 _ _ rfl (t423.length : Int) rfl rfl Tryd.underlying66 (.bool false) 1 info4 rfl (by decide) (by omega) false (ok := fun _ => True) (okp := fun _ => True) rfl (fun _ hk => hk) trivial (of_decide_eq_true (by first | (with_reducible assumption) | assumption)) (Nat.le_trans (Nat.mul_le_mul_right _ (of_decide_eq_true (by first | (with_reducible assumption) | assumption) : (t423.length : Int).toNat ≤ 281474976710656)) (by omega)) (Below.refl _ _) (Nat.le_refl _) ?_; intro v432 w23 ho24 hb hg_ hnew_; clear hg_ hnew_; (first | rw [← Ny431.out] at ho24 | (simp only [Int.reduceToNat] at ho24; rw [← Ny431.out] at ho24)); have n0_ := Aside0.mk (Kd.S_below (by (with_reducible repeat (first | apply Kd.S_alloc | apply Kd.S_drewN | apply Kd.S_drew)); exact (Kd.S_mono (Kd.S_far (p := ⟨gb430, 1, none⟩) (Kd.S_far (p := ⟨gb430, 0, none⟩) (Kd.S_types HO425.out BK430.out (by decide)) (fun _ hk => hk.2) (.slice Ao19 t423.length co19)) (fun _ hk => hk.2) (.slice Ao22 t426.length co22)) (fun _ h_ => h_.1))) hb); have n1_ := Aside0.mk (Kd.S_below (by (with_reducible repeat (first | apply Kd.S_alloc | apply Kd.S_drewN | apply Kd.S_drew)); exact (Kd.S_mono (Kd.S_far (p := ⟨gb430, 1, none⟩) (Kd.S_far (p := ⟨gb430, 0, none⟩) (Kd.S_types HO428.out BK430.out (by decide)) (fun _ hk => hk.2) (.slice Ao19 t423.length co19)) (fun _ hk => hk.2) (.slice Ao22 t426.length co22)) (fun _ h_ => h_.1))) hb); have n2_ := Aside0.mk (Kd.R_lower ho24 (below_size (by repeat (first | (with_reducible first | exact HB.out | apply below_alloc | apply pw_below_drewN | apply below_drew1 | refine below_set ?_ GE420.out | refine below_set ?_ GE430.out) | exact HB.out)))); have n3_ := Aside0.mk (blk_below (g := gb420) (o := .cells #[.slice A0_0 l0_0.length c0_0, .slice A0_1 l0_1.length c0_1, .slice A0_2 l0_2.length c0_2, .slice A0_3 l0_3.length c0_3, .int .i64 a0_4] 27 (0, 0)) (by (with_reducible repeat (first | refine blk_drewN ?_ _ | refine blk_drew ?_ | refine blk_alloc ?_ _)); refine blk_far ?_ NB420_430.out _; (with_reducible repeat (first | refine blk_drewN ?_ _ | refine blk_drew ?_ | refine blk_alloc ?_ _)); refine blk_far ?_ NB420_430.out _; (with_reducible repeat (first | refine blk_drewN ?_ _ | refine blk_drew ?_ | refine blk_alloc ?_ _)); exact BK420.out) hb); have n4_ := Aside0.mk (blk_below (g := gb430) (o := .cells #[.slice Ao19 t423.length co19, .slice Ao22 t426.length co22] 49 (0, 0)) (by (with_reducible repeat (first | refine blk_drewN ?_ _ | refine blk_drew ?_ | refine blk_alloc ?_ _)); refine blk_put (cs := #[.slice Ao19 t423.length co19, .slice none 0 0]) ?_ 1 _ rfl; (with_reducible repeat (first | refine blk_drewN ?_ _ | refine blk_drew ?_ | refine blk_alloc ?_ _)); refine blk_put (cs := #[.slice none 0 0, .slice none 0 0]) ?_ 0 _ rfl; (with_reducible repeat (first | refine blk_drewN ?_ _ | refine blk_drew ?_ | refine blk_alloc ?_ _)); exact BK430.out) hb); have n5_ := Aside0.mk (below_step (by repeat (first | (with_reducible first | exact HB.out | apply below_alloc | apply pw_below_drewN | apply below_drew1 | refine below_set ?_ GE420.out | refine below_set ?_ GE430.out) | exact HB.out)) hb); clear HO425; clear HO428; clear BK420; clear BK430; clear HB; have HO425 := n0_; have HO428 := n1_; have HO433 := n2_; have BK420 := n3_; have BK430 := n4_; have HB := n5_; clear n0_ n1_ n2_ n3_ n4_ n5_; clear hb ho24; have p11 : 0 ≤ (0 : Int) := (by omega); have q11 : (0 : Int) < ((y431.length : Int) : Int) := of_decide_eq_true (by first | (with_reducible assumption) | assumption); have qi11 : (0 < y431.length) = True := eq_true (by omega); obtain ⟨go11, co11, eo11, gb11, gl11, cl11, HG11⟩ := Kd.R_form HO433.out (by omega); (first | cases eo11 | (injection eo11 with ea_ en_ ec_; (first | subst ea_ | (injection ea_ with ea_; subst ea_)); subst ec_; clear en_)); have GB11 := Aside0.mk gb11; have GG11 := Aside0.mk HG11; clear gb11 gl11 HG11; obtain ⟨hx11_0, hf11_0⟩ := Kd.R_celln false HO433.out (0 : Int) p11 q11; (try rw [show ((0 : Int)).toNat = 0 from rfl] at hx11_0); (try simp only [Nat.reduceMul, Nat.zero_mul, Nat.zero_add, Nat.reduceAdd] at hx11_0); (try rw [show ((0 : Int)).toNat = 0 from rfl] at hf11_0); (try simp only [Nat.reduceMul, Nat.zero_mul, Nat.zero_add, Nat.reduceAdd] at hf11_0); replace p11 := eq_true p11; replace q11 := eq_true q11; obtain ⟨hy25_, hz25_⟩ := Kd.R_celln false HO433.out (0 : Int) (by omega) (of_decide_eq_true (by first | (with_reducible assumption) | assumption)); (try simp only [Int.reduceToNat, Int.toNat_zero, Int.toNat_ofNat, Nat.reduceMul, Nat.zero_mul, Nat.zero_add] at hy25_ hz25_); (try rw [show ((0 : Int)).toNat = 0 from rfl] at hy25_); (try rw [show ((0 : Int)).toNat = 0 from rfl] at hz25_); have HP25 := Kd.R_putg HO433.out (0 : Int) true) | ((with_reducible refine gate_store (t := 4) (p := 45) rfl ?_); refine store_event (t := 4) (p := 45) (v := ?vo_w26) (w1 := (w23.setCell ⟨go11, (0 : Int).toNat, none⟩ (.bool true))) ?hg ?ho ?hn ?hr ?_; (case ho => rfl); (case hg => rfl); (case hn => rfl); (case hr => first | (go_simp; done) | (go_simp; rfl)); intro w26 hw; have hg : w23.grownBy w26 (some go11) := (by rw [hw]; exact HP25.2); have hp_ : Kd.R Kd.bool 4 w26 w.heap.size (fun _ => True) (.slice (some ⟨go11, 0, none⟩) y431.length co11) y434 := (by rw [hw, Ny434.out]; exact HP25.1); clear HP25; have n0_ := Aside0.mk (blk_grown (g := gb420) (o := .cells #[.slice A0_0 l0_0.length c0_0, .slice A0_1 l0_1.length c0_1, .slice A0_2 l0_2.length c0_2, .slice A0_3 l0_3.length c0_3, .int .i64 a0_4] 27 (0, 0)) (by (with_reducible repeat (first | refine blk_drewN ?_ _ | refine blk_drew ?_ | refine blk_alloc ?_ _)); exact BK420.out) hg (Kd.R_ne HO433.out BK420.out (by decide))); have n1_ := Aside0.mk (Kd.S_over' (v := (.slice (some ⟨go11, 0, none⟩) y431.length co11)) (by (with_reducible repeat (first | apply Kd.S_alloc | apply Kd.S_drewN | apply Kd.S_drew)); exact HO425.out) (Kd.R_typed HO433.out) (by decide) hg); have n2_ := Aside0.mk (Kd.S_over' (v := (.slice (some ⟨go11, 0, none⟩) y431.length co11)) (by (with_reducible repeat (first | apply Kd.S_alloc | apply Kd.S_drewN | apply Kd.S_drew)); exact HO428.out) (Kd.R_typed HO433.out) (by decide) hg); have n3_ := Aside0.mk (blk_grown (g := gb430) (o := .cells #[.slice Ao19 t423.length co19, .slice Ao22 t426.length co22] 49 (0, 0)) (by (with_reducible repeat (first | refine blk_drewN ?_ _ | refine blk_drew ?_ | refine blk_alloc ?_ _)); exact BK430.out) hg (Kd.R_ne HO433.out BK430.out (by decide))); have n4_ := Aside0.mk (hp_); have n5_ := Aside0.mk ((by rw [hw]; exact below_set (HB.out) GB11.out : Below w.heap.size w w26)); clear BK420; clear HO425; clear HO428; clear BK430; clear HO433; clear HB; have BK420 := n0_; have HO425 := n1_; have HO428 := n2_; have BK430 := n3_; have HO433 := n4_; have HB := n5_; clear n0_ n1_ n2_ n3_ n4_ n5_; clear hg hw hp_))
       go_loopg [8] k (fun kq v8 w' => ∃ (x7_1 : List Bool) (x8_1 : Int), v8 = .int .i64 x8_1 ∧ Aside0 (syntagmlaw14_StatesAhead.l0 kq true x7_1 x8_1 l0_0 l0_1 l0_2 l0_3 a0_4 t423 t426 = some r) ∧ Aside0 (kq ≤ k) ∧ Aside0 (Kd.R Kd.bool 4 w' w.heap.size (fun _ => True) (.slice (some ⟨go11, 0, none⟩) y431.length co11) x7_1) ∧ Aside0 (Kd.S (Kd.slice 37 k37) 28 w' w.heap.size (fun _ => True) (.slice Ao19 t423.length co19) t423) ∧ Aside0 (Kd.S (Kd.slice 3 (Kd.int .i64)) 58 w' w.heap.size (fun _ => True) (.slice Ao22 t426.length co22) t426) ∧ Aside0 (w'.heap[gb420]? = some (.cells #[(.slice A0_0 l0_0.length c0_0), (.slice A0_1 l0_1.length c0_1), (.slice A0_2 l0_2.length c0_2), (.slice A0_3 l0_3.length c0_3), .int .i64 a0_4] 27 (0, 0))) ∧ Aside0 (w'.heap[gb430]? = some (.cells #[(.slice Ao19 t423.length co19), (.slice Ao22 t426.length co22)] 49 (0, 0))) ∧ Aside0 (Below w.heap.size w w'))
       case atStart => exact ⟨(y434), (0), (by first | rfl | (simp; done) | (simp [*]; done)), H', ⟨Nat.le_refl _⟩, ⟨by (with_reducible repeat (first | apply Kd.R_alloc | apply Kd.R_drewN | apply Kd.R_drew)); exact HO433.out⟩, ⟨by (with_reducible repeat (first | apply Kd.S_alloc | apply Kd.S_drewN | apply Kd.S_drew)); exact HO425.out⟩, ⟨by (with_reducible repeat (first | apply Kd.S_alloc | apply Kd.S_drewN | apply Kd.S_drew)); exact HO428.out⟩, ⟨by (with_reducible repeat (first | refine blk_drewN ?_ _ | refine blk_drew ?_ | refine blk_alloc ?_ _)); exact BK420.out⟩, ⟨by (with_reducible repeat (first | refine blk_drewN ?_ _ | refine blk_drew ?_ | refine blk_alloc ?_ _)); exact BK430.out⟩, ⟨by repeat (first | (with_reducible first | exact HB.out | apply below_alloc | apply pw_below_drewN | apply below_drew1 | refine below_set ?_ GE420.out | refine below_set ?_ GE430.out) | exact HB.out)⟩⟩
       case round =>
        clear H'
        try clear c1
        try clear p1
        try clear q1
        try clear hx1
        try clear qi1
        try clear hf1
        try clear c2
        try clear p2
        try clear c3
        try clear c5
        try clear c6
        try clear c7
        try clear c7b0
        try clear c7b1
        try clear c8
        try clear c8b0
        try clear c8b1
        try clear c9
        try clear c9b0
        try clear c9b1
        try clear c10
        try clear c10b0
        try clear c10b1
        try clear p11
        try clear q11
        try clear hx11
        try clear qi11
        try clear hf11
        try clear c12
        try clear c20
        try clear c22
        try clear c23
        try clear hcz14_0
        try clear hcz14_1
        try clear hcz14_2
        try clear hcz14_3
        try clear hcz14_4
        try clear hcz16_0
        try clear hcz16_1
        try clear hcz16_2
        try clear hcz16_3
        try clear hcz16_4
        try clear hcz21_0
        try clear hcz21_1
        try clear hfz14_0
        try clear hfz14_1
        try clear hfz14_2
        try clear hfz14_3
        try clear hfz14_4
        try clear hfz16_0
        try clear hfz16_1
        try clear hfz16_2
        try clear hfz16_3
        try clear hfz16_4
        try clear hfz21_0
        try clear hfz21_1
        try clear hx11_0
        try clear p11
        try clear q11
        obtain ⟨x7_1, x8_1, rfl, HA, HK1, HO_7, HO_431000, HO_431001, BK420, BK430, HB⟩ := hrel
        have hl7_1 := (Kd.R_reads' HO_7.out).1
        rw [hl7_1] at HO_7
        (try simp only [hl7_1])
        (try simp only [hl7_1] at BK420)
        (try simp only [hl7_1] at BK430)
        (try simp only [hl7_1] at HO_431000)
        (try simp only [hl7_1] at HO_431001)
        cases gk with
        | zero => exact absurd HA.out (by simp [syntagmlaw14_StatesAhead.l0])
        | succ k1 =>
         have H := HA.out
         clear HA
         simp only [syntagmlaw14_StatesAhead.l0] at H
         by_cases c27 : x8_1 < (t423.length : Int)
         ·rw [if_pos c27] at H
          have c27b0 : decide (x8_1 < (t423.length : Int)) = true := decide_eq_true c27
          clear c27
          have H' := Aside0.mk H
          clear H
          have hnb28 := NB430_420.out
          have hnc28 := NB420_430.out
          have hcz29_0 : wr.cell? ⟨gb430, 0, none⟩ = some (.slice Ao19 t423.length co19) := (blk_cell BK430.out 0).trans rfl
          have hcz29_1 : wr.cell? ⟨gb430, 1, none⟩ = some (.slice Ao22 t426.length co22) := (blk_cell BK430.out 1).trans rfl
          have hfz29_0 := blk_frozen BK430.out 0
          have hfz29_1 := blk_frozen BK430.out 1
          go_wp2
          go_loopg [9] k1 (fun kq v9 w' => ∃ (x9_2 : Int), v9 = .int .i64 x9_2 ∧ Aside0 (syntagmlaw14_StatesAhead.l1 kq true x7_1 x8_1 x9_2 l0_0 l0_1 l0_2 l0_3 a0_4 t423 t426 = some r) ∧ Aside0 (kq ≤ k1) ∧ Aside0 (Kd.R Kd.bool 4 w' w.heap.size (fun _ => True) (.slice (some ⟨go11, 0, none⟩) x7_1.length co11) x7_1) ∧ Aside0 (Kd.S (Kd.slice 37 k37) 28 w' w.heap.size (fun _ => True) (.slice Ao19 t423.length co19) t423) ∧ Aside0 (Kd.S (Kd.slice 3 (Kd.int .i64)) 58 w' w.heap.size (fun _ => True) (.slice Ao22 t426.length co22) t426) ∧ Aside0 (w'.heap[gb420]? = some (.cells #[(.slice A0_0 l0_0.length c0_0), (.slice A0_1 l0_1.length c0_1), (.slice A0_2 l0_2.length c0_2), (.slice A0_3 l0_3.length c0_3), .int .i64 a0_4] 27 (0, 0))) ∧ Aside0 (w'.heap[gb430]? = some (.cells #[(.slice Ao19 t423.length co19), (.slice Ao22 t426.length co22)] 49 (0, 0))) ∧ Aside0 (Below w.heap.size w w'))
          case atStart => exact ⟨(0), (by first | rfl | (simp; done) | (simp [*]; done)), H', ⟨Nat.le_refl _⟩, ⟨by (try simp only [hl7_1]); (with_reducible repeat (first | apply Kd.R_alloc | apply Kd.R_drewN | apply Kd.R_drew)); exact HO_7.out⟩, ⟨by (try simp only [hl7_1]); (with_reducible repeat (first | apply Kd.S_alloc | apply Kd.S_drewN | apply Kd.S_drew)); exact HO_431000.out⟩, ⟨by (try simp only [hl7_1]); (with_reducible repeat (first | apply Kd.S_alloc | apply Kd.S_drewN | apply Kd.S_drew)); exact HO_431001.out⟩, ⟨by (try simp only [hl7_1]); (with_reducible repeat (first | refine blk_drewN ?_ _ | refine blk_drew ?_ | refine blk_alloc ?_ _)); exact BK420.out⟩, ⟨by (try simp only [hl7_1]); (with_reducible repeat (first | refine blk_drewN ?_ _ | refine blk_drew ?_ | refine blk_alloc ?_ _)); exact BK430.out⟩, ⟨by repeat (first | (with_reducible first | exact HB.out | apply below_alloc | apply pw_below_drewN | apply below_drew1 | refine below_set ?_ GE420.out | refine below_set ?_ GE430.out) | exact HB.out)⟩⟩
          case round =>
           clear H'
           try clear c1
           try clear p1
           try clear q1
           try clear hx1
           try clear qi1
           try clear hf1
           try clear c2
           try clear p2
           try clear c3
           try clear c5
           try clear c6
           try clear c7
           try clear c7b0
           try clear c7b1
           try clear c8
           try clear c8b0
           try clear c8b1
           try clear c9
           try clear c9b0
           try clear c9b1
           try clear c10
           try clear c10b0
           try clear c10b1
           try clear p11
           try clear q11
           try clear hx11
           try clear qi11
           try clear hf11
           try clear c12
           try clear c20
           try clear c22
           try clear c23
           try clear c27
           try clear c27b0
           try clear c28
           try clear hcz14_0
           try clear hcz14_1
           try clear hcz14_2
           try clear hcz14_3
           try clear hcz14_4
           try clear hcz16_0
           try clear hcz16_1
           try clear hcz16_2
           try clear hcz16_3
           try clear hcz16_4
           try clear hcz21_0
           try clear hcz21_1
           try clear hcz29_0
           try clear hcz29_1
           try clear hfz14_0
           try clear hfz14_1
           try clear hfz14_2
           try clear hfz14_3
           try clear hfz14_4
           try clear hfz16_0
           try clear hfz16_1
           try clear hfz16_2
           try clear hfz16_3
           try clear hfz16_4
           try clear hfz21_0
           try clear hfz21_1
           try clear hfz29_0
           try clear hfz29_1
           try clear hx11_0
           try clear p1
           try clear p11
           try clear p2
           try clear q1
           try clear q11
           obtain ⟨x9_2, rfl, HA, HK2, HO_7, HO_431000, HO_431001, BK420, BK430, HB⟩ := hrel
           cases gk with
           | zero => exact absurd HA.out (by simp [syntagmlaw14_StatesAhead.l1])
           | succ k2 =>
            have H := HA.out
            clear HA
            simp only [syntagmlaw14_StatesAhead.l1] at H
            by_cases c30 : x9_2 < x8_1
            ·rw [if_pos c30] at H
             have c30b0 : decide (x9_2 < x8_1) = true := decide_eq_true c30
             clear c30
             by_cases c31 : 0 ≤ x8_1
             ·rw [if_pos c31] at H
              have c31b0 : decide (0 ≤ x8_1) = true := decide_eq_true c31
              clear c31
              by_cases c32 : x8_1 < (t423.length : Int)
              ·rw [if_pos c32] at H
               have c32b0 : decide (x8_1 < (t423.length : Int)) = true := decide_eq_true c32
               clear c32
               replace H := Option.bind_eq_some_iff.mp H
               obtain ⟨t436, A330, H⟩ := H
               replace H : (if 0 ≤ x9_2 then (if x9_2 < (t423.length : Int) then ((syntagmlaw14_Row.f k2 (rd_L15 t423 x9_2)).bind fun t440 => ((syntagmref14_Row.f k2 t436 t440).bind fun t443 => (if t443 = true then (some false) else (syntagmlaw14_StatesAhead.l1 k2 true x7_1 x8_1 (wrap64 (x9_2 + 1)) l0_0 l0_1 l0_2 l0_3 a0_4 t423 t426)))) else (none)) else (none)) = some r := H
               have A33 := Aside0.mk A330
               clear A330
               by_cases c34 : 0 ≤ x9_2
               ·rw [if_pos c34] at H
                have c34b0 : decide (0 ≤ x9_2) = true := decide_eq_true c34
                clear c34
                by_cases c35 : x9_2 < (t423.length : Int)
                ·rw [if_pos c35] at H
                 have c35b0 : decide (x9_2 < (t423.length : Int)) = true := decide_eq_true c35
                 clear c35
                 replace H := Option.bind_eq_some_iff.mp H
                 obtain ⟨t440, A360, H⟩ := H
                 replace H : ((syntagmref14_Row.f k2 t436 t440).bind fun t443 => (if t443 = true then (some false) else (syntagmlaw14_StatesAhead.l1 k2 true x7_1 x8_1 (wrap64 (x9_2 + 1)) l0_0 l0_1 l0_2 l0_3 a0_4 t423 t426))) = some r := H
                 have A36 := Aside0.mk A360
                 clear A360
                 replace H := Option.bind_eq_some_iff.mp H
                 obtain ⟨t443, A370, H⟩ := H
                 replace H : (if t443 = true then (some false) else (syntagmlaw14_StatesAhead.l1 k2 true x7_1 x8_1 (wrap64 (x9_2 + 1)) l0_0 l0_1 l0_2 l0_3 a0_4 t423 t426)) = some r := H
                 have A37 := Aside0.mk A370
                 clear A370
                 by_cases c38 : t443 = true
                 ·subst c38
                  have H1 : (some false) = some r := by rw [if_pos rfl] at H; exact H
                  clear H
                  have H := H1
                  clear H1
                  exact absurd ((Option.some.inj H).trans HT.out) (by decide)
                 ·replace c38 := Bool.eq_false_iff.mpr c38
                  subst c38
                  have H1 : (syntagmlaw14_StatesAhead.l1 k2 true x7_1 x8_1 (wrap64 (x9_2 + 1)) l0_0 l0_1 l0_2 l0_3 a0_4 t423 t426) = some r := by rw [if_neg (show ¬ (false = true) by decide)] at H; exact H
                  clear H
                  have H := H1
                  clear H1
                  have H' := Aside0.mk H
                  clear H
                  try go_wp2
                  have n0_ := Aside0.mk (Kd.R_drew HO_7.out)
                  have n1_ := Aside0.mk (Kd.S_drew HO_431000.out)
                  have n2_ := Aside0.mk (Kd.S_drew HO_431001.out)
                  have n3_ := Aside0.mk (blk_drew BK420.out)
                  have n4_ := Aside0.mk (blk_drew BK430.out)
                  have n5_ := Aside0.mk (below_drew1 HB.out)
                  clear HO_7
                  clear HO_431000
                  clear HO_431001
                  clear BK420
                  clear BK430
                  clear HB
                  have HO_7 := n0_
                  have HO_431000 := n1_
                  have HO_431001 := n2_
                  have BK420 := n3_
                  have BK430 := n4_
                  have HB := n5_
                  clear n0_ n1_ n2_ n3_ n4_ n5_
                  have p435 : 0 ≤ (x8_1 : Int) := of_decide_eq_true (by first | (with_reducible assumption) | assumption)
                  have q435 : x8_1 < (t423.length : Int) := of_decide_eq_true (by first | (with_reducible assumption) | assumption)
                  obtain ⟨ad435, A435_0, c435_0, e435, hx435_0, hl435_0, hi435_0⟩ := at_L15 (Kd.S_reads' HO_431000.out).2.2 x8_1 p435 q435
                  cases e435
                  obtain ⟨ce435, hce435, hMe435, hcc435⟩ := Kd.S_get HO_431000.out [] x8_1 p435 (by first | exact q435 | exact of_decide_eq_true (by first | (with_reducible assumption) | assumption) | (have e_ := (Kd.S_reads' HO_431000.out).1; omega))
                  obtain ⟨ve435_0, rfl, ge435_0⟩ := hMe435
                  have hv435_0 := hcc435 0 _ rfl
                  rw [Nat.add_zero, show ((Kd.slice 37 k37)).sz = 1 from rfl, Nat.mul_one] at hv435_0
                  replace hv435_0 := Option.some.inj (hv435_0.symm.trans hx435_0)
                  rw [hv435_0] at ge435_0
                  have HL435_0 := Aside0.mk (show Kd.R k37 37 _ _ _ _ (rd_L15 t423 x8_1) from ge435_0)
                  clear hv435_0 ge435_0
                  clear hcc435 hce435
                  have HR435_0 := Aside0.mk hi435_0
                  have HC435_0 := Aside0.mk hl435_0
                  clear hi435_0 hl435_0
                  replace p435 := eq_true p435
                  replace q435 := eq_true q435
                  have p439 : 0 ≤ (x9_2 : Int) := of_decide_eq_true (by first | (with_reducible assumption) | assumption)
                  have q439 : x9_2 < (t423.length : Int) := of_decide_eq_true (by first | (with_reducible assumption) | assumption)
                  obtain ⟨ad439, A439_0, c439_0, e439, hx439_0, hl439_0, hi439_0⟩ := at_L15 (Kd.S_reads' HO_431000.out).2.2 x9_2 p439 q439
                  obtain rfl : ad435 = ad439 := (by injection e439)
                  obtain ⟨ce439, hce439, hMe439, hcc439⟩ := Kd.S_get HO_431000.out [] x9_2 p439 (by first | exact q439 | exact of_decide_eq_true (by first | (with_reducible assumption) | assumption) | (have e_ := (Kd.S_reads' HO_431000.out).1; omega))
                  obtain ⟨ve439_0, rfl, ge439_0⟩ := hMe439
                  have hv439_0 := hcc439 0 _ rfl
                  rw [Nat.add_zero, show ((Kd.slice 37 k37)).sz = 1 from rfl, Nat.mul_one] at hv439_0
                  replace hv439_0 := Option.some.inj (hv439_0.symm.trans hx439_0)
                  rw [hv439_0] at ge439_0
                  have HL439_0 := Aside0.mk (show Kd.R k37 37 _ _ _ _ (rd_L15 t423 x9_2) from ge439_0)
                  clear hv439_0 ge439_0
                  clear hcc439 hce439
                  have HR439_0 := Aside0.mk hi439_0
                  have HC439_0 := Aside0.mk hl439_0
                  clear hi439_0 hl439_0
                  replace p439 := eq_true p439
                  replace q439 := eq_true q439
                  refine start_ (n := 13) (S := fun w' => w'.cell? ⟨gb430, 0, none⟩ = some (.slice (some ad435) t423.length co19) ∧ w'.cell? ⟨gb430, 1, none⟩ = some (.slice Ao22 t426.length co22) ∧ w'.cell? (ad435.add (x8_1).toNat) = some (.slice A435_0 (rd_L15 t423 x8_1).length c435_0) ∧ w'.cell? (ad435.add (x9_2).toNat) = some (.slice A439_0 (rd_L15 t423 x9_2).length c439_0)) (ds := []) #[false, false, false, false, false, false, false, false, false, false, false, false, false] (by kernel_rfl) rfl rfl ⟨(blk_cell BK430.out 0).trans rfl, (blk_cell BK430.out 1).trans rfl, hx435_0, hx439_0⟩ (fun hHeld => ?_); refine with_tabW syntagmlaw14_StatesAhead.tab18 syntagmlaw14_StatesAhead.bits18 (fun HT_ HW_ => ?_)
                  generalize wr.drew = w39 at HO_7 HO_431000 HO_431001 BK420 BK430 HB HL435_0 HL439_0 HR435_0 HR439_0 hx435_0 hx439_0 hHeld ⊢
                  refine pure_ (i := 0) (N := some 58) (v := ?_) (a' := ?_) #[true, false, false, false, false, false, false, false, false, false, false, false, false] rfl rfl (any_of HT_.out (by kernel_rfl)) (fun _ _ _ h => h) (Or.inl ⟨by rfl, ?_⟩) ?_ ?_
                  rotate_left
                  ·intro w'
                   go_simp
                   with_reducible rfl
                  rotate_left
                  ·simp only [Act.put, List.setIfInBounds_toArray, List.set_cons_zero, List.set_cons_succ, i64_w, i32_w]
                   rfl
                  refine pure_ (i := 2) (N := some 60) (v := ?_) (a' := ?_) #[true, false, true, false, false, false, false, false, false, false, false, false, false] rfl rfl (any_of HT_.out (by kernel_rfl)) (fun _ _ _ h => h) (Or.inl ⟨by rfl, ?_⟩) ?_ ?_
                  rotate_left
                  ·intro w'
                   go_simp
                   with_reducible rfl
                  rotate_left
                  ·simp only [Act.put, List.setIfInBounds_toArray, List.set_cons_zero, List.set_cons_succ, i64_w, i32_w]
                   rfl
                  refine pure_ (i := 6) (N := some 64) (v := ?_) (a' := ?_) #[true, false, true, false, false, false, true, false, false, false, false, false, false] rfl rfl (any_of HT_.out (by kernel_rfl)) (fun _ _ _ h => h) (Or.inl ⟨by rfl, ?_⟩) ?_ ?_
                  rotate_left
                  ·intro w'
                   go_simp
                   with_reducible rfl
                  rotate_left
                  ·simp only [Act.put, List.setIfInBounds_toArray, List.set_cons_zero, List.set_cons_succ, i64_w, i32_w]
                   rfl
                  refine pure_ (i := 8) (N := some 66) (v := ?_) (a' := ?_) #[true, false, true, false, false, false, true, false, true, false, false, false, false] rfl rfl (any_of HT_.out (by kernel_rfl)) (fun _ _ _ h => h) (Or.inl ⟨by rfl, ?_⟩) ?_ ?_
                  rotate_left
                  ·intro w'
                   go_simp
                   with_reducible rfl
                  rotate_left
                  ·simp only [Act.put, List.setIfInBounds_toArray, List.set_cons_zero, List.set_cons_succ, i64_w, i32_w]
                   rfl
                  refine take_ (i := 1) (N := some 59) (v := ?_) (a' := ?_) #[true, true, true, false, false, false, true, false, true, false, false, false, false] rfl rfl (take_ofW HT_.out HW_.out (by kernel_rfl)) (fun _ _ _ h => h) (Or.inl ⟨by rfl, ?_⟩) hHeld ?_ ?_
                  rotate_left
                  ·rintro w' ⟨s0, s1, s2, s3⟩
                   go_simp
                   with_reducible rfl
                  rotate_left
                  ·simp only [Act.put, List.setIfInBounds_toArray, List.set_cons_zero, List.set_cons_succ, i64_w, i32_w]
                   rfl
                  refine pure_ (i := 3) (N := some 61) (v := ?_) (a' := ?_) #[true, true, true, true, false, false, true, false, true, false, false, false, false] rfl rfl (any_of HT_.out (by kernel_rfl)) (fun _ _ _ h => h) (Or.inl ⟨by rfl, ?_⟩) ?_ ?_
                  rotate_left
                  ·intro w'
                   go_simp
                   with_reducible rfl
                  rotate_left
                  ·simp only [Act.put, List.setIfInBounds_toArray, List.set_cons_zero, List.set_cons_succ, i64_w, i32_w]
                   rfl
                  refine take_ (i := 4) (N := some 62) (v := ?_) (a' := ?_) #[true, true, true, true, true, false, true, false, true, false, false, false, false] rfl rfl (take_ofW HT_.out HW_.out (by kernel_rfl)) (fun _ _ _ h => h) (Or.inl ⟨by rfl, ?_⟩) hHeld ?_ ?_
                  rotate_left
                  ·rintro w' ⟨s0, s1, s2, s3⟩
                   go_simp
                   with_reducible rfl
                  rotate_left
                  ·simp only [Act.put, List.setIfInBounds_toArray, List.set_cons_zero, List.set_cons_succ, i64_w, i32_w]
                   rfl
                  refine take_ (i := 7) (N := some 65) (v := ?_) (a' := ?_) #[true, true, true, true, true, false, true, true, true, false, false, false, false] rfl rfl (take_ofW HT_.out HW_.out (by kernel_rfl)) (fun _ _ _ h => h) (Or.inl ⟨by rfl, ?_⟩) hHeld ?_ ?_
                  rotate_left
                  ·rintro w' ⟨s0, s1, s2, s3⟩
                   go_simp
                   with_reducible rfl
                  rotate_left
                  ·simp only [Act.put, List.setIfInBounds_toArray, List.set_cons_zero, List.set_cons_succ, i64_w, i32_w]
                   rfl
                  refine pure_ (i := 9) (N := some 67) (v := ?_) (a' := ?_) #[true, true, true, true, true, false, true, true, true, true, false, false, false] rfl rfl (any_of HT_.out (by kernel_rfl)) (fun _ _ _ h => h) (Or.inl ⟨by rfl, ?_⟩) ?_ ?_
                  rotate_left
                  ·intro w'
                   go_simp
                   with_reducible rfl
                  rotate_left
                  ·simp only [Act.put, List.setIfInBounds_toArray, List.set_cons_zero, List.set_cons_succ, i64_w, i32_w]
                   rfl
                  refine take_ (i := 10) (N := some 68) (v := ?_) (a' := ?_) #[true, true, true, true, true, false, true, true, true, true, true, false, false] rfl rfl (take_ofW HT_.out HW_.out (by kernel_rfl)) (fun _ _ _ h => h) (Or.inl ⟨by rfl, ?_⟩) hHeld ?_ ?_
                  rotate_left
                  ·rintro w' ⟨s0, s1, s2, s3⟩
                   go_simp
                   with_reducible rfl
                  rotate_left
                  ·simp only [Act.put, List.setIfInBounds_toArray, List.set_cons_zero, List.set_cons_succ, i64_w, i32_w]
                   rfl
                  refine one_ (i := 5) (N := some 63) #[true, true, true, true, true, true, true, true, true, true, true, false, false] rfl rfl (one_of HT_.out (by kernel_rfl)) (by decide) (fun K hK => ?_)
                  refine goes_ Tryd.func14 (by kernel_rfl) rfl #[.slice A435_0 (rd_L15 t423 x8_1).length c435_0] (by rfl) rfl rfl (by (try simp only [List.map_toArray, List.map_cons, List.map_nil]); first | done | rfl | (simp only [List.length_drop, List.length_take]; rfl)) ?_
                  with_reducible refine (syntagmlaw14_Row.calls k2 _ _ (rd_L15 t423 x8_1) t436 _ ?side1 ?side2 A33.out).mono ?_
                  (case side1 => repeat (first | exact (by repeat (first | (with_reducible exact HR435_0.out) | (with_reducible refine Kd.C_alloc ?_ _) | (with_reducible refine Kd.C_drewN ?_ _) | (with_reducible refine Kd.C_drew ?_) | exact HR435_0.out)) | (with_reducible refine Kd.C_alloc ?_ _) | (with_reducible refine Kd.C_drewN ?_ _) | (with_reducible refine Kd.C_drew ?_)))
                  (case side2 => exact HC435_0.out)
                  rintro e w40 ⟨v437, rfl, ho0, hb⟩
                  have HS2_ := (hb.cell (World.block_lt_of_cell? _ _ (hHeld.2.2.1))).trans (hHeld.2.2.1)
                  have HS3_ := (hb.cell (World.block_lt_of_cell? _ _ (hHeld.2.2.2))).trans (hHeld.2.2.2)
                  refine ⟨_, rfl, ?_⟩
                  have n0_ := Aside0.mk (Kd.R_below (by (with_reducible repeat (first | apply Kd.R_alloc | apply Kd.R_drewN | apply Kd.R_drew)); exact HO_7.out) hb)
                  have n1_ := Aside0.mk (Kd.S_below (by (with_reducible repeat (first | apply Kd.S_alloc | apply Kd.S_drewN | apply Kd.S_drew)); exact HO_431000.out) hb)
                  have n2_ := Aside0.mk (Kd.S_below (by (with_reducible repeat (first | apply Kd.S_alloc | apply Kd.S_drewN | apply Kd.S_drew)); exact HO_431001.out) hb)
                  have n3_ := Aside0.mk (Kd.R_below (by (with_reducible repeat (first | apply Kd.R_alloc | apply Kd.R_drewN | apply Kd.R_drew)); exact HL435_0.out) hb)
                  have n4_ := Aside0.mk (Kd.R_below (by (with_reducible repeat (first | apply Kd.R_alloc | apply Kd.R_drewN | apply Kd.R_drew)); exact HL439_0.out) hb)
                  have n5_ := Aside0.mk (Kd.R_lower ho0 (below_size (by repeat (first | (with_reducible first | exact HB.out | apply below_alloc | apply pw_below_drewN | apply below_drew1 | refine below_set ?_ GE420.out | refine below_set ?_ GE430.out) | exact HB.out))))
                  have n6_ := Aside0.mk (blk_below (g := gb420) (o := .cells #[.slice A0_0 l0_0.length c0_0, .slice A0_1 l0_1.length c0_1, .slice A0_2 l0_2.length c0_2, .slice A0_3 l0_3.length c0_3, .int .i64 a0_4] 27 (0, 0)) (by (with_reducible repeat (first | refine blk_drewN ?_ _ | refine blk_drew ?_ | refine blk_alloc ?_ _)); exact BK420.out) hb)
                  have n7_ := Aside0.mk (blk_below (g := gb430) (o := .cells #[.slice (some ad435) t423.length co19, .slice Ao22 t426.length co22] 49 (0, 0)) (by (with_reducible repeat (first | refine blk_drewN ?_ _ | refine blk_drew ?_ | refine blk_alloc ?_ _)); exact BK430.out) hb)
                  have n8_ := Aside0.mk (Kd.C_below (by repeat (first | (with_reducible exact HR435_0.out) | (with_reducible refine Kd.C_alloc ?_ _) | (with_reducible refine Kd.C_drewN ?_ _) | (with_reducible refine Kd.C_drew ?_) | exact HR435_0.out)) hb)
                  have n9_ := Aside0.mk (Kd.C_below (by repeat (first | (with_reducible exact HR439_0.out) | (with_reducible refine Kd.C_alloc ?_ _) | (with_reducible refine Kd.C_drewN ?_ _) | (with_reducible refine Kd.C_drew ?_) | exact HR439_0.out)) hb)
                  have n10_ := Aside0.mk (below_step (by repeat (first | (with_reducible first | exact HB.out | apply below_alloc | apply pw_below_drewN | apply below_drew1 | refine below_set ?_ GE420.out | refine below_set ?_ GE430.out) | exact HB.out)) hb)
                  clear HO_7
                  clear HO_431000
                  clear HO_431001
                  clear HL435_0
                  clear HL439_0
                  clear BK420
                  clear BK430
                  clear HR435_0
                  clear HR439_0
                  clear HB
                  have HO_7 := n0_
                  have HO_431000 := n1_
                  have HO_431001 := n2_
                  have HL435_0 := n3_
                  have HL439_0 := n4_
                  have HO438 := n5_
                  have BK420 := n6_
                  have BK430 := n7_
                  have HR435_0 := n8_
                  have HR439_0 := n9_
                  have HB := n10_
                  clear n0_ n1_ n2_ n3_ n4_ n5_ n6_ n7_ n8_ n9_ n10_
                  (try clear hb)
                  (try clear hb2)
                  (try clear hk)
                  (try clear hi)
                  (try clear ho0)
                  refine hK.out _ _ ⟨(blk_cell BK430.out 0).trans rfl, (blk_cell BK430.out 1).trans rfl, HS2_, HS3_⟩ (fun hHeld => ?_)
                  clear hK K
                  refine norm_ (a' := ?_) ?_ ?_
                  rotate_left
                  ·show Act.put _ (some 63) _ = _
                   simp only [Act.put, List.setIfInBounds_toArray, List.set_cons_zero, List.set_cons_succ, i64_w, i32_w]
                   rfl
                  refine one_ (i := 11) (N := some 69) #[true, true, true, true, true, true, true, true, true, true, true, true, false] rfl rfl (one_of HT_.out (by kernel_rfl)) (by decide) (fun K hK => ?_)
                  refine goes_ Tryd.func14 (by kernel_rfl) rfl #[.slice A439_0 (rd_L15 t423 x9_2).length c439_0] (by rfl) rfl rfl (by (try simp only [List.map_toArray, List.map_cons, List.map_nil]); first | done | rfl | (simp only [List.length_drop, List.length_take]; rfl)) ?_
                  with_reducible refine (syntagmlaw14_Row.calls k2 _ _ (rd_L15 t423 x9_2) t440 _ ?side1 ?side2 A36.out).mono ?_
                  (case side1 => repeat (first | exact (by repeat (first | (with_reducible exact HR439_0.out) | (with_reducible refine Kd.C_alloc ?_ _) | (with_reducible refine Kd.C_drewN ?_ _) | (with_reducible refine Kd.C_drew ?_) | exact HR439_0.out)) | (with_reducible refine Kd.C_alloc ?_ _) | (with_reducible refine Kd.C_drewN ?_ _) | (with_reducible refine Kd.C_drew ?_)))
                  (case side2 => exact HC439_0.out)
                  rintro e w41 ⟨v441, rfl, ho0, hb⟩
                  have HS2_ := (hb.cell (World.block_lt_of_cell? _ _ (hHeld.2.2.1))).trans (hHeld.2.2.1)
                  have HS3_ := (hb.cell (World.block_lt_of_cell? _ _ (hHeld.2.2.2))).trans (hHeld.2.2.2)
                  refine ⟨_, rfl, ?_⟩
                  have n0_ := Aside0.mk (Kd.R_below (by (with_reducible repeat (first | apply Kd.R_alloc | apply Kd.R_drewN | apply Kd.R_drew)); exact HO_7.out) hb)
                  have n1_ := Aside0.mk (Kd.S_below (by (with_reducible repeat (first | apply Kd.S_alloc | apply Kd.S_drewN | apply Kd.S_drew)); exact HO_431000.out) hb)
                  have n2_ := Aside0.mk (Kd.S_below (by (with_reducible repeat (first | apply Kd.S_alloc | apply Kd.S_drewN | apply Kd.S_drew)); exact HO_431001.out) hb)
                  have n3_ := Aside0.mk (Kd.R_below (by (with_reducible repeat (first | apply Kd.R_alloc | apply Kd.R_drewN | apply Kd.R_drew)); exact HL435_0.out) hb)
                  have n4_ := Aside0.mk (Kd.R_below (by (with_reducible repeat (first | apply Kd.R_alloc | apply Kd.R_drewN | apply Kd.R_drew)); exact HL439_0.out) hb)
                  have n5_ := Aside0.mk (Kd.R_elder' (by (with_reducible repeat (first | apply Kd.R_alloc | apply Kd.R_drewN | apply Kd.R_drew)); exact HO438.out) (Kd.R_base ho0) hb)
                  have n6_ := Aside0.mk (Kd.R_lower (Kd.R_new' ho0 (Kd.R_lt (by (with_reducible repeat (first | apply Kd.R_alloc | apply Kd.R_drewN | apply Kd.R_drew)); exact HO438.out))) (below_size (by repeat (first | (with_reducible first | exact HB.out | apply below_alloc | apply pw_below_drewN | apply below_drew1 | refine below_set ?_ GE420.out | refine below_set ?_ GE430.out) | exact HB.out))))
                  have n7_ := Aside0.mk (blk_below (g := gb420) (o := .cells #[.slice A0_0 l0_0.length c0_0, .slice A0_1 l0_1.length c0_1, .slice A0_2 l0_2.length c0_2, .slice A0_3 l0_3.length c0_3, .int .i64 a0_4] 27 (0, 0)) (by (with_reducible repeat (first | refine blk_drewN ?_ _ | refine blk_drew ?_ | refine blk_alloc ?_ _)); exact BK420.out) hb)
                  have n8_ := Aside0.mk (blk_below (g := gb430) (o := .cells #[.slice (some ad435) t423.length co19, .slice Ao22 t426.length co22] 49 (0, 0)) (by (with_reducible repeat (first | refine blk_drewN ?_ _ | refine blk_drew ?_ | refine blk_alloc ?_ _)); exact BK430.out) hb)
                  have n9_ := Aside0.mk (Kd.C_below (by repeat (first | (with_reducible exact HR435_0.out) | (with_reducible refine Kd.C_alloc ?_ _) | (with_reducible refine Kd.C_drewN ?_ _) | (with_reducible refine Kd.C_drew ?_) | exact HR435_0.out)) hb)
                  have n10_ := Aside0.mk (Kd.C_below (by repeat (first | (with_reducible exact HR439_0.out) | (with_reducible refine Kd.C_alloc ?_ _) | (with_reducible refine Kd.C_drewN ?_ _) | (with_reducible refine Kd.C_drew ?_) | exact HR439_0.out)) hb)
                  have n11_ := Aside0.mk (below_step (by repeat (first | (with_reducible first | exact HB.out | apply below_alloc | apply pw_below_drewN | apply below_drew1 | refine below_set ?_ GE420.out | refine below_set ?_ GE430.out) | exact HB.out)) hb)
                  clear HO_7
                  clear HO_431000
                  clear HO_431001
                  clear HL435_0
                  clear HL439_0
                  clear HO438
                  clear BK420
                  clear BK430
                  clear HR435_0
                  clear HR439_0
                  clear HB
                  have HO_7 := n0_
                  have HO_431000 := n1_
                  have HO_431001 := n2_
                  have HL435_0 := n3_
                  have HL439_0 := n4_
                  have HO438 := n5_
                  have HO442 := n6_
                  have BK420 := n7_
                  have BK430 := n8_
                  have HR435_0 := n9_
                  have HR439_0 := n10_
                  have HB := n11_
                  clear n0_ n1_ n2_ n3_ n4_ n5_ n6_ n7_ n8_ n9_ n10_ n11_
                  (try clear hb)
                  (try clear hb2)
                  (try clear hk)
                  (try clear hi)
                  (try clear ho0)
                  obtain ⟨Ao42, co42, eo42⟩ := Kd.R_slice HO438.out
                  (first | subst eo42 | (injection eo42 with f1_ f2_ f3_; have f4_ := f1_.symm; have f5_ := f3_.symm; clear f1_ f2_ f3_; subst f4_; subst f5_))
                  obtain ⟨Ao43, co43, eo43⟩ := Kd.R_slice HO442.out
                  (first | subst eo43 | (injection eo43 with f1_ f2_ f3_; have f4_ := f1_.symm; have f5_ := f3_.symm; clear f1_ f2_ f3_; subst f4_; subst f5_))
                  refine hK.out _ _ ⟨(blk_cell BK430.out 0).trans rfl, (blk_cell BK430.out 1).trans rfl, HS2_, HS3_⟩ (fun hHeld => ?_)
                  clear hK K
                  refine norm_ (a' := ?_) ?_ ?_
                  rotate_left
                  ·show Act.put _ (some 69) _ = _
                   simp only [Act.put, List.setIfInBounds_toArray, List.set_cons_zero, List.set_cons_succ, i64_w, i32_w]
                   rfl
                  refine one_ (i := 12) (N := some 70) #[true, true, true, true, true, true, true, true, true, true, true, true, true] rfl rfl (one_of HT_.out (by kernel_rfl)) (by decide) (fun K hK => ?_)
                  refine goes_ Tryd.func17 (by kernel_rfl) rfl #[.slice Ao42 t436.length co42, .slice Ao43 t440.length co43] (by rfl) rfl rfl (by (try simp only [List.map_toArray, List.map_cons, List.map_nil]); first | done | rfl | (simp only [List.length_drop, List.length_take]; rfl)) ?_
                  with_reducible refine (syntagmref14_Row.calls k2 _ _ t436 _ _ t440 false _ ?side1 ?side2 ?side3 ?side4 A37.out).mono ?_
                  (case side1 => repeat (first | exact (Kd.R_reads' HO438.out).2.2 | (with_reducible refine Kd.C_alloc ?_ _) | (with_reducible refine Kd.C_drewN ?_ _) | (with_reducible refine Kd.C_drew ?_)))
                  (case side2 => exact (Kd.R_reads' HO438.out).2.1)
                  (case side3 => repeat (first | exact (Kd.R_reads' HO442.out).2.2 | (with_reducible refine Kd.C_alloc ?_ _) | (with_reducible refine Kd.C_drewN ?_ _) | (with_reducible refine Kd.C_drew ?_)))
                  (case side4 => exact (Kd.R_reads' HO442.out).2.1)
                  rintro e w' ⟨rfl, ⟨nd, rfl⟩⟩
                  refine ⟨_, rfl, ?_⟩
                  refine hK.out _ _ ⟨(blk_cell BK430.out 0).trans rfl, (blk_cell BK430.out 1).trans rfl, hHeld.2.2.1, hHeld.2.2.2⟩ (fun hHeld => ?_)
                  clear hK K
                  refine norm_ (a' := ?_) ?_ ?_
                  rotate_left
                  ·show Act.put _ (some 70) _ = _
                   simp only [Act.put, List.setIfInBounds_toArray, List.set_cons_zero, List.set_cons_succ, i64_w, i32_w]
                   rfl
                  refine done_ (done_of HT_.out (by kernel_rfl)) ?_
                  try go_wp2
                  go_roundg k2
                  case measure => have := HK1.out; have := HK2.out; omega
                  case rel => exact ⟨(wrap64 (x9_2 + 1)), (by first | rfl | (simp; done) | (simp [*]; done)), H', ⟨by have := HK1.out; have := HK2.out; omega⟩, ⟨by (try simp only [hl7_1]); (with_reducible repeat (first | apply Kd.R_alloc | apply Kd.R_drewN | apply Kd.R_drew)); exact HO_7.out⟩, ⟨by (try simp only [hl7_1]); (with_reducible repeat (first | apply Kd.S_alloc | apply Kd.S_drewN | apply Kd.S_drew)); exact HO_431000.out⟩, ⟨by (try simp only [hl7_1]); (with_reducible repeat (first | apply Kd.S_alloc | apply Kd.S_drewN | apply Kd.S_drew)); exact HO_431001.out⟩, ⟨by (try simp only [hl7_1]); (with_reducible repeat (first | refine blk_drewN ?_ _ | refine blk_drew ?_ | refine blk_alloc ?_ _)); exact BK420.out⟩, ⟨by (try simp only [hl7_1]); (with_reducible repeat (first | refine blk_drewN ?_ _ | refine blk_drew ?_ | refine blk_alloc ?_ _)); exact BK430.out⟩, ⟨by repeat (first | (with_reducible first | exact HB.out | apply below_alloc | apply pw_below_drewN | apply below_drew1 | refine below_set ?_ GE420.out | refine below_set ?_ GE430.out) | exact HB.out)⟩⟩
                ·rw [if_neg c35] at H
                 exact absurd H (by simp)
               ·rw [if_neg c34] at H
                exact absurd H (by simp)
              ·rw [if_neg c32] at H
               exact absurd H (by simp)
             ·rw [if_neg c31] at H
              exact absurd H (by simp)
            ·rw [if_neg c30] at H
             have c30b0 : decide (x9_2 < x8_1) = false := decide_eq_false c30
             clear c30
             have H' := Aside0.mk H
             clear H
             go_wp2
             go_loopg [10] k2 (fun kq v10 w' => ∃ (x7_3 : List Bool) (x10_3 : Int), v10 = .int .i64 x10_3 ∧ Aside0 (syntagmlaw14_StatesAhead.l2 kq true x7_3 x8_1 x10_3 l0_0 l0_1 l0_2 l0_3 a0_4 t423 t426 = some r) ∧ Aside0 (kq ≤ k2) ∧ Aside0 (Kd.R Kd.bool 4 w' w.heap.size (fun _ => True) (.slice (some ⟨go11, 0, none⟩) x7_1.length co11) x7_3) ∧ Aside0 (Kd.S (Kd.slice 37 k37) 28 w' w.heap.size (fun _ => True) (.slice Ao19 t423.length co19) t423) ∧ Aside0 (Kd.S (Kd.slice 3 (Kd.int .i64)) 58 w' w.heap.size (fun _ => True) (.slice Ao22 t426.length co22) t426) ∧ Aside0 (w'.heap[gb420]? = some (.cells #[(.slice A0_0 l0_0.length c0_0), (.slice A0_1 l0_1.length c0_1), (.slice A0_2 l0_2.length c0_2), (.slice A0_3 l0_3.length c0_3), .int .i64 a0_4] 27 (0, 0))) ∧ Aside0 (w'.heap[gb430]? = some (.cells #[(.slice Ao19 t423.length co19), (.slice Ao22 t426.length co22)] 49 (0, 0))) ∧ Aside0 (Below w.heap.size w w'))
             case atStart => exact ⟨(x7_1), (0), (by first | rfl | (simp; done) | (simp [*]; done)), H', ⟨Nat.le_refl _⟩, ⟨by (try simp only [hl7_1]); (with_reducible repeat (first | apply Kd.R_alloc | apply Kd.R_drewN | apply Kd.R_drew)); exact HO_7.out⟩, ⟨by (try simp only [hl7_1]); (with_reducible repeat (first | apply Kd.S_alloc | apply Kd.S_drewN | apply Kd.S_drew)); exact HO_431000.out⟩, ⟨by (try simp only [hl7_1]); (with_reducible repeat (first | apply Kd.S_alloc | apply Kd.S_drewN | apply Kd.S_drew)); exact HO_431001.out⟩, ⟨by (try simp only [hl7_1]); (with_reducible repeat (first | refine blk_drewN ?_ _ | refine blk_drew ?_ | refine blk_alloc ?_ _)); exact BK420.out⟩, ⟨by (try simp only [hl7_1]); (with_reducible repeat (first | refine blk_drewN ?_ _ | refine blk_drew ?_ | refine blk_alloc ?_ _)); exact BK430.out⟩, ⟨by repeat (first | (with_reducible first | exact HB.out | apply below_alloc | apply pw_below_drewN | apply below_drew1 | refine below_set ?_ GE420.out | refine below_set ?_ GE430.out) | exact HB.out)⟩⟩
             case round =>
              clear H'
              try clear c1
              try clear p1
              try clear q1
              try clear hx1
              try clear qi1
              try clear hf1
              try clear c2
              try clear p2
              try clear c3
              try clear c4
              try clear p4
              try clear q4
              try clear hx4
              try clear c5
              try clear c6
              try clear p6
              try clear c7
              try clear c7b0
              try clear c7b1
              try clear c8
              try clear c8b0
              try clear c8b1
              try clear c9
              try clear c9b0
              try clear c9b1
              try clear c10
              try clear c10b0
              try clear c10b1
              try clear p11
              try clear q11
              try clear hx11
              try clear qi11
              try clear hf11
              try clear c12
              try clear c14
              try clear c17
              try clear c20
              try clear c22
              try clear c23
              try clear c27
              try clear c27b0
              try clear c28
              try clear c30
              try clear c30b0
              try clear c31
              try clear c31b0
              try clear c32
              try clear c32b0
              try clear c34
              try clear c34b0
              try clear c35
              try clear c35b0
              try clear c38
              try clear c43
              try clear p43
              try clear q43
              try clear hx43
              try clear hcz14_0
              try clear hcz14_1
              try clear hcz14_2
              try clear hcz14_3
              try clear hcz14_4
              try clear hcz16_0
              try clear hcz16_1
              try clear hcz16_2
              try clear hcz16_3
              try clear hcz16_4
              try clear hcz21_0
              try clear hcz21_1
              try clear hcz29_0
              try clear hcz29_1
              try clear hfz14_0
              try clear hfz14_1
              try clear hfz14_2
              try clear hfz14_3
              try clear hfz14_4
              try clear hfz16_0
              try clear hfz16_1
              try clear hfz16_2
              try clear hfz16_3
              try clear hfz16_4
              try clear hfz21_0
              try clear hfz21_1
              try clear hfz29_0
              try clear hfz29_1
              try clear hx11_0
              try clear hx435_0
              try clear hx439_0
              try clear p1
              try clear p11
              try clear p2
              try clear p435
              try clear p439
              try clear q1
              try clear q11
              try clear q435
              try clear q439
              obtain ⟨x7_3, x10_3, rfl, HA, HK3, HO_7, HO_431000, HO_431001, BK420, BK430, HB⟩ := hrel
              have hl7_3 := (Kd.R_reads' HO_7.out).1
              rw [hl7_3] at HO_7
              (try simp only [hl7_3])
              (try simp only [hl7_3] at BK420)
              (try simp only [hl7_3] at BK430)
              (try simp only [hl7_3] at HO_431000)
              (try simp only [hl7_3] at HO_431001)
              cases gk with
              | zero => exact absurd HA.out (by simp [syntagmlaw14_StatesAhead.l2])
              | succ k3 =>
               have H := HA.out
               clear HA
               simp only [syntagmlaw14_StatesAhead.l2] at H
               by_cases c44 : 0 ≤ x8_1
               ·rw [if_pos c44] at H
                have c44b0 : decide (0 ≤ x8_1) = true := decide_eq_true c44
                clear c44
                by_cases c45 : x8_1 < (t426.length : Int)
                ·rw [if_pos c45] at H
                 have c45b0 : decide (x8_1 < (t426.length : Int)) = true := decide_eq_true c45
                 clear c45
                 by_cases c46 : x10_3 < ((rd_L17 t426 x8_1).length : Int)
                 ·rw [if_pos c46] at H
                  have c46b0 : decide (x10_3 < ((rd_L17 t426 x8_1).length : Int)) = true := decide_eq_true c46
                  clear c46
                  have HC47 := Aside0.mk H
                  clear H
                  have hnb48 := NB430_420.out
                  have hnc48 := NB420_430.out
                  have hcz49_0 : wr.cell? ⟨gb430, 0, none⟩ = some (.slice Ao19 t423.length co19) := (blk_cell BK430.out 0).trans rfl
                  have hcz49_1 : wr.cell? ⟨gb430, 1, none⟩ = some (.slice Ao22 t426.length co22) := (blk_cell BK430.out 1).trans rfl
                  have hfz49_0 := blk_frozen BK430.out 0
                  have hfz49_1 := blk_frozen BK430.out 1
                  have p444 : 0 ≤ (x8_1 : Int) := of_decide_eq_true (by first | (with_reducible assumption) | assumption)
                  have q444 : x8_1 < (t426.length : Int) := of_decide_eq_true (by first | (with_reducible assumption) | assumption)
                  obtain ⟨ad444, A444_0, c444_0, e444, hx444_0, hl444_0, hi444_0⟩ := at_L17 (Kd.S_reads' HO_431001.out).2.2 x8_1 p444 q444
                  cases e444
                  obtain ⟨ce444, hce444, hMe444, hcc444⟩ := Kd.S_get HO_431001.out [] x8_1 p444 (by first | exact q444 | exact of_decide_eq_true (by first | (with_reducible assumption) | assumption) | (have e_ := (Kd.S_reads' HO_431001.out).1; omega))
                  obtain ⟨ve444_0, rfl, ge444_0⟩ := hMe444
                  have hv444_0 := hcc444 0 _ rfl
                  rw [Nat.add_zero, show ((Kd.slice 3 (Kd.int .i64))).sz = 1 from rfl, Nat.mul_one] at hv444_0
                  replace hv444_0 := Option.some.inj (hv444_0.symm.trans hx444_0)
                  rw [hv444_0] at ge444_0
                  have HL444_0 := Aside0.mk (show Kd.R (Kd.int .i64) 3 _ _ _ _ (rd_L17 t426 x8_1) from ge444_0)
                  clear hv444_0 ge444_0
                  clear hcc444 hce444
                  have HR444_0 := Aside0.mk hi444_0
                  have HC444_0 := Aside0.mk hl444_0
                  clear hi444_0 hl444_0
                  replace p444 := eq_true p444
                  replace q444 := eq_true q444
                  have hcz50_0 : wr.cell? ⟨gb420, 0, none⟩ = some (.slice A0_0 l0_0.length c0_0) := (blk_cell BK420.out 0).trans rfl
                  have hcz50_1 : wr.cell? ⟨gb420, 1, none⟩ = some (.slice A0_1 l0_1.length c0_1) := (blk_cell BK420.out 1).trans rfl
                  have hcz50_2 : wr.cell? ⟨gb420, 2, none⟩ = some (.slice A0_2 l0_2.length c0_2) := (blk_cell BK420.out 2).trans rfl
                  have hcz50_3 : wr.cell? ⟨gb420, 3, none⟩ = some (.slice A0_3 l0_3.length c0_3) := (blk_cell BK420.out 3).trans rfl
                  have hcz50_4 : wr.cell? ⟨gb420, 4, none⟩ = some (.int .i64 a0_4) := (blk_cell BK420.out 4).trans rfl
                  have hfz50_0 := blk_frozen BK420.out 0
                  have hfz50_1 := blk_frozen BK420.out 1
                  have hfz50_2 := blk_frozen BK420.out 2
                  have hfz50_3 := blk_frozen BK420.out 3
                  have hfz50_4 := blk_frozen BK420.out 4
                  go_upto_if 86 with (fail)
                  go_cut [11] (fun v11 wc => ∃ (kq : Nat) (x11_46 : Int), v11 = .int .i64 x11_46 ∧ Aside0 (syntagmlaw14_StatesAhead.j3 kq true x7_3 x8_1 x10_3 x11_46 l0_0 l0_1 l0_2 l0_3 a0_4 t423 t426 = some r) ∧ Aside0 (kq ≤ k3) ∧ Aside0 (Kd.R Kd.bool 4 wc w.heap.size (fun _ => True) (.slice (some ⟨go11, 0, none⟩) x7_3.length co11) x7_3) ∧ Aside0 (Kd.S (Kd.slice 37 k37) 28 wc w.heap.size (fun _ => True) (.slice Ao19 t423.length co19) t423) ∧ Aside0 (Kd.S (Kd.slice 3 (Kd.int .i64)) 58 wc w.heap.size (fun _ => True) (.slice (some ad444) t426.length co22) t426) ∧ Aside0 (wc.heap[gb420]? = some (.cells #[(.slice A0_0 l0_0.length c0_0), (.slice A0_1 l0_1.length c0_1), (.slice A0_2 l0_2.length c0_2), (.slice A0_3 l0_3.length c0_3), .int .i64 a0_4] 27 (0, 0))) ∧ Aside0 (wc.heap[gb430]? = some (.cells #[(.slice Ao19 t423.length co19), (.slice (some ad444) t426.length co22)] 49 (0, 0))) ∧ Aside0 (Kd.C (Kd.int .i64) wc A444_0 (rd_L17 t426 x8_1).length (rd_L17 t426 x8_1)) ∧ Aside0 (Below w.heap.size w wc))
                  case first =>
                   have H := HC47.out
                   clear HC47
                   by_cases c51 : x10_3 ≥ (l0_0.length : Int)
                   ·rw [if_pos c51] at H
                    have c51b0 : decide ((l0_0.length : Int) ≤ x10_3) = true := decide_eq_true c51
                    clear c51
                    (first | rw [c51b0] | (simp only [i64_w, i32_w]; rw [c51b0]) | skip)
                    have H' := Aside0.mk H
                    clear H
                    have hnb52 := NB420_430.out
                    have hnc52 := NB430_420.out
                    have hcz53_0 : wr.cell? ⟨gb420, 0, none⟩ = some (.slice A0_0 l0_0.length c0_0) := (blk_cell BK420.out 0).trans rfl
                    have hcz53_1 : wr.cell? ⟨gb420, 1, none⟩ = some (.slice A0_1 l0_1.length c0_1) := (blk_cell BK420.out 1).trans rfl
                    have hcz53_2 : wr.cell? ⟨gb420, 2, none⟩ = some (.slice A0_2 l0_2.length c0_2) := (blk_cell BK420.out 2).trans rfl
                    have hcz53_3 : wr.cell? ⟨gb420, 3, none⟩ = some (.slice A0_3 l0_3.length c0_3) := (blk_cell BK420.out 3).trans rfl
                    have hcz53_4 : wr.cell? ⟨gb420, 4, none⟩ = some (.int .i64 a0_4) := (blk_cell BK420.out 4).trans rfl
                    have hfz53_0 := blk_frozen BK420.out 0
                    have hfz53_1 := blk_frozen BK420.out 1
                    have hfz53_2 := blk_frozen BK420.out 2
                    have hfz53_3 := blk_frozen BK420.out 3
                    have hfz53_4 := blk_frozen BK420.out 4
                    go_wp2
                    go_meet
                    case rel => exact ⟨_, (wrap64 ((-1) - (wrap64 (x10_3 - (l0_0.length : Int))))), (by first | rfl | (simp; done) | (simp [*]; done)), H', ⟨by have := HK1.out; have := HK2.out; have := HK3.out; first | omega | exact Nat.le_refl _⟩, ⟨by (try simp only [hl7_1]); (try simp only [hl7_3]); (with_reducible repeat (first | apply Kd.R_alloc | apply Kd.R_drewN | apply Kd.R_drew)); exact HO_7.out⟩, ⟨by (try simp only [hl7_1]); (try simp only [hl7_3]); (with_reducible repeat (first | apply Kd.S_alloc | apply Kd.S_drewN | apply Kd.S_drew)); exact HO_431000.out⟩, ⟨by (try simp only [hl7_1]); (try simp only [hl7_3]); (with_reducible repeat (first | apply Kd.S_alloc | apply Kd.S_drewN | apply Kd.S_drew)); exact HO_431001.out⟩, ⟨by (try simp only [hl7_1]); (try simp only [hl7_3]); (with_reducible repeat (first | refine blk_drewN ?_ _ | refine blk_drew ?_ | refine blk_alloc ?_ _)); exact BK420.out⟩, ⟨by (try simp only [hl7_1]); (try simp only [hl7_3]); (with_reducible repeat (first | refine blk_drewN ?_ _ | refine blk_drew ?_ | refine blk_alloc ?_ _)); exact BK430.out⟩, ⟨by repeat (first | (with_reducible exact HR444_0.out) | (with_reducible refine Kd.C_alloc ?_ _) | (with_reducible refine Kd.C_drewN ?_ _) | (with_reducible refine Kd.C_drew ?_) | exact HR444_0.out)⟩, ⟨by repeat (first | (with_reducible first | exact HB.out | apply below_alloc | apply pw_below_drewN | apply below_drew1 | refine below_set ?_ GE420.out | refine below_set ?_ GE430.out) | exact HB.out)⟩⟩
                   ·rw [if_neg c51] at H
                    have c51b0 : decide ((l0_0.length : Int) ≤ x10_3) = false := decide_eq_false c51
                    clear c51
                    (first | rw [c51b0] | (simp only [i64_w, i32_w]; rw [c51b0]) | skip)
                    have H' := Aside0.mk H
                    clear H
                    go_wp2
                    go_meet
                    case rel => exact ⟨_, (x10_3), (by first | rfl | (simp; done) | (simp [*]; done)), H', ⟨by have := HK1.out; have := HK2.out; have := HK3.out; first | omega | exact Nat.le_refl _⟩, ⟨by (try simp only [hl7_1]); (try simp only [hl7_3]); (with_reducible repeat (first | apply Kd.R_alloc | apply Kd.R_drewN | apply Kd.R_drew)); exact HO_7.out⟩, ⟨by (try simp only [hl7_1]); (try simp only [hl7_3]); (with_reducible repeat (first | apply Kd.S_alloc | apply Kd.S_drewN | apply Kd.S_drew)); exact HO_431000.out⟩, ⟨by (try simp only [hl7_1]); (try simp only [hl7_3]); (with_reducible repeat (first | apply Kd.S_alloc | apply Kd.S_drewN | apply Kd.S_drew)); exact HO_431001.out⟩, ⟨by (try simp only [hl7_1]); (try simp only [hl7_3]); (with_reducible repeat (first | refine blk_drewN ?_ _ | refine blk_drew ?_ | refine blk_alloc ?_ _)); exact BK420.out⟩, ⟨by (try simp only [hl7_1]); (try simp only [hl7_3]); (with_reducible repeat (first | refine blk_drewN ?_ _ | refine blk_drew ?_ | refine blk_alloc ?_ _)); exact BK430.out⟩, ⟨by repeat (first | (with_reducible exact HR444_0.out) | (with_reducible refine Kd.C_alloc ?_ _) | (with_reducible refine Kd.C_drewN ?_ _) | (with_reducible refine Kd.C_drew ?_) | exact HR444_0.out)⟩, ⟨by repeat (first | (with_reducible first | exact HB.out | apply below_alloc | apply pw_below_drewN | apply below_drew1 | refine below_set ?_ GE420.out | refine below_set ?_ GE430.out) | exact HB.out)⟩⟩
                  case rest =>
                   clear HC47
                   try clear c1
                   try clear p1
                   try clear q1
                   try clear hx1
                   try clear qi1
                   try clear hf1
                   try clear c2
                   try clear p2
                   try clear c3
                   try clear c4
                   try clear p4
                   try clear q4
                   try clear hx4
                   try clear c5
                   try clear c6
                   try clear p6
                   try clear c7
                   try clear c7b0
                   try clear c7b1
                   try clear c8
                   try clear c8b0
                   try clear c8b1
                   try clear c9
                   try clear c9b0
                   try clear c9b1
                   try clear c10
                   try clear c10b0
                   try clear c10b1
                   try clear p11
                   try clear q11
                   try clear hx11
                   try clear qi11
                   try clear hf11
                   try clear c12
                   try clear c14
                   try clear c17
                   try clear c20
                   try clear c22
                   try clear c23
                   try clear c27
                   try clear c27b0
                   try clear c28
                   try clear c30
                   try clear c30b0
                   try clear c31
                   try clear c31b0
                   try clear c32
                   try clear c32b0
                   try clear c34
                   try clear c34b0
                   try clear c35
                   try clear c35b0
                   try clear c38
                   try clear c43
                   try clear p43
                   try clear q43
                   try clear hx43
                   try clear c44
                   try clear c44b0
                   try clear p44
                   try clear q44
                   try clear hx44
                   try clear c45
                   try clear c45b0
                   try clear c46
                   try clear c46b0
                   try clear c48
                   try clear c51
                   try clear c51b0
                   try clear c52
                   try clear hcz14_0
                   try clear hcz14_1
                   try clear hcz14_2
                   try clear hcz14_3
                   try clear hcz14_4
                   try clear hcz16_0
                   try clear hcz16_1
                   try clear hcz16_2
                   try clear hcz16_3
                   try clear hcz16_4
                   try clear hcz21_0
                   try clear hcz21_1
                   try clear hcz29_0
                   try clear hcz29_1
                   try clear hcz49_0
                   try clear hcz49_1
                   try clear hcz50_0
                   try clear hcz50_1
                   try clear hcz50_2
                   try clear hcz50_3
                   try clear hcz50_4
                   try clear hcz53_0
                   try clear hcz53_1
                   try clear hcz53_2
                   try clear hcz53_3
                   try clear hcz53_4
                   try clear hfz14_0
                   try clear hfz14_1
                   try clear hfz14_2
                   try clear hfz14_3
                   try clear hfz14_4
                   try clear hfz16_0
                   try clear hfz16_1
                   try clear hfz16_2
                   try clear hfz16_3
                   try clear hfz16_4
                   try clear hfz21_0
                   try clear hfz21_1
                   try clear hfz29_0
                   try clear hfz29_1
                   try clear hfz49_0
                   try clear hfz49_1
                   try clear hfz50_0
                   try clear hfz50_1
                   try clear hfz50_2
                   try clear hfz50_3
                   try clear hfz50_4
                   try clear hfz53_0
                   try clear hfz53_1
                   try clear hfz53_2
                   try clear hfz53_3
                   try clear hfz53_4
                   try clear hx11_0
                   try clear hx435_0
                   try clear hx439_0
                   try clear hx444_0
                   try clear p1
                   try clear p11
                   try clear p2
                   try clear p4
                   try clear p43
                   try clear p435
                   try clear p439
                   try clear p444
                   try clear p6
                   try clear q1
                   try clear q11
                   try clear q4
                   try clear q43
                   try clear q435
                   try clear q439
                   try clear q444
                   obtain ⟨kq, x11_46, rfl, HA, HJ46, HO_7, HO_431000, HO_431001, BK420, BK430, HR444_0, HB⟩ := hcut
                   cases kq with
                   | zero => exact absurd HA.out (by simp [syntagmlaw14_StatesAhead.j3])
                   | succ kj46 =>
                    have H := HA.out
                    clear HA
                    simp only [syntagmlaw14_StatesAhead.j3] at H
                    by_cases c54 : 0 ≤ x8_1
                    ·rw [if_pos c54] at H
                     have c54b0 : decide (0 ≤ x8_1) = true := decide_eq_true c54
                     clear c54
                     by_cases c55 : x8_1 < (t426.length : Int)
                     ·rw [if_pos c55] at H
                      have c55b0 : decide (x8_1 < (t426.length : Int)) = true := decide_eq_true c55
                      clear c55
                      by_cases c56 : 0 ≤ x10_3
                      ·rw [if_pos c56] at H
                       have c56b0 : decide (0 ≤ x10_3) = true := decide_eq_true c56
                       clear c56
                       by_cases c57 : x10_3 < ((rd_L17 t426 x8_1).length : Int)
                       ·rw [if_pos c57] at H
                        have c57b0 : decide (x10_3 < ((rd_L17 t426 x8_1).length : Int)) = true := decide_eq_true c57
                        clear c57
                        have HC58 := Aside0.mk H
                        clear H
                        have hnb59 := NB430_420.out
                        have hnc59 := NB420_430.out
                        have hcz60_0 : wc.cell? ⟨gb430, 0, none⟩ = some (.slice Ao19 t423.length co19) := (blk_cell BK430.out 0).trans rfl
                        have hcz60_1 : wc.cell? ⟨gb430, 1, none⟩ = some (.slice (some ad444) t426.length co22) := (blk_cell BK430.out 1).trans rfl
                        have hfz60_0 := blk_frozen BK430.out 0
                        have hfz60_1 := blk_frozen BK430.out 1
                        have p445 : 0 ≤ (x8_1 : Int) := of_decide_eq_true (by first | (with_reducible assumption) | assumption)
                        have q445 : x8_1 < (t426.length : Int) := of_decide_eq_true (by first | (with_reducible assumption) | assumption)
                        obtain ⟨ad445, A445_0, c445_0, e445, hx445_0, hl445_0, hi445_0⟩ := at_L17 (Kd.S_reads' HO_431001.out).2.2 x8_1 p445 q445
                        obtain rfl : ad444 = ad445 := (by injection e445)
                        obtain ⟨ce445, hce445, hMe445, hcc445⟩ := Kd.S_get HO_431001.out [] x8_1 p445 (by first | exact q445 | exact of_decide_eq_true (by first | (with_reducible assumption) | assumption) | (have e_ := (Kd.S_reads' HO_431001.out).1; omega))
                        obtain ⟨ve445_0, rfl, ge445_0⟩ := hMe445
                        have hv445_0 := hcc445 0 _ rfl
                        rw [Nat.add_zero, show ((Kd.slice 3 (Kd.int .i64))).sz = 1 from rfl, Nat.mul_one] at hv445_0
                        replace hv445_0 := Option.some.inj (hv445_0.symm.trans hx445_0)
                        rw [hv445_0] at ge445_0
                        have HL445_0 := Aside0.mk (show Kd.R (Kd.int .i64) 3 _ _ _ _ (rd_L17 t426 x8_1) from ge445_0)
                        clear hv445_0 ge445_0
                        clear hcc445 hce445
                        have HR445_0 := Aside0.mk hi445_0
                        have HC445_0 := Aside0.mk hl445_0
                        clear hi445_0 hl445_0
                        replace p445 := eq_true p445
                        replace q445 := eq_true q445
                        have p446 : 0 ≤ (x10_3 : Int) := of_decide_eq_true (by first | (with_reducible assumption) | assumption)
                        have q446 : x10_3 < ((rd_L17 t426 x8_1).length : Int) := of_decide_eq_true (by first | (with_reducible assumption) | assumption)
                        obtain ⟨ad446, e446, hx446_0⟩ := Kd.at_int (by repeat (first | (with_reducible exact HR445_0.out) | (with_reducible refine Kd.C_alloc ?_ _) | (with_reducible refine Kd.C_drewN ?_ _) | (with_reducible refine Kd.C_drew ?_) | exact HR445_0.out)) x10_3 p446 q446
                        cases e446
                        replace p446 := eq_true p446
                        replace q446 := eq_true q446
                        go_upto_region 27 with (fail)
                        go_cut [118] (fun v118 wc => ∃ (kq : Nat) (x118_57 : Bool), v118 = .bool x118_57 ∧ Aside0 (syntagmlaw14_StatesAhead.j4 kq true x7_3 x8_1 x10_3 x11_46 (rd (rd_L17 t426 x8_1) x10_3) x118_57 l0_0 l0_1 l0_2 l0_3 a0_4 t423 t426 = some r) ∧ Aside0 (kq ≤ kj46) ∧ Aside0 (Kd.R Kd.bool 4 wc w.heap.size (fun _ => True) (.slice (some ⟨go11, 0, none⟩) x7_3.length co11) x7_3) ∧ Aside0 (Kd.S (Kd.slice 37 k37) 28 wc w.heap.size (fun _ => True) (.slice Ao19 t423.length co19) t423) ∧ Aside0 (Kd.S (Kd.slice 3 (Kd.int .i64)) 58 wc w.heap.size (fun _ => True) (.slice (some ad444) t426.length co22) t426) ∧ Aside0 (wc.heap[gb420]? = some (.cells #[(.slice A0_0 l0_0.length c0_0), (.slice A0_1 l0_1.length c0_1), (.slice A0_2 l0_2.length c0_2), (.slice A0_3 l0_3.length c0_3), .int .i64 a0_4] 27 (0, 0))) ∧ Aside0 (wc.heap[gb430]? = some (.cells #[(.slice Ao19 t423.length co19), (.slice (some ad444) t426.length co22)] 49 (0, 0))) ∧ Aside0 (Kd.C (Kd.int .i64) wc A444_0 (rd_L17 t426 x8_1).length (rd_L17 t426 x8_1)) ∧ Aside0 (Kd.C (Kd.int .i64) wc (some ad446) (rd_L17 t426 x8_1).length (rd_L17 t426 x8_1)) ∧ Aside0 (Below w.heap.size w wc))
                        case first =>
                         have H := HC58.out
                         clear HC58
                         replace H := Option.bind_eq_some_iff.mp H
                         obtain ⟨t447, A610, H⟩ := H
                         replace H : (if (rd (rd_L17 t426 x8_1) x10_3) = t447 then (if (rd (rd_L17 t426 x8_1) x10_3) ≥ (t423.length : Int) then (syntagmlaw14_StatesAhead.j4 kj46 true x7_3 x8_1 x10_3 x11_46 (rd (rd_L17 t426 x8_1) x10_3) true l0_0 l0_1 l0_2 l0_3 a0_4 t423 t426) else (syntagmlaw14_StatesAhead.j4 kj46 true x7_3 x8_1 x10_3 x11_46 (rd (rd_L17 t426 x8_1) x10_3) ((rd (rd_L17 t426 x8_1) x10_3) == 0) l0_0 l0_1 l0_2 l0_3 a0_4 t423 t426)) else (syntagmlaw14_StatesAhead.j4 kj46 true x7_3 x8_1 x10_3 x11_46 (rd (rd_L17 t426 x8_1) x10_3) true l0_0 l0_1 l0_2 l0_3 a0_4 t423 t426)) = some r := H
                         have A61 := Aside0.mk A610
                         clear A610
                         by_cases c62 : (rd (rd_L17 t426 x8_1) x10_3) = t447
                         ·rw [if_pos c62] at H
                          have c62b0 : ((rd (rd_L17 t426 x8_1) x10_3) == t447) = true := beq_iff_eq.mpr c62
                          have c62b1 : ((rd (rd_L17 t426 x8_1) x10_3) != t447) = false := bne_eq_false_iff_eq.mpr c62
                          clear c62
                          (first | rw [c62b0] | (simp only [i64_w, i32_w]; rw [c62b0]) | skip)
                          by_cases c63 : (rd (rd_L17 t426 x8_1) x10_3) ≥ (t423.length : Int)
                          ·rw [if_pos c63] at H
                           have c63b0 : decide ((t423.length : Int) ≤ (rd (rd_L17 t426 x8_1) x10_3)) = true := decide_eq_true c63
                           clear c63
                           have H' := Aside0.mk H
                           clear H
                           have hnb64 := NB420_430.out
                           have hnc64 := NB430_420.out
                           have hcz65_0 : wc.cell? ⟨gb420, 0, none⟩ = some (.slice A0_0 l0_0.length c0_0) := (blk_cell BK420.out 0).trans rfl
                           have hcz65_1 : wc.cell? ⟨gb420, 1, none⟩ = some (.slice A0_1 l0_1.length c0_1) := (blk_cell BK420.out 1).trans rfl
                           have hcz65_2 : wc.cell? ⟨gb420, 2, none⟩ = some (.slice A0_2 l0_2.length c0_2) := (blk_cell BK420.out 2).trans rfl
                           have hcz65_3 : wc.cell? ⟨gb420, 3, none⟩ = some (.slice A0_3 l0_3.length c0_3) := (blk_cell BK420.out 3).trans rfl
                           have hcz65_4 : wc.cell? ⟨gb420, 4, none⟩ = some (.int .i64 a0_4) := (blk_cell BK420.out 4).trans rfl
                           have hfz65_0 := blk_frozen BK420.out 0
                           have hfz65_1 := blk_frozen BK420.out 1
                           have hfz65_2 := blk_frozen BK420.out 2
                           have hfz65_3 := blk_frozen BK420.out 3
                           have hfz65_4 := blk_frozen BK420.out 4
                           have hcz66_0 : wc.cell? ⟨gb430, 0, none⟩ = some (.slice Ao19 t423.length co19) := (blk_cell BK430.out 0).trans rfl
                           have hcz66_1 : wc.cell? ⟨gb430, 1, none⟩ = some (.slice (some ad444) t426.length co22) := (blk_cell BK430.out 1).trans rfl
                           have hfz66_0 := blk_frozen BK430.out 0
                           have hfz66_1 := blk_frozen BK430.out 1
                           go_wp2_with (first | ((with_reducible refine gate_callee (f := 25) rfl ?_); refine goesL_ (some 106) rfl rfl Tryd.func25 (by kernel_rfl) rfl #[.agg #[.slice A0_0 l0_0.length c0_0, .slice A0_1 l0_1.length c0_1, .slice A0_2 l0_2.length c0_2, .slice A0_3 l0_3.length c0_3, .int .i64 a0_4], .agg #[.slice Ao19 t423.length co19, .slice (some ad444) t426.length co22], .int .i64 x8_1, .int .i64 x11_46] rfl (by (try simp only [List.map_toArray, List.map_cons, List.map_nil]); first | done | rfl | (simp only [List.length_drop, List.length_take]; rfl)) ?_; (with_reducible refine (states_Go.calls _ _ l0_0 _ _ l0_1 _ _ l0_2 _ _ l0_3 a0_4 _ _ t423 _ _ t426 x8_1 x11_46 t447 _ ?side1 ?side2 ?side3 ?side4 ?side5 ?side6 ?side7 ?side8 ?side9 ?side10 ?side11 ?side12 A61.out).mono ?_); (case side1 => repeat (first | exact (Kd.C_below HR0_0.out HB.out) | (with_reducible refine Kd.C_alloc ?_ _) | (with_reducible refine Kd.C_drewN ?_ _) | (with_reducible refine Kd.C_drew ?_))); (case side2 => exact HC0_0.out); (case side3 => repeat (first | exact (Kd.C_below HR0_1.out HB.out) | (with_reducible refine Kd.C_alloc ?_ _) | (with_reducible refine Kd.C_drewN ?_ _) | (with_reducible refine Kd.C_drew ?_))); (case side4 => exact HC0_1.out); (case side5 => repeat (first | exact (Kd.C_below HR0_2.out HB.out) | (with_reducible refine Kd.C_alloc ?_ _) | (with_reducible refine Kd.C_drewN ?_ _) | (with_reducible refine Kd.C_drew ?_))); (case side6 => exact HC0_2.out); (case side7 => repeat (first | exact (Kd.C_below HR0_3.out HB.out) | (with_reducible refine Kd.C_alloc ?_ _) | (with_reducible refine Kd.C_drewN ?_ _) | (with_reducible refine Kd.C_drew ?_))); (case side8 => exact HC0_3.out); (case side9 => repeat (first | exact (Kd.S_reads' HO_431000.out).2.2 | (with_reducible refine Kd.C_alloc ?_ _) | (with_reducible refine Kd.C_drewN ?_ _) | (with_reducible refine Kd.C_drew ?_))); (case side10 => exact (Kd.S_reads' HO_431000.out).2.1); (case side11 => repeat (first | exact (Kd.S_reads' HO_431001.out).2.2 | (with_reducible refine Kd.C_alloc ?_ _) | (with_reducible refine Kd.C_drewN ?_ _) | (with_reducible refine Kd.C_drew ?_))); (case side12 => exact (Kd.S_reads' HO_431001.out).2.1); rintro e w67 ⟨rfl, hb⟩; refine ⟨_, rfl, ?_⟩; have n0_ := Aside0.mk (Kd.R_below (by (with_reducible repeat (first | apply Kd.R_alloc | apply Kd.R_drewN | apply Kd.R_drew)); exact HO_7.out) hb); have n1_ := Aside0.mk (Kd.S_below (by (with_reducible repeat (first | apply Kd.S_alloc | apply Kd.S_drewN | apply Kd.S_drew)); exact HO_431000.out) hb); have n2_ := Aside0.mk (Kd.S_below (by (with_reducible repeat (first | apply Kd.S_alloc | apply Kd.S_drewN | apply Kd.S_drew)); exact HO_431001.out) hb); have n3_ := Aside0.mk (Kd.R_below (by (with_reducible repeat (first | apply Kd.R_alloc | apply Kd.R_drewN | apply Kd.R_drew)); exact HL445_0.out) hb); have n4_ := Aside0.mk (blk_below (g := gb420) (o := .cells #[.slice A0_0 l0_0.length c0_0, .slice A0_1 l0_1.length c0_1, .slice A0_2 l0_2.length c0_2, .slice A0_3 l0_3.length c0_3, .int .i64 a0_4] 27 (0, 0)) (by (with_reducible repeat (first | refine blk_drewN ?_ _ | refine blk_drew ?_ | refine blk_alloc ?_ _)); exact BK420.out) hb); have n5_ := Aside0.mk (blk_below (g := gb430) (o := .cells #[.slice Ao19 t423.length co19, .slice (some ad444) t426.length co22] 49 (0, 0)) (by (with_reducible repeat (first | refine blk_drewN ?_ _ | refine blk_drew ?_ | refine blk_alloc ?_ _)); exact BK430.out) hb); have n6_ := Aside0.mk (Kd.C_below (by repeat (first | (with_reducible exact HR444_0.out) | (with_reducible refine Kd.C_alloc ?_ _) | (with_reducible refine Kd.C_drewN ?_ _) | (with_reducible refine Kd.C_drew ?_) | exact HR444_0.out)) hb); have n7_ := Aside0.mk (Kd.C_below (by repeat (first | (with_reducible exact HR445_0.out) | (with_reducible refine Kd.C_alloc ?_ _) | (with_reducible refine Kd.C_drewN ?_ _) | (with_reducible refine Kd.C_drew ?_) | exact HR445_0.out)) hb); have n8_ := Aside0.mk (below_step (by repeat (first | (with_reducible first | exact HB.out | apply below_alloc | apply pw_below_drewN | apply below_drew1 | refine below_set ?_ GE420.out | refine below_set ?_ GE430.out) | exact HB.out)) hb); clear HO_7; clear HO_431000; clear HO_431001; clear HL445_0; clear BK420; clear BK430; clear HR444_0; clear HR445_0; clear HB; have HO_7 := n0_; have HO_431000 := n1_; have HO_431001 := n2_; have HL445_0 := n3_; have BK420 := n4_; have BK430 := n5_; have HR444_0 := n6_; have HR445_0 := n7_; have HB := n8_; clear n0_ n1_ n2_ n3_ n4_ n5_ n6_ n7_ n8_; (try clear hb); (try clear hb2); (try clear hk); (try clear hi); have hcz68_0 : w67.cell? ⟨gb430, 0, none⟩ = some (.slice Ao19 t423.length co19) := (blk_cell BK430.out 0).trans rfl; have hcz68_1 : w67.cell? ⟨gb430, 1, none⟩ = some (.slice (some ad444) t426.length co22) := (blk_cell BK430.out 1).trans rfl; have hfz68_0 := blk_frozen BK430.out 0; have hfz68_1 := blk_frozen BK430.out 1))
                           go_meet
                           case rel => exact ⟨_, (true), (by first | rfl | (simp; done) | (simp [*]; done)), H', ⟨by have := HK1.out; have := HK2.out; have := HK3.out; have := HJ46.out; first | omega | exact Nat.le_refl _⟩, ⟨by (try simp only [hl7_1]); (try simp only [hl7_3]); (with_reducible repeat (first | apply Kd.R_alloc | apply Kd.R_drewN | apply Kd.R_drew)); exact HO_7.out⟩, ⟨by (try simp only [hl7_1]); (try simp only [hl7_3]); (with_reducible repeat (first | apply Kd.S_alloc | apply Kd.S_drewN | apply Kd.S_drew)); exact HO_431000.out⟩, ⟨by (try simp only [hl7_1]); (try simp only [hl7_3]); (with_reducible repeat (first | apply Kd.S_alloc | apply Kd.S_drewN | apply Kd.S_drew)); exact HO_431001.out⟩, ⟨by (try simp only [hl7_1]); (try simp only [hl7_3]); (with_reducible repeat (first | refine blk_drewN ?_ _ | refine blk_drew ?_ | refine blk_alloc ?_ _)); exact BK420.out⟩, ⟨by (try simp only [hl7_1]); (try simp only [hl7_3]); (with_reducible repeat (first | refine blk_drewN ?_ _ | refine blk_drew ?_ | refine blk_alloc ?_ _)); exact BK430.out⟩, ⟨by repeat (first | (with_reducible exact HR444_0.out) | (with_reducible refine Kd.C_alloc ?_ _) | (with_reducible refine Kd.C_drewN ?_ _) | (with_reducible refine Kd.C_drew ?_) | exact HR444_0.out)⟩, ⟨by repeat (first | (with_reducible exact HR445_0.out) | (with_reducible refine Kd.C_alloc ?_ _) | (with_reducible refine Kd.C_drewN ?_ _) | (with_reducible refine Kd.C_drew ?_) | exact HR445_0.out)⟩, ⟨by repeat (first | (with_reducible first | exact HB.out | apply below_alloc | apply pw_below_drewN | apply below_drew1 | refine below_set ?_ GE420.out | refine below_set ?_ GE430.out) | exact HB.out)⟩⟩
                          ·rw [if_neg c63] at H
                           have c63b0 : decide ((t423.length : Int) ≤ (rd (rd_L17 t426 x8_1) x10_3)) = false := decide_eq_false c63
                           clear c63
                           have H' := Aside0.mk H
                           clear H
                           have hnb69 := NB420_430.out
                           have hnc69 := NB430_420.out
                           have hcz70_0 : wc.cell? ⟨gb420, 0, none⟩ = some (.slice A0_0 l0_0.length c0_0) := (blk_cell BK420.out 0).trans rfl
                           have hcz70_1 : wc.cell? ⟨gb420, 1, none⟩ = some (.slice A0_1 l0_1.length c0_1) := (blk_cell BK420.out 1).trans rfl
                           have hcz70_2 : wc.cell? ⟨gb420, 2, none⟩ = some (.slice A0_2 l0_2.length c0_2) := (blk_cell BK420.out 2).trans rfl
                           have hcz70_3 : wc.cell? ⟨gb420, 3, none⟩ = some (.slice A0_3 l0_3.length c0_3) := (blk_cell BK420.out 3).trans rfl
                           have hcz70_4 : wc.cell? ⟨gb420, 4, none⟩ = some (.int .i64 a0_4) := (blk_cell BK420.out 4).trans rfl
                           have hfz70_0 := blk_frozen BK420.out 0
                           have hfz70_1 := blk_frozen BK420.out 1
                           have hfz70_2 := blk_frozen BK420.out 2
                           have hfz70_3 := blk_frozen BK420.out 3
                           have hfz70_4 := blk_frozen BK420.out 4
                           have hcz71_0 : wc.cell? ⟨gb430, 0, none⟩ = some (.slice Ao19 t423.length co19) := (blk_cell BK430.out 0).trans rfl
                           have hcz71_1 : wc.cell? ⟨gb430, 1, none⟩ = some (.slice (some ad444) t426.length co22) := (blk_cell BK430.out 1).trans rfl
                           have hfz71_0 := blk_frozen BK430.out 0
                           have hfz71_1 := blk_frozen BK430.out 1
                           go_wp2_with (first | ((with_reducible refine gate_callee (f := 25) rfl ?_); refine goesL_ (some 106) rfl rfl Tryd.func25 (by kernel_rfl) rfl #[.agg #[.slice A0_0 l0_0.length c0_0, .slice A0_1 l0_1.length c0_1, .slice A0_2 l0_2.length c0_2, .slice A0_3 l0_3.length c0_3, .int .i64 a0_4], .agg #[.slice Ao19 t423.length co19, .slice (some ad444) t426.length co22], .int .i64 x8_1, .int .i64 x11_46] rfl (by (try simp only [List.map_toArray, List.map_cons, List.map_nil]); first | done | rfl | (simp only [List.length_drop, List.length_take]; rfl)) ?_; (with_reducible refine (states_Go.calls _ _ l0_0 _ _ l0_1 _ _ l0_2 _ _ l0_3 a0_4 _ _ t423 _ _ t426 x8_1 x11_46 t447 _ ?side1 ?side2 ?side3 ?side4 ?side5 ?side6 ?side7 ?side8 ?side9 ?side10 ?side11 ?side12 A61.out).mono ?_); (case side1 => repeat (first | exact (Kd.C_below HR0_0.out HB.out) | (with_reducible refine Kd.C_alloc ?_ _) | (with_reducible refine Kd.C_drewN ?_ _) | (with_reducible refine Kd.C_drew ?_))); (case side2 => exact HC0_0.out); (case side3 => repeat (first | exact (Kd.C_below HR0_1.out HB.out) | (with_reducible refine Kd.C_alloc ?_ _) | (with_reducible refine Kd.C_drewN ?_ _) | (with_reducible refine Kd.C_drew ?_))); (case side4 => exact HC0_1.out); (case side5 => repeat (first | exact (Kd.C_below HR0_2.out HB.out) | (with_reducible refine Kd.C_alloc ?_ _) | (with_reducible refine Kd.C_drewN ?_ _) | (with_reducible refine Kd.C_drew ?_))); (case side6 => exact HC0_2.out); (case side7 => repeat (first | exact (Kd.C_below HR0_3.out HB.out) | (with_reducible refine Kd.C_alloc ?_ _) | (with_reducible refine Kd.C_drewN ?_ _) | (with_reducible refine Kd.C_drew ?_))); (case side8 => exact HC0_3.out); (case side9 => repeat (first | exact (Kd.S_reads' HO_431000.out).2.2 | (with_reducible refine Kd.C_alloc ?_ _) | (with_reducible refine Kd.C_drewN ?_ _) | (with_reducible refine Kd.C_drew ?_))); (case side10 => exact (Kd.S_reads' HO_431000.out).2.1); (case side11 => repeat (first | exact (Kd.S_reads' HO_431001.out).2.2 | (with_reducible refine Kd.C_alloc ?_ _) | (with_reducible refine Kd.C_drewN ?_ _) | (with_reducible refine Kd.C_drew ?_))); (case side12 => exact (Kd.S_reads' HO_431001.out).2.1); rintro e w72 ⟨rfl, hb⟩; refine ⟨_, rfl, ?_⟩; have n0_ := Aside0.mk (Kd.R_below (by (with_reducible repeat (first | apply Kd.R_alloc | apply Kd.R_drewN | apply Kd.R_drew)); exact HO_7.out) hb); have n1_ := Aside0.mk (Kd.S_below (by (with_reducible repeat (first | apply Kd.S_alloc | apply Kd.S_drewN | apply Kd.S_drew)); exact HO_431000.out) hb); have n2_ := Aside0.mk (Kd.S_below (by (with_reducible repeat (first | apply Kd.S_alloc | apply Kd.S_drewN | apply Kd.S_drew)); exact HO_431001.out) hb); have n3_ := Aside0.mk (Kd.R_below (by (with_reducible repeat (first | apply Kd.R_alloc | apply Kd.R_drewN | apply Kd.R_drew)); exact HL445_0.out) hb); have n4_ := Aside0.mk (blk_below (g := gb420) (o := .cells #[.slice A0_0 l0_0.length c0_0, .slice A0_1 l0_1.length c0_1, .slice A0_2 l0_2.length c0_2, .slice A0_3 l0_3.length c0_3, .int .i64 a0_4] 27 (0, 0)) (by (with_reducible repeat (first | refine blk_drewN ?_ _ | refine blk_drew ?_ | refine blk_alloc ?_ _)); exact BK420.out) hb); have n5_ := Aside0.mk (blk_below (g := gb430) (o := .cells #[.slice Ao19 t423.length co19, .slice (some ad444) t426.length co22] 49 (0, 0)) (by (with_reducible repeat (first | refine blk_drewN ?_ _ | refine blk_drew ?_ | refine blk_alloc ?_ _)); exact BK430.out) hb); have n6_ := Aside0.mk (Kd.C_below (by repeat (first | (with_reducible exact HR444_0.out) | (with_reducible refine Kd.C_alloc ?_ _) | (with_reducible refine Kd.C_drewN ?_ _) | (with_reducible refine Kd.C_drew ?_) | exact HR444_0.out)) hb); have n7_ := Aside0.mk (Kd.C_below (by repeat (first | (with_reducible exact HR445_0.out) | (with_reducible refine Kd.C_alloc ?_ _) | (with_reducible refine Kd.C_drewN ?_ _) | (with_reducible refine Kd.C_drew ?_) | exact HR445_0.out)) hb); have n8_ := Aside0.mk (below_step (by repeat (first | (with_reducible first | exact HB.out | apply below_alloc | apply pw_below_drewN | apply below_drew1 | refine below_set ?_ GE420.out | refine below_set ?_ GE430.out) | exact HB.out)) hb); clear HO_7; clear HO_431000; clear HO_431001; clear HL445_0; clear BK420; clear BK430; clear HR444_0; clear HR445_0; clear HB; have HO_7 := n0_; have HO_431000 := n1_; have HO_431001 := n2_; have HL445_0 := n3_; have BK420 := n4_; have BK430 := n5_; have HR444_0 := n6_; have HR445_0 := n7_; have HB := n8_; clear n0_ n1_ n2_ n3_ n4_ n5_ n6_ n7_ n8_; (try clear hb); (try clear hb2); (try clear hk); (try clear hi); have hcz73_0 : w72.cell? ⟨gb430, 0, none⟩ = some (.slice Ao19 t423.length co19) := (blk_cell BK430.out 0).trans rfl; have hcz73_1 : w72.cell? ⟨gb430, 1, none⟩ = some (.slice (some ad444) t426.length co22) := (blk_cell BK430.out 1).trans rfl; have hfz73_0 := blk_frozen BK430.out 0; have hfz73_1 := blk_frozen BK430.out 1))
                           go_meet
                           case rel => exact ⟨_, (((rd (rd_L17 t426 x8_1) x10_3) == 0)), (by first | rfl | (simp; done) | (simp [*]; done)), H', ⟨by have := HK1.out; have := HK2.out; have := HK3.out; have := HJ46.out; first | omega | exact Nat.le_refl _⟩, ⟨by (try simp only [hl7_1]); (try simp only [hl7_3]); (with_reducible repeat (first | apply Kd.R_alloc | apply Kd.R_drewN | apply Kd.R_drew)); exact HO_7.out⟩, ⟨by (try simp only [hl7_1]); (try simp only [hl7_3]); (with_reducible repeat (first | apply Kd.S_alloc | apply Kd.S_drewN | apply Kd.S_drew)); exact HO_431000.out⟩, ⟨by (try simp only [hl7_1]); (try simp only [hl7_3]); (with_reducible repeat (first | apply Kd.S_alloc | apply Kd.S_drewN | apply Kd.S_drew)); exact HO_431001.out⟩, ⟨by (try simp only [hl7_1]); (try simp only [hl7_3]); (with_reducible repeat (first | refine blk_drewN ?_ _ | refine blk_drew ?_ | refine blk_alloc ?_ _)); exact BK420.out⟩, ⟨by (try simp only [hl7_1]); (try simp only [hl7_3]); (with_reducible repeat (first | refine blk_drewN ?_ _ | refine blk_drew ?_ | refine blk_alloc ?_ _)); exact BK430.out⟩, ⟨by repeat (first | (with_reducible exact HR444_0.out) | (with_reducible refine Kd.C_alloc ?_ _) | (with_reducible refine Kd.C_drewN ?_ _) | (with_reducible refine Kd.C_drew ?_) | exact HR444_0.out)⟩, ⟨by repeat (first | (with_reducible exact HR445_0.out) | (with_reducible refine Kd.C_alloc ?_ _) | (with_reducible refine Kd.C_drewN ?_ _) | (with_reducible refine Kd.C_drew ?_) | exact HR445_0.out)⟩, ⟨by repeat (first | (with_reducible first | exact HB.out | apply below_alloc | apply pw_below_drewN | apply below_drew1 | refine below_set ?_ GE420.out | refine below_set ?_ GE430.out) | exact HB.out)⟩⟩
                         ·rw [if_neg c62] at H
                          have c62b0 : ((rd (rd_L17 t426 x8_1) x10_3) == t447) = false := beq_eq_false_iff_ne.mpr c62
                          have c62b1 : ((rd (rd_L17 t426 x8_1) x10_3) != t447) = true := bne_iff_ne.mpr c62
                          (first | rw [c62b0] | (simp only [i64_w, i32_w]; rw [c62b0]) | skip)
                          have H' := Aside0.mk H
                          clear H
                          have hnb74 := NB420_430.out
                          have hnc74 := NB430_420.out
                          have hcz75_0 : wc.cell? ⟨gb420, 0, none⟩ = some (.slice A0_0 l0_0.length c0_0) := (blk_cell BK420.out 0).trans rfl
                          have hcz75_1 : wc.cell? ⟨gb420, 1, none⟩ = some (.slice A0_1 l0_1.length c0_1) := (blk_cell BK420.out 1).trans rfl
                          have hcz75_2 : wc.cell? ⟨gb420, 2, none⟩ = some (.slice A0_2 l0_2.length c0_2) := (blk_cell BK420.out 2).trans rfl
                          have hcz75_3 : wc.cell? ⟨gb420, 3, none⟩ = some (.slice A0_3 l0_3.length c0_3) := (blk_cell BK420.out 3).trans rfl
                          have hcz75_4 : wc.cell? ⟨gb420, 4, none⟩ = some (.int .i64 a0_4) := (blk_cell BK420.out 4).trans rfl
                          have hfz75_0 := blk_frozen BK420.out 0
                          have hfz75_1 := blk_frozen BK420.out 1
                          have hfz75_2 := blk_frozen BK420.out 2
                          have hfz75_3 := blk_frozen BK420.out 3
                          have hfz75_4 := blk_frozen BK420.out 4
                          have hcz76_0 : wc.cell? ⟨gb430, 0, none⟩ = some (.slice Ao19 t423.length co19) := (blk_cell BK430.out 0).trans rfl
                          have hcz76_1 : wc.cell? ⟨gb430, 1, none⟩ = some (.slice (some ad444) t426.length co22) := (blk_cell BK430.out 1).trans rfl
                          have hfz76_0 := blk_frozen BK430.out 0
                          have hfz76_1 := blk_frozen BK430.out 1
                          go_wp2_with (first | ((with_reducible refine gate_callee (f := 25) rfl ?_); refine goesL_ (some 106) rfl rfl Tryd.func25 (by kernel_rfl) rfl #[.agg #[.slice A0_0 l0_0.length c0_0, .slice A0_1 l0_1.length c0_1, .slice A0_2 l0_2.length c0_2, .slice A0_3 l0_3.length c0_3, .int .i64 a0_4], .agg #[.slice Ao19 t423.length co19, .slice (some ad444) t426.length co22], .int .i64 x8_1, .int .i64 x11_46] rfl (by (try simp only [List.map_toArray, List.map_cons, List.map_nil]); first | done | rfl | (simp only [List.length_drop, List.length_take]; rfl)) ?_; (with_reducible refine (states_Go.calls _ _ l0_0 _ _ l0_1 _ _ l0_2 _ _ l0_3 a0_4 _ _ t423 _ _ t426 x8_1 x11_46 t447 _ ?side1 ?side2 ?side3 ?side4 ?side5 ?side6 ?side7 ?side8 ?side9 ?side10 ?side11 ?side12 A61.out).mono ?_); (case side1 => repeat (first | exact (Kd.C_below HR0_0.out HB.out) | (with_reducible refine Kd.C_alloc ?_ _) | (with_reducible refine Kd.C_drewN ?_ _) | (with_reducible refine Kd.C_drew ?_))); (case side2 => exact HC0_0.out); (case side3 => repeat (first | exact (Kd.C_below HR0_1.out HB.out) | (with_reducible refine Kd.C_alloc ?_ _) | (with_reducible refine Kd.C_drewN ?_ _) | (with_reducible refine Kd.C_drew ?_))); (case side4 => exact HC0_1.out); (case side5 => repeat (first | exact (Kd.C_below HR0_2.out HB.out) | (with_reducible refine Kd.C_alloc ?_ _) | (with_reducible refine Kd.C_drewN ?_ _) | (with_reducible refine Kd.C_drew ?_))); (case side6 => exact HC0_2.out); (case side7 => repeat (first | exact (Kd.C_below HR0_3.out HB.out) | (with_reducible refine Kd.C_alloc ?_ _) | (with_reducible refine Kd.C_drewN ?_ _) | (with_reducible refine Kd.C_drew ?_))); (case side8 => exact HC0_3.out); (case side9 => repeat (first | exact (Kd.S_reads' HO_431000.out).2.2 | (with_reducible refine Kd.C_alloc ?_ _) | (with_reducible refine Kd.C_drewN ?_ _) | (with_reducible refine Kd.C_drew ?_))); (case side10 => exact (Kd.S_reads' HO_431000.out).2.1); (case side11 => repeat (first | exact (Kd.S_reads' HO_431001.out).2.2 | (with_reducible refine Kd.C_alloc ?_ _) | (with_reducible refine Kd.C_drewN ?_ _) | (with_reducible refine Kd.C_drew ?_))); (case side12 => exact (Kd.S_reads' HO_431001.out).2.1); rintro e w77 ⟨rfl, hb⟩; refine ⟨_, rfl, ?_⟩; have n0_ := Aside0.mk (Kd.R_below (by (with_reducible repeat (first | apply Kd.R_alloc | apply Kd.R_drewN | apply Kd.R_drew)); exact HO_7.out) hb); have n1_ := Aside0.mk (Kd.S_below (by (with_reducible repeat (first | apply Kd.S_alloc | apply Kd.S_drewN | apply Kd.S_drew)); exact HO_431000.out) hb); have n2_ := Aside0.mk (Kd.S_below (by (with_reducible repeat (first | apply Kd.S_alloc | apply Kd.S_drewN | apply Kd.S_drew)); exact HO_431001.out) hb); have n3_ := Aside0.mk (Kd.R_below (by (with_reducible repeat (first | apply Kd.R_alloc | apply Kd.R_drewN | apply Kd.R_drew)); exact HL445_0.out) hb); have n4_ := Aside0.mk (blk_below (g := gb420) (o := .cells #[.slice A0_0 l0_0.length c0_0, .slice A0_1 l0_1.length c0_1, .slice A0_2 l0_2.length c0_2, .slice A0_3 l0_3.length c0_3, .int .i64 a0_4] 27 (0, 0)) (by (with_reducible repeat (first | refine blk_drewN ?_ _ | refine blk_drew ?_ | refine blk_alloc ?_ _)); exact BK420.out) hb); have n5_ := Aside0.mk (blk_below (g := gb430) (o := .cells #[.slice Ao19 t423.length co19, .slice (some ad444) t426.length co22] 49 (0, 0)) (by (with_reducible repeat (first | refine blk_drewN ?_ _ | refine blk_drew ?_ | refine blk_alloc ?_ _)); exact BK430.out) hb); have n6_ := Aside0.mk (Kd.C_below (by repeat (first | (with_reducible exact HR444_0.out) | (with_reducible refine Kd.C_alloc ?_ _) | (with_reducible refine Kd.C_drewN ?_ _) | (with_reducible refine Kd.C_drew ?_) | exact HR444_0.out)) hb); have n7_ := Aside0.mk (Kd.C_below (by repeat (first | (with_reducible exact HR445_0.out) | (with_reducible refine Kd.C_alloc ?_ _) | (with_reducible refine Kd.C_drewN ?_ _) | (with_reducible refine Kd.C_drew ?_) | exact HR445_0.out)) hb); have n8_ := Aside0.mk (below_step (by repeat (first | (with_reducible first | exact HB.out | apply below_alloc | apply pw_below_drewN | apply below_drew1 | refine below_set ?_ GE420.out | refine below_set ?_ GE430.out) | exact HB.out)) hb); clear HO_7; clear HO_431000; clear HO_431001; clear HL445_0; clear BK420; clear BK430; clear HR444_0; clear HR445_0; clear HB; have HO_7 := n0_; have HO_431000 := n1_; have HO_431001 := n2_; have HL445_0 := n3_; have BK420 := n4_; have BK430 := n5_; have HR444_0 := n6_; have HR445_0 := n7_; have HB := n8_; clear n0_ n1_ n2_ n3_ n4_ n5_ n6_ n7_ n8_; (try clear hb); (try clear hb2); (try clear hk); (try clear hi)))
                          go_meet
                          case rel => exact ⟨_, (true), (by first | rfl | (simp; done) | (simp [*]; done)), H', ⟨by have := HK1.out; have := HK2.out; have := HK3.out; have := HJ46.out; first | omega | exact Nat.le_refl _⟩, ⟨by (try simp only [hl7_1]); (try simp only [hl7_3]); (with_reducible repeat (first | apply Kd.R_alloc | apply Kd.R_drewN | apply Kd.R_drew)); exact HO_7.out⟩, ⟨by (try simp only [hl7_1]); (try simp only [hl7_3]); (with_reducible repeat (first | apply Kd.S_alloc | apply Kd.S_drewN | apply Kd.S_drew)); exact HO_431000.out⟩, ⟨by (try simp only [hl7_1]); (try simp only [hl7_3]); (with_reducible repeat (first | apply Kd.S_alloc | apply Kd.S_drewN | apply Kd.S_drew)); exact HO_431001.out⟩, ⟨by (try simp only [hl7_1]); (try simp only [hl7_3]); (with_reducible repeat (first | refine blk_drewN ?_ _ | refine blk_drew ?_ | refine blk_alloc ?_ _)); exact BK420.out⟩, ⟨by (try simp only [hl7_1]); (try simp only [hl7_3]); (with_reducible repeat (first | refine blk_drewN ?_ _ | refine blk_drew ?_ | refine blk_alloc ?_ _)); exact BK430.out⟩, ⟨by repeat (first | (with_reducible exact HR444_0.out) | (with_reducible refine Kd.C_alloc ?_ _) | (with_reducible refine Kd.C_drewN ?_ _) | (with_reducible refine Kd.C_drew ?_) | exact HR444_0.out)⟩, ⟨by repeat (first | (with_reducible exact HR445_0.out) | (with_reducible refine Kd.C_alloc ?_ _) | (with_reducible refine Kd.C_drewN ?_ _) | (with_reducible refine Kd.C_drew ?_) | exact HR445_0.out)⟩, ⟨by repeat (first | (with_reducible first | exact HB.out | apply below_alloc | apply pw_below_drewN | apply below_drew1 | refine below_set ?_ GE420.out | refine below_set ?_ GE430.out) | exact HB.out)⟩⟩
                        case rest =>
                         clear HC58
                         try clear c1
                         try clear p1
                         try clear q1
                         try clear hx1
                         try clear qi1
                         try clear hf1
                         try clear c2
                         try clear p2
                         try clear c3
                         try clear c4
                         try clear p4
                         try clear q4
                         try clear hx4
                         try clear c5
                         try clear c6
                         try clear p6
                         try clear c7
                         try clear c7b0
                         try clear c7b1
                         try clear c8
                         try clear c8b0
                         try clear c8b1
                         try clear c9
                         try clear c9b0
                         try clear c9b1
                         try clear c10
                         try clear c10b0
                         try clear c10b1
                         try clear p11
                         try clear q11
                         try clear hx11
                         try clear qi11
                         try clear hf11
                         try clear c12
                         try clear c14
                         try clear c17
                         try clear c20
                         try clear c22
                         try clear c23
                         try clear c25
                         try clear c27
                         try clear c27b0
                         try clear c28
                         try clear c30
                         try clear c30b0
                         try clear c31
                         try clear c31b0
                         try clear c32
                         try clear c32b0
                         try clear c34
                         try clear c34b0
                         try clear c35
                         try clear c35b0
                         try clear c38
                         try clear c43
                         try clear p43
                         try clear q43
                         try clear hx43
                         try clear c44
                         try clear c44b0
                         try clear p44
                         try clear q44
                         try clear hx44
                         try clear c45
                         try clear c45b0
                         try clear c46
                         try clear c46b0
                         try clear c48
                         try clear c51
                         try clear c51b0
                         try clear c52
                         try clear c54
                         try clear c54b0
                         try clear c55
                         try clear c55b0
                         try clear c56
                         try clear c56b0
                         try clear c57
                         try clear c57b0
                         try clear c59
                         try clear c62
                         try clear c62b0
                         try clear c62b1
                         try clear c63
                         try clear c63b0
                         try clear c64
                         try clear p64
                         try clear c69
                         try clear c74
                         try clear hcz14_0
                         try clear hcz14_1
                         try clear hcz14_2
                         try clear hcz14_3
                         try clear hcz14_4
                         try clear hcz16_0
                         try clear hcz16_1
                         try clear hcz16_2
                         try clear hcz16_3
                         try clear hcz16_4
                         try clear hcz21_0
                         try clear hcz21_1
                         try clear hcz29_0
                         try clear hcz29_1
                         try clear hcz49_0
                         try clear hcz49_1
                         try clear hcz50_0
                         try clear hcz50_1
                         try clear hcz50_2
                         try clear hcz50_3
                         try clear hcz50_4
                         try clear hcz53_0
                         try clear hcz53_1
                         try clear hcz53_2
                         try clear hcz53_3
                         try clear hcz53_4
                         try clear hcz60_0
                         try clear hcz60_1
                         try clear hcz65_0
                         try clear hcz65_1
                         try clear hcz65_2
                         try clear hcz65_3
                         try clear hcz65_4
                         try clear hcz66_0
                         try clear hcz66_1
                         try clear hcz68_0
                         try clear hcz68_1
                         try clear hcz70_0
                         try clear hcz70_1
                         try clear hcz70_2
                         try clear hcz70_3
                         try clear hcz70_4
                         try clear hcz71_0
                         try clear hcz71_1
                         try clear hcz73_0
                         try clear hcz73_1
                         try clear hcz75_0
                         try clear hcz75_1
                         try clear hcz75_2
                         try clear hcz75_3
                         try clear hcz75_4
                         try clear hcz76_0
                         try clear hcz76_1
                         try clear hfz14_0
                         try clear hfz14_1
                         try clear hfz14_2
                         try clear hfz14_3
                         try clear hfz14_4
                         try clear hfz16_0
                         try clear hfz16_1
                         try clear hfz16_2
                         try clear hfz16_3
                         try clear hfz16_4
                         try clear hfz21_0
                         try clear hfz21_1
                         try clear hfz29_0
                         try clear hfz29_1
                         try clear hfz49_0
                         try clear hfz49_1
                         try clear hfz50_0
                         try clear hfz50_1
                         try clear hfz50_2
                         try clear hfz50_3
                         try clear hfz50_4
                         try clear hfz53_0
                         try clear hfz53_1
                         try clear hfz53_2
                         try clear hfz53_3
                         try clear hfz53_4
                         try clear hfz60_0
                         try clear hfz60_1
                         try clear hfz65_0
                         try clear hfz65_1
                         try clear hfz65_2
                         try clear hfz65_3
                         try clear hfz65_4
                         try clear hfz66_0
                         try clear hfz66_1
                         try clear hfz68_0
                         try clear hfz68_1
                         try clear hfz70_0
                         try clear hfz70_1
                         try clear hfz70_2
                         try clear hfz70_3
                         try clear hfz70_4
                         try clear hfz71_0
                         try clear hfz71_1
                         try clear hfz73_0
                         try clear hfz73_1
                         try clear hfz75_0
                         try clear hfz75_1
                         try clear hfz75_2
                         try clear hfz75_3
                         try clear hfz75_4
                         try clear hfz76_0
                         try clear hfz76_1
                         try clear hx11_0
                         try clear hx435_0
                         try clear hx439_0
                         try clear hx444_0
                         try clear hx445_0
                         try clear hx446_0
                         try clear p1
                         try clear p11
                         try clear p2
                         try clear p4
                         try clear p43
                         try clear p435
                         try clear p439
                         try clear p44
                         try clear p444
                         try clear p445
                         try clear p446
                         try clear p6
                         try clear q1
                         try clear q11
                         try clear q4
                         try clear q43
                         try clear q435
                         try clear q439
                         try clear q44
                         try clear q444
                         try clear q445
                         try clear q446
                         obtain ⟨kq, x118_57, rfl, HA, HJ57, HO_7, HO_431000, HO_431001, BK420, BK430, HR444_0, HR445_0, HB⟩ := hcut
                         cases kq with
                         | zero => exact absurd HA.out (by simp [syntagmlaw14_StatesAhead.j4])
                         | succ kj57 =>
                          have H := HA.out
                          clear HA
                          simp only [syntagmlaw14_StatesAhead.j4] at H
                          by_cases c78 : x118_57 = true
                          ·subst c78
                           have H1 : (some false) = some r := by rw [if_pos rfl] at H; exact H
                           clear H
                           have H := H1
                           clear H1
                           exact absurd ((Option.some.inj H).trans HT.out) (by decide)
                          ·replace c78 := Bool.eq_false_iff.mpr c78
                           subst c78
                           have H1 : (if (rd (rd_L17 t426 x8_1) x10_3) < 0 then (syntagmlaw14_StatesAhead.l2 kj57 true x7_3 x8_1 (wrap64 (x10_3 + 1)) l0_0 l0_1 l0_2 l0_3 a0_4 t423 t426) else (if 0 ≤ (rd (rd_L17 t426 x8_1) x10_3) then (if (rd (rd_L17 t426 x8_1) x10_3) < (x7_3.length : Int) then (syntagmlaw14_StatesAhead.l3 kj57 true (x7_3.set ((rd (rd_L17 t426 x8_1) x10_3) : Int).toNat true) x8_1 x10_3 x11_46 (rd (rd_L17 t426 x8_1) x10_3) 0 l0_0 l0_1 l0_2 l0_3 a0_4 t423 t426) else (none)) else (none))) = some r := by rw [if_neg (show ¬ (false = true) by decide)] at H; exact H
                           clear H
                           have H := H1
                           clear H1
                           by_cases c79 : (rd (rd_L17 t426 x8_1) x10_3) < 0
                           ·rw [if_pos c79] at H
                            have c79b0 : decide ((rd (rd_L17 t426 x8_1) x10_3) < 0) = true := decide_eq_true c79
                            clear c79
                            have H' := Aside0.mk H
                            clear H
                            go_wp2
                            (try simp only [← hl7_3])
                            go_roundg kj57
                            case measure => have := HK1.out; have := HK2.out; have := HK3.out; have := HJ46.out; have := HJ57.out; omega
                            case rel => exact ⟨(x7_3), (wrap64 (x10_3 + 1)), (by first | rfl | (simp; done) | (simp [*]; done)), H', ⟨by have := HK1.out; have := HK2.out; have := HK3.out; have := HJ46.out; have := HJ57.out; omega⟩, ⟨by (try simp only [hl7_1]); (try simp only [hl7_3]); (with_reducible repeat (first | apply Kd.R_alloc | apply Kd.R_drewN | apply Kd.R_drew)); exact HO_7.out⟩, ⟨by (try simp only [hl7_1]); (try simp only [hl7_3]); (with_reducible repeat (first | apply Kd.S_alloc | apply Kd.S_drewN | apply Kd.S_drew)); exact HO_431000.out⟩, ⟨by (try simp only [hl7_1]); (try simp only [hl7_3]); (with_reducible repeat (first | apply Kd.S_alloc | apply Kd.S_drewN | apply Kd.S_drew)); exact HO_431001.out⟩, ⟨by (try simp only [hl7_1]); (try simp only [hl7_3]); (with_reducible repeat (first | refine blk_drewN ?_ _ | refine blk_drew ?_ | refine blk_alloc ?_ _)); exact BK420.out⟩, ⟨by (try simp only [hl7_1]); (try simp only [hl7_3]); (with_reducible repeat (first | refine blk_drewN ?_ _ | refine blk_drew ?_ | refine blk_alloc ?_ _)); exact BK430.out⟩, ⟨by repeat (first | (with_reducible first | exact HB.out | apply below_alloc | apply pw_below_drewN | apply below_drew1 | refine below_set ?_ GE420.out | refine below_set ?_ GE430.out) | exact HB.out)⟩⟩
                           ·rw [if_neg c79] at H
                            have c79b0 : decide ((rd (rd_L17 t426 x8_1) x10_3) < 0) = false := decide_eq_false c79
                            clear c79
                            by_cases c80 : 0 ≤ (rd (rd_L17 t426 x8_1) x10_3)
                            ·rw [if_pos c80] at H
                             have c80b0 : decide (0 ≤ (rd (rd_L17 t426 x8_1) x10_3)) = true := decide_eq_true c80
                             clear c80
                             by_cases c81 : (rd (rd_L17 t426 x8_1) x10_3) < (x7_3.length : Int)
                             ·rw [if_pos c81] at H
                              have c81b0 : decide ((rd (rd_L17 t426 x8_1) x10_3) < (x7_3.length : Int)) = true := decide_eq_true c81
                              clear c81
                              obtain ⟨y448, hy448⟩ : ∃ y_ : List Bool, y_ = (x7_3.set ((rd (rd_L17 t426 x8_1) x10_3) : Int).toNat true) := ⟨_, rfl⟩
                              replace H : (syntagmlaw14_StatesAhead.l3 kj57 true y448 x8_1 x10_3 x11_46 (rd (rd_L17 t426 x8_1) x10_3) 0 l0_0 l0_1 l0_2 l0_3 a0_4 t423 t426) = some r := by first | (rw [hy448]; with_reducible exact H) | (have H2_ := (Option.bind_some _ _).symm.trans H; rw [hy448]; with_reducible exact H2_) | (have H2_ := (Option.bind_some _ _).symm.trans H; with_reducible exact H2_) | with_reducible exact H | (rw [hy448]; exact H) | exact H
                              have Ny448 := Aside0.mk hy448
                              clear hy448
                              have H' := Aside0.mk H
                              clear H
                              have p82 : 0 ≤ ((rd (rd_L17 t426 x8_1) x10_3) : Int) := of_decide_eq_true (by first | (with_reducible assumption) | assumption)
                              have q82 : ((rd (rd_L17 t426 x8_1) x10_3) : Int) < ((x7_3.length : Int) : Int) := of_decide_eq_true (by first | (with_reducible assumption) | assumption)
                              obtain ⟨hx82_0, hf82_0⟩ := Kd.R_celln false HO_7.out ((rd (rd_L17 t426 x8_1) x10_3) : Int) p82 q82
                              replace p82 := eq_true p82
                              replace q82 := eq_true q82
                              have HP83 := Kd.R_putg HO_7.out ((rd (rd_L17 t426 x8_1) x10_3) : Int) true
                              go_wp2_with (first | ((with_reducible refine gate_store (t := 4) (p := 123) rfl ?_); refine store_event (t := 4) (p := 123) (v := ?vo_w84) (w1 := (wc.setCell ⟨go11, ((rd (rd_L17 t426 x8_1) x10_3) : Int).toNat, none⟩ (.bool true))) ?hg ?ho ?hn ?hr ?_; (case ho => rfl); (case hg => rfl); (case hn => rfl); (case hr => first | (go_simp; done) | (go_simp; rfl)); intro w84 hw; have hg : wc.grownBy w84 (some go11) := (by rw [hw]; exact HP83.2); have hp_ : Kd.R Kd.bool 4 w84 w.heap.size (fun _ => True) (.slice (some ⟨go11, 0, none⟩) x7_3.length co11) y448 := (by rw [hw, Ny448.out]; exact HP83.1); clear HP83; have n0_ := Aside0.mk (hp_); have n1_ := Aside0.mk (Kd.S_over' (v := (.slice (some ⟨go11, 0, none⟩) x7_3.length co11)) (by (with_reducible repeat (first | apply Kd.S_alloc | apply Kd.S_drewN | apply Kd.S_drew)); exact HO_431000.out) (Kd.R_typed HO_7.out) (by decide) hg); have n2_ := Aside0.mk (Kd.S_over' (v := (.slice (some ⟨go11, 0, none⟩) x7_3.length co11)) (by (with_reducible repeat (first | apply Kd.S_alloc | apply Kd.S_drewN | apply Kd.S_drew)); exact HO_431001.out) (Kd.R_typed HO_7.out) (by decide) hg); have n3_ := Aside0.mk (blk_grown (g := gb420) (o := .cells #[.slice A0_0 l0_0.length c0_0, .slice A0_1 l0_1.length c0_1, .slice A0_2 l0_2.length c0_2, .slice A0_3 l0_3.length c0_3, .int .i64 a0_4] 27 (0, 0)) (by (with_reducible repeat (first | refine blk_drewN ?_ _ | refine blk_drew ?_ | refine blk_alloc ?_ _)); exact BK420.out) hg (Kd.R_ne HO_7.out BK420.out (by decide))); have n4_ := Aside0.mk (blk_grown (g := gb430) (o := .cells #[.slice Ao19 t423.length co19, .slice (some ad444) t426.length co22] 49 (0, 0)) (by (with_reducible repeat (first | refine blk_drewN ?_ _ | refine blk_drew ?_ | refine blk_alloc ?_ _)); exact BK430.out) hg (Kd.R_ne HO_7.out BK430.out (by decide))); have n5_ := Aside0.mk ((by rw [hw]; exact below_set (HB.out) GB11.out : Below w.heap.size w w84)); clear HO_7; clear HO_431000; clear HO_431001; clear BK420; clear BK430; clear HB; have HO_7 := n0_; have HO_431000 := n1_; have HO_431001 := n2_; have BK420 := n3_; have BK430 := n4_; have HB := n5_; clear n0_ n1_ n2_ n3_ n4_ n5_; clear hg hw hp_))
                              go_loopg [13] kj57 (fun kq v13 w' => ∃ (x13_6 : Int), v13 = .int .i64 x13_6 ∧ Aside0 (syntagmlaw14_StatesAhead.l3 kq true y448 x8_1 x10_3 x11_46 (rd (rd_L17 t426 x8_1) x10_3) x13_6 l0_0 l0_1 l0_2 l0_3 a0_4 t423 t426 = some r) ∧ Aside0 (kq ≤ kj57) ∧ Aside0 (Kd.R Kd.bool 4 w' w.heap.size (fun _ => True) (.slice (some ⟨go11, 0, none⟩) x7_3.length co11) y448) ∧ Aside0 (Kd.S (Kd.slice 37 k37) 28 w' w.heap.size (fun _ => True) (.slice Ao19 t423.length co19) t423) ∧ Aside0 (Kd.S (Kd.slice 3 (Kd.int .i64)) 58 w' w.heap.size (fun _ => True) (.slice (some ad444) t426.length co22) t426) ∧ Aside0 (w'.heap[gb420]? = some (.cells #[(.slice A0_0 l0_0.length c0_0), (.slice A0_1 l0_1.length c0_1), (.slice A0_2 l0_2.length c0_2), (.slice A0_3 l0_3.length c0_3), .int .i64 a0_4] 27 (0, 0))) ∧ Aside0 (w'.heap[gb430]? = some (.cells #[(.slice Ao19 t423.length co19), (.slice (some ad444) t426.length co22)] 49 (0, 0))) ∧ Aside0 (Below w.heap.size w w'))
                              case atStart => exact ⟨(0), (by first | rfl | (simp; done) | (simp [*]; done)), H', ⟨Nat.le_refl _⟩, ⟨by (try simp only [hl7_1]); (try simp only [hl7_3]); (with_reducible repeat (first | apply Kd.R_alloc | apply Kd.R_drewN | apply Kd.R_drew)); exact HO_7.out⟩, ⟨by (try simp only [hl7_1]); (try simp only [hl7_3]); (with_reducible repeat (first | apply Kd.S_alloc | apply Kd.S_drewN | apply Kd.S_drew)); exact HO_431000.out⟩, ⟨by (try simp only [hl7_1]); (try simp only [hl7_3]); (with_reducible repeat (first | apply Kd.S_alloc | apply Kd.S_drewN | apply Kd.S_drew)); exact HO_431001.out⟩, ⟨by (try simp only [hl7_1]); (try simp only [hl7_3]); (with_reducible repeat (first | refine blk_drewN ?_ _ | refine blk_drew ?_ | refine blk_alloc ?_ _)); exact BK420.out⟩, ⟨by (try simp only [hl7_1]); (try simp only [hl7_3]); (with_reducible repeat (first | refine blk_drewN ?_ _ | refine blk_drew ?_ | refine blk_alloc ?_ _)); exact BK430.out⟩, ⟨by repeat (first | (with_reducible first | exact HB.out | apply below_alloc | apply pw_below_drewN | apply below_drew1 | refine below_set ?_ GE420.out | refine below_set ?_ GE430.out) | exact HB.out)⟩⟩
                              case round =>
                               clear H'
                               try clear c1
                               try clear p1
                               try clear q1
                               try clear hx1
                               try clear qi1
                               try clear hf1
                               try clear c2
                               try clear p2
                               try clear c3
                               try clear c4
                               try clear p4
                               try clear q4
                               try clear hx4
                               try clear c5
                               try clear c6
                               try clear p6
                               try clear c7
                               try clear c7b0
                               try clear c7b1
                               try clear c8
                               try clear c8b0
                               try clear c8b1
                               try clear p8
                               try clear q8
                               try clear hx8
                               try clear hf8
                               try clear c9
                               try clear c9b0
                               try clear c9b1
                               try clear c10
                               try clear c10b0
                               try clear c10b1
                               try clear p11
                               try clear q11
                               try clear hx11
                               try clear qi11
                               try clear hf11
                               try clear c12
                               try clear c14
                               try clear c17
                               try clear c20
                               try clear c22
                               try clear c23
                               try clear c25
                               try clear c27
                               try clear c27b0
                               try clear c28
                               try clear c30
                               try clear c30b0
                               try clear c31
                               try clear c31b0
                               try clear c32
                               try clear c32b0
                               try clear c34
                               try clear c34b0
                               try clear c35
                               try clear c35b0
                               try clear c38
                               try clear c43
                               try clear p43
                               try clear q43
                               try clear hx43
                               try clear c44
                               try clear c44b0
                               try clear p44
                               try clear q44
                               try clear hx44
                               try clear c45
                               try clear c45b0
                               try clear c46
                               try clear c46b0
                               try clear c48
                               try clear c51
                               try clear c51b0
                               try clear c52
                               try clear c54
                               try clear c54b0
                               try clear c55
                               try clear c55b0
                               try clear c56
                               try clear c56b0
                               try clear c57
                               try clear c57b0
                               try clear c59
                               try clear c62
                               try clear c62b0
                               try clear c62b1
                               try clear c63
                               try clear c63b0
                               try clear c64
                               try clear p64
                               try clear c69
                               try clear c74
                               try clear c78
                               try clear c79
                               try clear c79b0
                               try clear c80
                               try clear c80b0
                               try clear c81
                               try clear c81b0
                               try clear p82
                               try clear q82
                               try clear hx82
                               try clear hf82
                               try clear hcz14_0
                               try clear hcz14_1
                               try clear hcz14_2
                               try clear hcz14_3
                               try clear hcz14_4
                               try clear hcz16_0
                               try clear hcz16_1
                               try clear hcz16_2
                               try clear hcz16_3
                               try clear hcz16_4
                               try clear hcz21_0
                               try clear hcz21_1
                               try clear hcz29_0
                               try clear hcz29_1
                               try clear hcz49_0
                               try clear hcz49_1
                               try clear hcz50_0
                               try clear hcz50_1
                               try clear hcz50_2
                               try clear hcz50_3
                               try clear hcz50_4
                               try clear hcz53_0
                               try clear hcz53_1
                               try clear hcz53_2
                               try clear hcz53_3
                               try clear hcz53_4
                               try clear hcz60_0
                               try clear hcz60_1
                               try clear hcz65_0
                               try clear hcz65_1
                               try clear hcz65_2
                               try clear hcz65_3
                               try clear hcz65_4
                               try clear hcz66_0
                               try clear hcz66_1
                               try clear hcz68_0
                               try clear hcz68_1
                               try clear hcz70_0
                               try clear hcz70_1
                               try clear hcz70_2
                               try clear hcz70_3
                               try clear hcz70_4
                               try clear hcz71_0
                               try clear hcz71_1
                               try clear hcz73_0
                               try clear hcz73_1
                               try clear hcz75_0
                               try clear hcz75_1
                               try clear hcz75_2
                               try clear hcz75_3
                               try clear hcz75_4
                               try clear hcz76_0
                               try clear hcz76_1
                               try clear hfz14_0
                               try clear hfz14_1
                               try clear hfz14_2
                               try clear hfz14_3
                               try clear hfz14_4
                               try clear hfz16_0
                               try clear hfz16_1
                               try clear hfz16_2
                               try clear hfz16_3
                               try clear hfz16_4
                               try clear hfz21_0
                               try clear hfz21_1
                               try clear hfz29_0
                               try clear hfz29_1
                               try clear hfz49_0
                               try clear hfz49_1
                               try clear hfz50_0
                               try clear hfz50_1
                               try clear hfz50_2
                               try clear hfz50_3
                               try clear hfz50_4
                               try clear hfz53_0
                               try clear hfz53_1
                               try clear hfz53_2
                               try clear hfz53_3
                               try clear hfz53_4
                               try clear hfz60_0
                               try clear hfz60_1
                               try clear hfz65_0
                               try clear hfz65_1
                               try clear hfz65_2
                               try clear hfz65_3
                               try clear hfz65_4
                               try clear hfz66_0
                               try clear hfz66_1
                               try clear hfz68_0
                               try clear hfz68_1
                               try clear hfz70_0
                               try clear hfz70_1
                               try clear hfz70_2
                               try clear hfz70_3
                               try clear hfz70_4
                               try clear hfz71_0
                               try clear hfz71_1
                               try clear hfz73_0
                               try clear hfz73_1
                               try clear hfz75_0
                               try clear hfz75_1
                               try clear hfz75_2
                               try clear hfz75_3
                               try clear hfz75_4
                               try clear hfz76_0
                               try clear hfz76_1
                               try clear hx11_0
                               try clear hx435_0
                               try clear hx439_0
                               try clear hx444_0
                               try clear hx445_0
                               try clear hx446_0
                               try clear hx82_0
                               try clear p1
                               try clear p11
                               try clear p2
                               try clear p4
                               try clear p43
                               try clear p435
                               try clear p439
                               try clear p44
                               try clear p444
                               try clear p445
                               try clear p446
                               try clear p6
                               try clear p64
                               try clear p82
                               try clear q1
                               try clear q11
                               try clear q4
                               try clear q43
                               try clear q435
                               try clear q439
                               try clear q44
                               try clear q444
                               try clear q445
                               try clear q446
                               try clear q82
                               obtain ⟨x13_6, rfl, HA, HK6, HO_7, HO_431000, HO_431001, BK420, BK430, HB⟩ := hrel
                               have hl7_6 := (Kd.R_reads' HO_7.out).1
                               rw [hl7_6] at HO_7
                               (try simp only [hl7_6])
                               (try simp only [hl7_6] at BK420)
                               (try simp only [hl7_6] at BK430)
                               (try simp only [hl7_6] at HO_431000)
                               (try simp only [hl7_6] at HO_431001)
                               cases gk with
                               | zero => exact absurd HA.out (by simp [syntagmlaw14_StatesAhead.l3])
                               | succ k6 =>
                                have H := HA.out
                                clear HA
                                simp only [syntagmlaw14_StatesAhead.l3] at H
                                by_cases c85 : 0 ≤ (rd (rd_L17 t426 x8_1) x10_3)
                                ·rw [if_pos c85] at H
                                 have c85b0 : decide (0 ≤ (rd (rd_L17 t426 x8_1) x10_3)) = true := decide_eq_true c85
                                 clear c85
                                 by_cases c86 : (rd (rd_L17 t426 x8_1) x10_3) < (t423.length : Int)
                                 ·rw [if_pos c86] at H
                                  have c86b0 : decide ((rd (rd_L17 t426 x8_1) x10_3) < (t423.length : Int)) = true := decide_eq_true c86
                                  clear c86
                                  by_cases c87 : x13_6 < ((rd_L15 t423 (rd (rd_L17 t426 x8_1) x10_3)).length : Int)
                                  ·rw [if_pos c87] at H
                                   have c87b0 : decide (x13_6 < ((rd_L15 t423 (rd (rd_L17 t426 x8_1) x10_3)).length : Int)) = true := decide_eq_true c87
                                   clear c87
                                   by_cases c88 : 0 ≤ x13_6
                                   ·rw [if_pos c88] at H
                                    have c88b0 : decide (0 ≤ x13_6) = true := decide_eq_true c88
                                    clear c88
                                    replace H := Option.bind_eq_some_iff.mp H
                                    obtain ⟨⟨t453, t454⟩, A890, H⟩ := H
                                    replace H : (if t454 = true then (if t453 = x11_46 then (syntagmlaw14_StatesAhead.l3 k6 true y448 x8_1 x10_3 x11_46 (rd (rd_L17 t426 x8_1) x10_3) (wrap64 (x13_6 + 1)) l0_0 l0_1 l0_2 l0_3 a0_4 t423 t426) else (some false)) else (some false)) = some r := H
                                    have A89 := Aside0.mk A890
                                    clear A890
                                    by_cases c90 : t454 = true
                                    ·subst c90
                                     have H1 : (if t453 = x11_46 then (syntagmlaw14_StatesAhead.l3 k6 true y448 x8_1 x10_3 x11_46 (rd (rd_L17 t426 x8_1) x10_3) (wrap64 (x13_6 + 1)) l0_0 l0_1 l0_2 l0_3 a0_4 t423 t426) else (some false)) = some r := by rw [if_pos rfl] at H; exact H
                                     clear H
                                     have H := H1
                                     clear H1
                                     by_cases c91 : t453 = x11_46
                                     ·rw [if_pos c91] at H
                                      have c91b0 : (t453 == x11_46) = true := beq_iff_eq.mpr c91
                                      have c91b1 : (t453 != x11_46) = false := bne_eq_false_iff_eq.mpr c91
                                      clear c91
                                      have H' := Aside0.mk H
                                      clear H
                                      have hnb92 := NB430_420.out
                                      have hnc92 := NB420_430.out
                                      have hcz93_0 : wr.cell? ⟨gb430, 0, none⟩ = some (.slice Ao19 t423.length co19) := (blk_cell BK430.out 0).trans rfl
                                      have hcz93_1 : wr.cell? ⟨gb430, 1, none⟩ = some (.slice (some ad444) t426.length co22) := (blk_cell BK430.out 1).trans rfl
                                      have hfz93_0 := blk_frozen BK430.out 0
                                      have hfz93_1 := blk_frozen BK430.out 1
                                      have p449 : 0 ≤ ((rd (rd_L17 t426 x8_1) x10_3) : Int) := of_decide_eq_true (by first | (with_reducible assumption) | assumption)
                                      have q449 : (rd (rd_L17 t426 x8_1) x10_3) < (t423.length : Int) := of_decide_eq_true (by first | (with_reducible assumption) | assumption)
                                      obtain ⟨ad449, A449_0, c449_0, e449, hx449_0, hl449_0, hi449_0⟩ := at_L15 (Kd.S_reads' HO_431000.out).2.2 (rd (rd_L17 t426 x8_1) x10_3) p449 q449
                                      cases e449
                                      obtain ⟨ce449, hce449, hMe449, hcc449⟩ := Kd.S_get HO_431000.out [] (rd (rd_L17 t426 x8_1) x10_3) p449 (by first | exact q449 | exact of_decide_eq_true (by first | (with_reducible assumption) | assumption) | (have e_ := (Kd.S_reads' HO_431000.out).1; omega))
                                      obtain ⟨ve449_0, rfl, ge449_0⟩ := hMe449
                                      have hv449_0 := hcc449 0 _ rfl
                                      rw [Nat.add_zero, show ((Kd.slice 37 k37)).sz = 1 from rfl, Nat.mul_one] at hv449_0
                                      replace hv449_0 := Option.some.inj (hv449_0.symm.trans hx449_0)
                                      rw [hv449_0] at ge449_0
                                      have HL449_0 := Aside0.mk (show Kd.R k37 37 _ _ _ _ (rd_L15 t423 (rd (rd_L17 t426 x8_1) x10_3)) from ge449_0)
                                      clear hv449_0 ge449_0
                                      clear hcc449 hce449
                                      have HR449_0 := Aside0.mk hi449_0
                                      have HC449_0 := Aside0.mk hl449_0
                                      clear hi449_0 hl449_0
                                      replace p449 := eq_true p449
                                      replace q449 := eq_true q449
                                      have p450 : 0 ≤ ((rd (rd_L17 t426 x8_1) x10_3) : Int) := of_decide_eq_true (by first | (with_reducible assumption) | assumption)
                                      have q450 : (rd (rd_L17 t426 x8_1) x10_3) < (t423.length : Int) := of_decide_eq_true (by first | (with_reducible assumption) | assumption)
                                      obtain ⟨ad450, A450_0, c450_0, e450, hx450_0, hl450_0, hi450_0⟩ := at_L15 (Kd.S_reads' HO_431000.out).2.2 (rd (rd_L17 t426 x8_1) x10_3) p450 q450
                                      obtain rfl : ad449 = ad450 := (by injection e450)
                                      obtain ⟨ce450, hce450, hMe450, hcc450⟩ := Kd.S_get HO_431000.out [] (rd (rd_L17 t426 x8_1) x10_3) p450 (by first | exact q450 | exact of_decide_eq_true (by first | (with_reducible assumption) | assumption) | (have e_ := (Kd.S_reads' HO_431000.out).1; omega))
                                      obtain ⟨ve450_0, rfl, ge450_0⟩ := hMe450
                                      have hv450_0 := hcc450 0 _ rfl
                                      rw [Nat.add_zero, show ((Kd.slice 37 k37)).sz = 1 from rfl, Nat.mul_one] at hv450_0
                                      replace hv450_0 := Option.some.inj (hv450_0.symm.trans hx450_0)
                                      rw [hv450_0] at ge450_0
                                      have HL450_0 := Aside0.mk (show Kd.R k37 37 _ _ _ _ (rd_L15 t423 (rd (rd_L17 t426 x8_1) x10_3)) from ge450_0)
                                      clear hv450_0 ge450_0
                                      clear hcc450 hce450
                                      have HR450_0 := Aside0.mk hi450_0
                                      have HC450_0 := Aside0.mk hl450_0
                                      clear hi450_0 hl450_0
                                      replace p450 := eq_true p450
                                      replace q450 := eq_true q450
                                      have ea_ := Option.some.inj (hx449_0.symm.trans hx450_0)
                                      injection ea_ with ea_ en_ ec_
                                      subst ea_
                                      subst ec_
                                      clear en_
                                      have p451 : 0 ≤ (x13_6 : Int) := of_decide_eq_true (by first | (with_reducible assumption) | assumption)
                                      have q451 : x13_6 < ((rd_L15 t423 (rd (rd_L17 t426 x8_1) x10_3)).length : Int) := of_decide_eq_true (by first | (with_reducible assumption) | assumption)
                                      obtain ⟨ad451, e451, hx451_0, hx451_1⟩ := at_T37 (by repeat (first | (with_reducible exact HR450_0.out) | (with_reducible refine Kd.C_alloc ?_ _) | (with_reducible refine Kd.C_drewN ?_ _) | (with_reducible refine Kd.C_drew ?_) | exact HR450_0.out)) x13_6 p451 q451
                                      cases e451
                                      replace p451 := eq_true p451
                                      replace q451 := eq_true q451
                                      go_wp2_with (first | ((with_reducible refine gate_dst (N := 14) rfl ?_); (try (refine gate_guard (by rfl) ?_; dsimp only)); refine box_event ?hg (N := 14) ?hd (cs := #[.int .i64 0, .int .i64 0]) (t := 37) ?hr ?_; (case hd => rfl); (case hg => rfl); (case hr => first | (go_simp; done) | (go_simp; rfl)); intro gb452 hg w94 hbox hb; have n0_ := Aside0.mk (Kd.R_below (by (with_reducible repeat (first | apply Kd.R_alloc | apply Kd.R_drewN | apply Kd.R_drew)); exact HO_7.out) hb); have n1_ := Aside0.mk (Kd.S_below (Kd.S_elderB (by (with_reducible repeat (first | apply Kd.S_alloc | apply Kd.S_drewN | apply Kd.S_drew)); exact HO_431000.out) gb452 (Nat.le_of_eq hg.symm)) hb); have n2_ := Aside0.mk (Kd.S_below (by (with_reducible repeat (first | apply Kd.S_alloc | apply Kd.S_drewN | apply Kd.S_drew)); exact HO_431001.out) hb); have n3_ := Aside0.mk (Kd.R_below (Kd.R_elderB (by (with_reducible repeat (first | apply Kd.R_alloc | apply Kd.R_drewN | apply Kd.R_drew)); exact HL449_0.out) gb452 (Nat.le_of_eq hg.symm)) hb); have n4_ := Aside0.mk (Kd.R_below (Kd.R_elderB (by (with_reducible repeat (first | apply Kd.R_alloc | apply Kd.R_drewN | apply Kd.R_drew)); exact HL450_0.out) gb452 (Nat.le_of_eq hg.symm)) hb); have n5_ := Aside0.mk (blk_below (g := gb420) (o := .cells #[.slice A0_0 l0_0.length c0_0, .slice A0_1 l0_1.length c0_1, .slice A0_2 l0_2.length c0_2, .slice A0_3 l0_3.length c0_3, .int .i64 a0_4] 27 (0, 0)) (by (with_reducible repeat (first | refine blk_drewN ?_ _ | refine blk_drew ?_ | refine blk_alloc ?_ _)); exact BK420.out) hb); have n6_ := Aside0.mk (blk_below (g := gb430) (o := .cells #[.slice (some ad449) t423.length co19, .slice (some ad444) t426.length co22] 49 (0, 0)) (by (with_reducible repeat (first | refine blk_drewN ?_ _ | refine blk_drew ?_ | refine blk_alloc ?_ _)); exact BK430.out) hb); have n7_ := Aside0.mk (Kd.C_below (by repeat (first | (with_reducible exact HR449_0.out) | (with_reducible refine Kd.C_alloc ?_ _) | (with_reducible refine Kd.C_drewN ?_ _) | (with_reducible refine Kd.C_drew ?_) | exact HR449_0.out)) hb); have n8_ := Aside0.mk (Kd.C_below (by repeat (first | (with_reducible exact HR450_0.out) | (with_reducible refine Kd.C_alloc ?_ _) | (with_reducible refine Kd.C_drewN ?_ _) | (with_reducible refine Kd.C_drew ?_) | exact HR450_0.out)) hb); have n9_ := Aside0.mk (below_step (by repeat (first | (with_reducible first | exact HB.out | apply below_alloc | apply pw_below_drewN | apply below_drew1 | refine below_set ?_ GE420.out | refine below_set ?_ GE430.out) | exact HB.out)) hb); have n10_ := Aside0.mk (hbox); have n11_ := Aside0.mk ((by rw [hg]; exact (below_size (by repeat (first | (with_reducible first | exact HB.out | apply below_alloc | apply pw_below_drewN | apply below_drew1 | refine below_set ?_ GE420.out | refine below_set ?_ GE430.out) | exact HB.out))) : w.heap.size ≤ gb452)); have n12_ := Aside0.mk ((by rw [hg]; exact (below_size (by repeat (first | (with_reducible first | exact HB.out | apply below_alloc | apply pw_below_drewN | apply below_drew1 | refine below_set ?_ GE420.out | refine below_set ?_ GE430.out) | exact HB.out))) : w.heap.size ≤ gb452)); have n13_ := Aside0.mk ((by rw [hg]; exact Nat.ne_of_lt (blk_lt (g := gb420) (o := .cells #[.slice A0_0 l0_0.length c0_0, .slice A0_1 l0_1.length c0_1, .slice A0_2 l0_2.length c0_2, .slice A0_3 l0_3.length c0_3, .int .i64 a0_4] 27 (0, 0)) (by (with_reducible repeat (first | refine blk_drewN ?_ _ | refine blk_drew ?_ | refine blk_alloc ?_ _)); exact BK420.out)) : gb420 ≠ gb452)); have n14_ := Aside0.mk ((by rw [hg]; exact Nat.ne_of_gt (blk_lt (g := gb420) (o := .cells #[.slice A0_0 l0_0.length c0_0, .slice A0_1 l0_1.length c0_1, .slice A0_2 l0_2.length c0_2, .slice A0_3 l0_3.length c0_3, .int .i64 a0_4] 27 (0, 0)) (by (with_reducible repeat (first | refine blk_drewN ?_ _ | refine blk_drew ?_ | refine blk_alloc ?_ _)); exact BK420.out)) : gb452 ≠ gb420)); have n15_ := Aside0.mk ((by rw [hg]; exact Nat.ne_of_lt (blk_lt (g := gb430) (o := .cells #[.slice (some ad449) t423.length co19, .slice (some ad444) t426.length co22] 49 (0, 0)) (by (with_reducible repeat (first | refine blk_drewN ?_ _ | refine blk_drew ?_ | refine blk_alloc ?_ _)); exact BK430.out)) : gb430 ≠ gb452)); have n16_ := Aside0.mk ((by rw [hg]; exact Nat.ne_of_gt (blk_lt (g := gb430) (o := .cells #[.slice (some ad449) t423.length co19, .slice (some ad444) t426.length co22] 49 (0, 0)) (by (with_reducible repeat (first | refine blk_drewN ?_ _ | refine blk_drew ?_ | refine blk_alloc ?_ _)); exact BK430.out)) : gb452 ≠ gb430)); clear HO_7; clear HO_431000; clear HO_431001; clear HL449_0; clear HL450_0; clear BK420; clear BK430; clear HR449_0; clear HR450_0; clear HB; have HO_7 := n0_; have HO_431000 := n1_; have HO_431001 := n2_; have HL449_0 := n3_; have HL450_0 := n4_; have BK420 := n5_; have BK430 := n6_; have HR449_0 := n7_; have HR450_0 := n8_; have HB := n9_; have BK452 := n10_; have GW452 := n11_; have GE452 := n12_; have NB420_452 := n13_; have NB452_420 := n14_; have NB430_452 := n15_; have NB452_430 := n16_; clear n0_ n1_ n2_ n3_ n4_ n5_ n6_ n7_ n8_ n9_ n10_ n11_ n12_ n13_ n14_ n15_ n16_; clear hb hbox hg; have hnb95 := NB452_420.out; have hnc95 := NB420_452.out; have hnb96 := NB452_430.out; have hnc96 := NB430_452.out; have hcz97_0 : w94.cell? ⟨gb452, 0, none⟩ = some (.int .i64 0) := (blk_cell BK452.out 0).trans rfl; have hcz97_1 : w94.cell? ⟨gb452, 1, none⟩ = some (.int .i64 0) := (blk_cell BK452.out 1).trans rfl; have hfz97_0 := blk_frozen BK452.out 0; have hfz97_1 := blk_frozen BK452.out 1; have hcz98_0 : w94.cell? ⟨gb420, 0, none⟩ = some (.slice A0_0 l0_0.length c0_0) := (blk_cell BK420.out 0).trans rfl; have hcz98_1 : w94.cell? ⟨gb420, 1, none⟩ = some (.slice A0_1 l0_1.length c0_1) := (blk_cell BK420.out 1).trans rfl; have hcz98_2 : w94.cell? ⟨gb420, 2, none⟩ = some (.slice A0_2 l0_2.length c0_2) := (blk_cell BK420.out 2).trans rfl; have hcz98_3 : w94.cell? ⟨gb420, 3, none⟩ = some (.slice A0_3 l0_3.length c0_3) := (blk_cell BK420.out 3).trans rfl; have hcz98_4 : w94.cell? ⟨gb420, 4, none⟩ = some (.int .i64 a0_4) := (blk_cell BK420.out 4).trans rfl; have hfz98_0 := blk_frozen BK420.out 0; have hfz98_1 := blk_frozen BK420.out 1; have hfz98_2 := blk_frozen BK420.out 2; have hfz98_3 := blk_frozen BK420.out 3; have hfz98_4 := blk_frozen BK420.out 4) | ((with_reducible refine gate_callee (f := 15) rfl ?_); refine goesL_ (some 150) rfl rfl Tryd.func15 (by kernel_rfl) rfl #[.agg #[.slice A0_0 l0_0.length c0_0, .slice A0_1 l0_1.length c0_1, .slice A0_2 l0_2.length c0_2, .slice A0_3 l0_3.length c0_3, .int .i64 a0_4], .agg #[.int .i64 ((rd_T37 (rd_L15 t423 (rd (rd_L17 t426 x8_1) x10_3)) x13_6).f0), .int .i64 (wrap64 (((rd_T37 (rd_L15 t423 (rd (rd_L17 t426 x8_1) x10_3)) x13_6).f1) - 1))]] rfl (by (try simp only [List.map_toArray, List.map_cons, List.map_nil]); first | done | rfl | (simp only [List.length_drop, List.length_take]; rfl)) ?_; (with_reducible refine (states_Behind.calls _ _ l0_0 _ _ l0_1 _ _ l0_2 _ _ l0_3 a0_4 ((rd_T37 (rd_L15 t423 (rd (rd_L17 t426 x8_1) x10_3)) x13_6).f0) (wrap64 (((rd_T37 (rd_L15 t423 (rd (rd_L17 t426 x8_1) x10_3)) x13_6).f1) - 1)) t453 true _ ?side1 ?side2 ?side3 ?side4 ?side5 ?side6 ?side7 ?side8 A89.out).mono ?_); (case side1 => exact Kd.C_below HR0_0.out (by repeat (first | (with_reducible first | exact HB.out | apply below_alloc | apply pw_below_drewN | apply below_drew1 | refine below_set ?_ GE420.out | refine below_set ?_ GE430.out | refine below_set ?_ GE452.out) | exact HB.out))); (case side2 => exact HC0_0.out); (case side3 => exact Kd.C_below HR0_1.out (by repeat (first | (with_reducible first | exact HB.out | apply below_alloc | apply pw_below_drewN | apply below_drew1 | refine below_set ?_ GE420.out | refine below_set ?_ GE430.out | refine below_set ?_ GE452.out) | exact HB.out))); (case side4 => exact HC0_1.out); (case side5 => exact Kd.C_below HR0_2.out (by repeat (first | (with_reducible first | exact HB.out | apply below_alloc | apply pw_below_drewN | apply below_drew1 | refine below_set ?_ GE420.out | refine below_set ?_ GE430.out | refine below_set ?_ GE452.out) | exact HB.out))); (case side6 => exact HC0_2.out); (case side7 => exact Kd.C_below HR0_3.out (by repeat (first | (with_reducible first | exact HB.out | apply below_alloc | apply pw_below_drewN | apply below_drew1 | refine below_set ?_ GE420.out | refine below_set ?_ GE430.out | refine below_set ?_ GE452.out) | exact HB.out))); (case side8 => exact HC0_3.out); rintro e w99 ⟨rfl, hb⟩; refine ⟨_, rfl, ?_⟩; have n0_ := Aside0.mk (Kd.R_below (by (with_reducible repeat (first | apply Kd.R_alloc | apply Kd.R_drewN | apply Kd.R_drew)); exact (Kd.R_mono (Kd.R_far (p := ⟨gb452, 1, none⟩) (Kd.R_far (p := ⟨gb452, 0, none⟩) (Kd.R_types HO_7.out BK452.out (by decide)) (fun _ hk => hk.2) (.int .i64 ((rd_T37 (rd_L15 t423 (rd (rd_L17 t426 x8_1) x10_3)) x13_6).f0))) (fun _ hk => hk.2) (.int .i64 ((rd_T37 (rd_L15 t423 (rd (rd_L17 t426 x8_1) x10_3)) x13_6).f1))) (fun _ h_ => h_.1))) hb); have n1_ := Aside0.mk (Kd.S_below (by (with_reducible repeat (first | apply Kd.S_alloc | apply Kd.S_drewN | apply Kd.S_drew)); exact (Kd.S_mono (Kd.S_far (p := ⟨gb452, 1, none⟩) (Kd.S_far (p := ⟨gb452, 0, none⟩) (Kd.S_mono HO_431000.out (fun k_ hk => (⟨hk, hk.2⟩ : _ ∧ k_ ≠ gb452))) (fun _ hk => hk.2) (.int .i64 ((rd_T37 (rd_L15 t423 (rd (rd_L17 t426 x8_1) x10_3)) x13_6).f0))) (fun _ hk => hk.2) (.int .i64 ((rd_T37 (rd_L15 t423 (rd (rd_L17 t426 x8_1) x10_3)) x13_6).f1))) (fun _ h_ => h_.1))) hb); have n2_ := Aside0.mk (Kd.S_below (by (with_reducible repeat (first | apply Kd.S_alloc | apply Kd.S_drewN | apply Kd.S_drew)); exact (Kd.S_mono (Kd.S_far (p := ⟨gb452, 1, none⟩) (Kd.S_far (p := ⟨gb452, 0, none⟩) (Kd.S_types HO_431001.out BK452.out (by decide)) (fun _ hk => hk.2) (.int .i64 ((rd_T37 (rd_L15 t423 (rd (rd_L17 t426 x8_1) x10_3)) x13_6).f0))) (fun _ hk => hk.2) (.int .i64 ((rd_T37 (rd_L15 t423 (rd (rd_L17 t426 x8_1) x10_3)) x13_6).f1))) (fun _ h_ => h_.1))) hb); have n3_ := Aside0.mk (Kd.R_below (by (with_reducible repeat (first | apply Kd.R_alloc | apply Kd.R_drewN | apply Kd.R_drew)); exact (Kd.R_mono (Kd.R_far (p := ⟨gb452, 1, none⟩) (Kd.R_far (p := ⟨gb452, 0, none⟩) (Kd.R_mono HL449_0.out (fun k_ hk => (⟨hk, hk.2⟩ : _ ∧ k_ ≠ gb452))) (fun _ hk => hk.2) (.int .i64 ((rd_T37 (rd_L15 t423 (rd (rd_L17 t426 x8_1) x10_3)) x13_6).f0))) (fun _ hk => hk.2) (.int .i64 ((rd_T37 (rd_L15 t423 (rd (rd_L17 t426 x8_1) x10_3)) x13_6).f1))) (fun _ h_ => h_.1))) hb); have n4_ := Aside0.mk (Kd.R_below (by (with_reducible repeat (first | apply Kd.R_alloc | apply Kd.R_drewN | apply Kd.R_drew)); exact (Kd.R_mono (Kd.R_far (p := ⟨gb452, 1, none⟩) (Kd.R_far (p := ⟨gb452, 0, none⟩) (Kd.R_mono HL450_0.out (fun k_ hk => (⟨hk, hk.2⟩ : _ ∧ k_ ≠ gb452))) (fun _ hk => hk.2) (.int .i64 ((rd_T37 (rd_L15 t423 (rd (rd_L17 t426 x8_1) x10_3)) x13_6).f0))) (fun _ hk => hk.2) (.int .i64 ((rd_T37 (rd_L15 t423 (rd (rd_L17 t426 x8_1) x10_3)) x13_6).f1))) (fun _ h_ => h_.1))) hb); have n5_ := Aside0.mk (blk_below (g := gb420) (o := .cells #[.slice A0_0 l0_0.length c0_0, .slice A0_1 l0_1.length c0_1, .slice A0_2 l0_2.length c0_2, .slice A0_3 l0_3.length c0_3, .int .i64 a0_4] 27 (0, 0)) (by (with_reducible repeat (first | refine blk_drewN ?_ _ | refine blk_drew ?_ | refine blk_alloc ?_ _)); refine blk_far ?_ NB420_452.out _; (with_reducible repeat (first | refine blk_drewN ?_ _ | refine blk_drew ?_ | refine blk_alloc ?_ _)); refine blk_far ?_ NB420_452.out _; (with_reducible repeat (first | refine blk_drewN ?_ _ | refine blk_drew ?_ | refine blk_alloc ?_ _)); exact BK420.out) hb); have n6_ := Aside0.mk (blk_below (g := gb430) (o := .cells #[.slice (some ad449) t423.length co19, .slice (some ad444) t426.length co22] 49 (0, 0)) (by (with_reducible repeat (first | refine blk_drewN ?_ _ | refine blk_drew ?_ | refine blk_alloc ?_ _)); refine blk_far ?_ NB430_452.out _; (with_reducible repeat (first | refine blk_drewN ?_ _ | refine blk_drew ?_ | refine blk_alloc ?_ _)); refine blk_far ?_ NB430_452.out _; (with_reducible repeat (first | refine blk_drewN ?_ _ | refine blk_drew ?_ | refine blk_alloc ?_ _)); exact BK430.out) hb); have n7_ := Aside0.mk (Kd.C_below ((Kd.R_reads' (by (with_reducible repeat (first | apply Kd.R_alloc | apply Kd.R_drewN | apply Kd.R_drew)); exact (Kd.R_mono (Kd.R_far (p := ⟨gb452, 1, none⟩) (Kd.R_far (p := ⟨gb452, 0, none⟩) (Kd.R_mono HL449_0.out (fun k_ hk => (⟨hk, hk.2⟩ : _ ∧ k_ ≠ gb452))) (fun _ hk => hk.2) (.int .i64 ((rd_T37 (rd_L15 t423 (rd (rd_L17 t426 x8_1) x10_3)) x13_6).f0))) (fun _ hk => hk.2) (.int .i64 ((rd_T37 (rd_L15 t423 (rd (rd_L17 t426 x8_1) x10_3)) x13_6).f1))) (fun _ h_ => h_.1)))).2.2) hb); have n8_ := Aside0.mk (Kd.C_below ((Kd.R_reads' (by (with_reducible repeat (first | apply Kd.R_alloc | apply Kd.R_drewN | apply Kd.R_drew)); exact (Kd.R_mono (Kd.R_far (p := ⟨gb452, 1, none⟩) (Kd.R_far (p := ⟨gb452, 0, none⟩) (Kd.R_mono HL450_0.out (fun k_ hk => (⟨hk, hk.2⟩ : _ ∧ k_ ≠ gb452))) (fun _ hk => hk.2) (.int .i64 ((rd_T37 (rd_L15 t423 (rd (rd_L17 t426 x8_1) x10_3)) x13_6).f0))) (fun _ hk => hk.2) (.int .i64 ((rd_T37 (rd_L15 t423 (rd (rd_L17 t426 x8_1) x10_3)) x13_6).f1))) (fun _ h_ => h_.1)))).2.2) hb); have n9_ := Aside0.mk (blk_below (g := gb452) (o := .cells #[.int .i64 ((rd_T37 (rd_L15 t423 (rd (rd_L17 t426 x8_1) x10_3)) x13_6).f0), .int .i64 ((rd_T37 (rd_L15 t423 (rd (rd_L17 t426 x8_1) x10_3)) x13_6).f1)] 37 (0, 0)) (by (with_reducible repeat (first | refine blk_drewN ?_ _ | refine blk_drew ?_ | refine blk_alloc ?_ _)); refine blk_put (cs := #[.int .i64 ((rd_T37 (rd_L15 t423 (rd (rd_L17 t426 x8_1) x10_3)) x13_6).f0), .int .i64 0]) ?_ 1 _ rfl; (with_reducible repeat (first | refine blk_drewN ?_ _ | refine blk_drew ?_ | refine blk_alloc ?_ _)); refine blk_put (cs := #[.int .i64 0, .int .i64 0]) ?_ 0 _ rfl; (with_reducible repeat (first | refine blk_drewN ?_ _ | refine blk_drew ?_ | refine blk_alloc ?_ _)); exact BK452.out) hb); have n10_ := Aside0.mk (below_step (by repeat (first | (with_reducible first | exact HB.out | apply below_alloc | apply pw_below_drewN | apply below_drew1 | refine below_set ?_ GE420.out | refine below_set ?_ GE430.out | refine below_set ?_ GE452.out) | exact HB.out)) hb); clear HO_7; clear HO_431000; clear HO_431001; clear HL449_0; clear HL450_0; clear BK420; clear BK430; clear HR449_0; clear HR450_0; clear BK452; clear HB; have HO_7 := n0_; have HO_431000 := n1_; have HO_431001 := n2_; have HL449_0 := n3_; have HL450_0 := n4_; have BK420 := n5_; have BK430 := n6_; have HR449_0 := n7_; have HR450_0 := n8_; have BK452 := n9_; have HB := n10_; clear n0_ n1_ n2_ n3_ n4_ n5_ n6_ n7_ n8_ n9_ n10_; (try clear hb); (try clear hb2); (try clear hk); (try clear hi)))
                                      (try simp only [← hl7_6])
                                      go_roundg k6
                                      case measure => have := HK1.out; have := HK2.out; have := HK3.out; have := HJ46.out; have := HJ57.out; have := HK6.out; omega
                                      case rel => exact ⟨(wrap64 (x13_6 + 1)), (by first | rfl | (simp; done) | (simp [*]; done)), H', ⟨by have := HK1.out; have := HK2.out; have := HK3.out; have := HJ46.out; have := HJ57.out; have := HK6.out; omega⟩, ⟨by (try simp only [hl7_1]); (try simp only [hl7_3]); (try simp only [hl7_6]); (with_reducible repeat (first | apply Kd.R_alloc | apply Kd.R_drewN | apply Kd.R_drew)); exact HO_7.out⟩, ⟨by (try simp only [hl7_1]); (try simp only [hl7_3]); (try simp only [hl7_6]); (with_reducible repeat (first | apply Kd.S_alloc | apply Kd.S_drewN | apply Kd.S_drew)); exact Kd.S_mono HO_431000.out (fun _ hk => trivial)⟩, ⟨by (try simp only [hl7_1]); (try simp only [hl7_3]); (try simp only [hl7_6]); (with_reducible repeat (first | apply Kd.S_alloc | apply Kd.S_drewN | apply Kd.S_drew)); exact HO_431001.out⟩, ⟨by (try simp only [hl7_1]); (try simp only [hl7_3]); (try simp only [hl7_6]); (with_reducible repeat (first | refine blk_drewN ?_ _ | refine blk_drew ?_ | refine blk_alloc ?_ _)); exact BK420.out⟩, ⟨by (try simp only [hl7_1]); (try simp only [hl7_3]); (try simp only [hl7_6]); (with_reducible repeat (first | refine blk_drewN ?_ _ | refine blk_drew ?_ | refine blk_alloc ?_ _)); exact BK430.out⟩, ⟨by repeat (first | (with_reducible first | exact HB.out | apply below_alloc | apply pw_below_drewN | apply below_drew1 | refine below_set ?_ GE420.out | refine below_set ?_ GE430.out | refine below_set ?_ GE452.out) | exact HB.out)⟩⟩
                                     ·rw [if_neg c91] at H
                                      have c91b0 : (t453 == x11_46) = false := beq_eq_false_iff_ne.mpr c91
                                      have c91b1 : (t453 != x11_46) = true := bne_iff_ne.mpr c91
                                      exact absurd ((Option.some.inj H).trans HT.out) (by decide)
                                    ·replace c90 := Bool.eq_false_iff.mpr c90
                                     subst c90
                                     have H1 : (some false) = some r := by rw [if_neg (show ¬ (false = true) by decide)] at H; exact H
                                     clear H
                                     have H := H1
                                     clear H1
                                     exact absurd ((Option.some.inj H).trans HT.out) (by decide)
                                   ·rw [if_neg c88] at H
                                    exact absurd H (by simp)
                                  ·rw [if_neg c87] at H
                                   have c87b0 : decide (x13_6 < ((rd_L15 t423 (rd (rd_L17 t426 x8_1) x10_3)).length : Int)) = false := decide_eq_false c87
                                   clear c87
                                   have H' := Aside0.mk H
                                   clear H
                                   have hnb100 := NB430_420.out
                                   have hnc100 := NB420_430.out
                                   have hcz101_0 : wr.cell? ⟨gb430, 0, none⟩ = some (.slice Ao19 t423.length co19) := (blk_cell BK430.out 0).trans rfl
                                   have hcz101_1 : wr.cell? ⟨gb430, 1, none⟩ = some (.slice (some ad444) t426.length co22) := (blk_cell BK430.out 1).trans rfl
                                   have hfz101_0 := blk_frozen BK430.out 0
                                   have hfz101_1 := blk_frozen BK430.out 1
                                   have p449 : 0 ≤ ((rd (rd_L17 t426 x8_1) x10_3) : Int) := of_decide_eq_true (by first | (with_reducible assumption) | assumption)
                                   have q449 : (rd (rd_L17 t426 x8_1) x10_3) < (t423.length : Int) := of_decide_eq_true (by first | (with_reducible assumption) | assumption)
                                   obtain ⟨ad449, A449_0, c449_0, e449, hx449_0, hl449_0, hi449_0⟩ := at_L15 (Kd.S_reads' HO_431000.out).2.2 (rd (rd_L17 t426 x8_1) x10_3) p449 q449
                                   cases e449
                                   obtain ⟨ce449, hce449, hMe449, hcc449⟩ := Kd.S_get HO_431000.out [] (rd (rd_L17 t426 x8_1) x10_3) p449 (by first | exact q449 | exact of_decide_eq_true (by first | (with_reducible assumption) | assumption) | (have e_ := (Kd.S_reads' HO_431000.out).1; omega))
                                   obtain ⟨ve449_0, rfl, ge449_0⟩ := hMe449
                                   have hv449_0 := hcc449 0 _ rfl
                                   rw [Nat.add_zero, show ((Kd.slice 37 k37)).sz = 1 from rfl, Nat.mul_one] at hv449_0
                                   replace hv449_0 := Option.some.inj (hv449_0.symm.trans hx449_0)
                                   rw [hv449_0] at ge449_0
                                   have HL449_0 := Aside0.mk (show Kd.R k37 37 _ _ _ _ (rd_L15 t423 (rd (rd_L17 t426 x8_1) x10_3)) from ge449_0)
                                   clear hv449_0 ge449_0
                                   clear hcc449 hce449
                                   have HR449_0 := Aside0.mk hi449_0
                                   have HC449_0 := Aside0.mk hl449_0
                                   clear hi449_0 hl449_0
                                   replace p449 := eq_true p449
                                   replace q449 := eq_true q449
                                   go_wp2
                                   (try simp only [← hl7_3, ← hl7_6])
                                   go_roundg k6
                                   case measure => have := HK1.out; have := HK2.out; have := HK3.out; have := HJ46.out; have := HJ57.out; have := HK6.out; omega
                                   case rel => exact ⟨(y448), (wrap64 (x10_3 + 1)), (by first | rfl | (simp; done) | (simp [*]; done)), H', ⟨by have := HK1.out; have := HK2.out; have := HK3.out; have := HJ46.out; have := HJ57.out; have := HK6.out; omega⟩, ⟨by (try simp only [hl7_1]); (try simp only [hl7_3]); (try simp only [hl7_6]); (with_reducible repeat (first | apply Kd.R_alloc | apply Kd.R_drewN | apply Kd.R_drew)); exact HO_7.out⟩, ⟨by (try simp only [hl7_1]); (try simp only [hl7_3]); (try simp only [hl7_6]); (with_reducible repeat (first | apply Kd.S_alloc | apply Kd.S_drewN | apply Kd.S_drew)); exact HO_431000.out⟩, ⟨by (try simp only [hl7_1]); (try simp only [hl7_3]); (try simp only [hl7_6]); (with_reducible repeat (first | apply Kd.S_alloc | apply Kd.S_drewN | apply Kd.S_drew)); exact HO_431001.out⟩, ⟨by (try simp only [hl7_1]); (try simp only [hl7_3]); (try simp only [hl7_6]); (with_reducible repeat (first | refine blk_drewN ?_ _ | refine blk_drew ?_ | refine blk_alloc ?_ _)); exact BK420.out⟩, ⟨by (try simp only [hl7_1]); (try simp only [hl7_3]); (try simp only [hl7_6]); (with_reducible repeat (first | refine blk_drewN ?_ _ | refine blk_drew ?_ | refine blk_alloc ?_ _)); exact BK430.out⟩, ⟨by repeat (first | (with_reducible first | exact HB.out | apply below_alloc | apply pw_below_drewN | apply below_drew1 | refine below_set ?_ GE420.out | refine below_set ?_ GE430.out) | exact HB.out)⟩⟩
                                 ·rw [if_neg c86] at H
                                  exact absurd H (by simp)
                                ·rw [if_neg c85] at H
                                 exact absurd H (by simp)
                             ·rw [if_neg c81] at H
                              exact absurd H (by simp)
                            ·rw [if_neg c80] at H
                             exact absurd H (by simp)
                       ·rw [if_neg c57] at H
                        exact absurd H (by simp)
                      ·rw [if_neg c56] at H
                       exact absurd H (by simp)
                     ·rw [if_neg c55] at H
                      exact absurd H (by simp)
                    ·rw [if_neg c54] at H
                     exact absurd H (by simp)
                 ·rw [if_neg c46] at H
                  have c46b0 : decide (x10_3 < ((rd_L17 t426 x8_1).length : Int)) = false := decide_eq_false c46
                  clear c46
                  have H' := Aside0.mk H
                  clear H
                  have hnb102 := NB430_420.out
                  have hnc102 := NB420_430.out
                  have hcz103_0 : wr.cell? ⟨gb430, 0, none⟩ = some (.slice Ao19 t423.length co19) := (blk_cell BK430.out 0).trans rfl
                  have hcz103_1 : wr.cell? ⟨gb430, 1, none⟩ = some (.slice Ao22 t426.length co22) := (blk_cell BK430.out 1).trans rfl
                  have hfz103_0 := blk_frozen BK430.out 0
                  have hfz103_1 := blk_frozen BK430.out 1
                  have p444 : 0 ≤ (x8_1 : Int) := of_decide_eq_true (by first | (with_reducible assumption) | assumption)
                  have q444 : x8_1 < (t426.length : Int) := of_decide_eq_true (by first | (with_reducible assumption) | assumption)
                  obtain ⟨ad444, A444_0, c444_0, e444, hx444_0, hl444_0, hi444_0⟩ := at_L17 (Kd.S_reads' HO_431001.out).2.2 x8_1 p444 q444
                  cases e444
                  obtain ⟨ce444, hce444, hMe444, hcc444⟩ := Kd.S_get HO_431001.out [] x8_1 p444 (by first | exact q444 | exact of_decide_eq_true (by first | (with_reducible assumption) | assumption) | (have e_ := (Kd.S_reads' HO_431001.out).1; omega))
                  obtain ⟨ve444_0, rfl, ge444_0⟩ := hMe444
                  have hv444_0 := hcc444 0 _ rfl
                  rw [Nat.add_zero, show ((Kd.slice 3 (Kd.int .i64))).sz = 1 from rfl, Nat.mul_one] at hv444_0
                  replace hv444_0 := Option.some.inj (hv444_0.symm.trans hx444_0)
                  rw [hv444_0] at ge444_0
                  have HL444_0 := Aside0.mk (show Kd.R (Kd.int .i64) 3 _ _ _ _ (rd_L17 t426 x8_1) from ge444_0)
                  clear hv444_0 ge444_0
                  clear hcc444 hce444
                  have HR444_0 := Aside0.mk hi444_0
                  have HC444_0 := Aside0.mk hl444_0
                  clear hi444_0 hl444_0
                  replace p444 := eq_true p444
                  replace q444 := eq_true q444
                  go_wp2
                  (try simp only [← hl7_1, ← hl7_3])
                  go_roundg k3
                  case measure => have := HK1.out; have := HK2.out; have := HK3.out; omega
                  case rel => exact ⟨(x7_3), (wrap64 (x8_1 + 1)), (by first | rfl | (simp; done) | (simp [*]; done)), H', ⟨by have := HK1.out; have := HK2.out; have := HK3.out; omega⟩, ⟨by (try simp only [hl7_1]); (try simp only [hl7_3]); (with_reducible repeat (first | apply Kd.R_alloc | apply Kd.R_drewN | apply Kd.R_drew)); exact HO_7.out⟩, ⟨by (try simp only [hl7_1]); (try simp only [hl7_3]); (with_reducible repeat (first | apply Kd.S_alloc | apply Kd.S_drewN | apply Kd.S_drew)); exact HO_431000.out⟩, ⟨by (try simp only [hl7_1]); (try simp only [hl7_3]); (with_reducible repeat (first | apply Kd.S_alloc | apply Kd.S_drewN | apply Kd.S_drew)); exact HO_431001.out⟩, ⟨by (try simp only [hl7_1]); (try simp only [hl7_3]); (with_reducible repeat (first | refine blk_drewN ?_ _ | refine blk_drew ?_ | refine blk_alloc ?_ _)); exact BK420.out⟩, ⟨by (try simp only [hl7_1]); (try simp only [hl7_3]); (with_reducible repeat (first | refine blk_drewN ?_ _ | refine blk_drew ?_ | refine blk_alloc ?_ _)); exact BK430.out⟩, ⟨by repeat (first | (with_reducible first | exact HB.out | apply below_alloc | apply pw_below_drewN | apply below_drew1 | refine below_set ?_ GE420.out | refine below_set ?_ GE430.out) | exact HB.out)⟩⟩
                ·rw [if_neg c45] at H
                 exact absurd H (by simp)
               ·rw [if_neg c44] at H
                exact absurd H (by simp)
         ·rw [if_neg c27] at H
          have c27b0 : decide (x8_1 < (t423.length : Int)) = false := decide_eq_false c27
          clear c27
          have H' := Aside0.mk H
          clear H
          have hnb104 := NB430_420.out
          have hnc104 := NB420_430.out
          have hcz105_0 : wr.cell? ⟨gb430, 0, none⟩ = some (.slice Ao19 t423.length co19) := (blk_cell BK430.out 0).trans rfl
          have hcz105_1 : wr.cell? ⟨gb430, 1, none⟩ = some (.slice Ao22 t426.length co22) := (blk_cell BK430.out 1).trans rfl
          have hfz105_0 := blk_frozen BK430.out 0
          have hfz105_1 := blk_frozen BK430.out 1
          go_wp2
          go_loopg [17] k1 (fun kq v17 w' => ∃ (x17_2 : Int), v17 = .int .i64 x17_2 ∧ Aside0 (syntagmlaw14_StatesAhead.l4 kq true x7_1 x17_2 = some r) ∧ Aside0 (kq ≤ k1) ∧ Aside0 (Kd.R Kd.bool 4 w' w.heap.size (fun _ => True) (.slice (some ⟨go11, 0, none⟩) x7_1.length co11) x7_1) ∧ Aside0 (Kd.S (Kd.slice 37 k37) 28 w' w.heap.size (fun _ => True) (.slice Ao19 t423.length co19) t423) ∧ Aside0 (Kd.S (Kd.slice 3 (Kd.int .i64)) 58 w' w.heap.size (fun _ => True) (.slice Ao22 t426.length co22) t426) ∧ Aside0 (w'.heap[gb420]? = some (.cells #[(.slice A0_0 l0_0.length c0_0), (.slice A0_1 l0_1.length c0_1), (.slice A0_2 l0_2.length c0_2), (.slice A0_3 l0_3.length c0_3), .int .i64 a0_4] 27 (0, 0))) ∧ Aside0 (w'.heap[gb430]? = some (.cells #[(.slice Ao19 t423.length co19), (.slice Ao22 t426.length co22)] 49 (0, 0))) ∧ Aside0 (Below w.heap.size w w'))
          case atStart => exact ⟨(0), (by first | rfl | (simp; done) | (simp [*]; done)), H', ⟨Nat.le_refl _⟩, ⟨by (try simp only [hl7_1]); (with_reducible repeat (first | apply Kd.R_alloc | apply Kd.R_drewN | apply Kd.R_drew)); exact HO_7.out⟩, ⟨by (try simp only [hl7_1]); (with_reducible repeat (first | apply Kd.S_alloc | apply Kd.S_drewN | apply Kd.S_drew)); exact HO_431000.out⟩, ⟨by (try simp only [hl7_1]); (with_reducible repeat (first | apply Kd.S_alloc | apply Kd.S_drewN | apply Kd.S_drew)); exact HO_431001.out⟩, ⟨by (try simp only [hl7_1]); (with_reducible repeat (first | refine blk_drewN ?_ _ | refine blk_drew ?_ | refine blk_alloc ?_ _)); exact BK420.out⟩, ⟨by (try simp only [hl7_1]); (with_reducible repeat (first | refine blk_drewN ?_ _ | refine blk_drew ?_ | refine blk_alloc ?_ _)); exact BK430.out⟩, ⟨by repeat (first | (with_reducible first | exact HB.out | apply below_alloc | apply pw_below_drewN | apply below_drew1 | refine below_set ?_ GE420.out | refine below_set ?_ GE430.out) | exact HB.out)⟩⟩
          case round =>
           clear H'
           try clear c1
           try clear p1
           try clear q1
           try clear hx1
           try clear qi1
           try clear hf1
           try clear c2
           try clear p2
           try clear c3
           try clear c4
           try clear p4
           try clear q4
           try clear hx4
           try clear c5
           try clear c6
           try clear p6
           try clear c7
           try clear c7b0
           try clear c7b1
           try clear c8
           try clear c8b0
           try clear c8b1
           try clear p8
           try clear q8
           try clear hx8
           try clear hf8
           try clear c9
           try clear c9b0
           try clear c9b1
           try clear c10
           try clear c10b0
           try clear c10b1
           try clear p11
           try clear q11
           try clear hx11
           try clear qi11
           try clear hf11
           try clear c12
           try clear c14
           try clear c15
           try clear c17
           try clear c20
           try clear c22
           try clear c23
           try clear c25
           try clear c27
           try clear c27b0
           try clear c28
           try clear c30
           try clear c30b0
           try clear c31
           try clear c31b0
           try clear c32
           try clear c32b0
           try clear c34
           try clear c34b0
           try clear c35
           try clear c35b0
           try clear c38
           try clear c43
           try clear p43
           try clear q43
           try clear hx43
           try clear c44
           try clear c44b0
           try clear p44
           try clear q44
           try clear hx44
           try clear c45
           try clear c45b0
           try clear p45
           try clear q45
           try clear hx45
           try clear c46
           try clear c46b0
           try clear c48
           try clear c51
           try clear c51b0
           try clear c52
           try clear c54
           try clear c54b0
           try clear c55
           try clear c55b0
           try clear c56
           try clear c56b0
           try clear c57
           try clear c57b0
           try clear c59
           try clear c62
           try clear c62b0
           try clear c62b1
           try clear c63
           try clear c63b0
           try clear c64
           try clear p64
           try clear c69
           try clear c74
           try clear c78
           try clear c79
           try clear c79b0
           try clear c80
           try clear c80b0
           try clear c81
           try clear c81b0
           try clear p82
           try clear q82
           try clear hx82
           try clear hf82
           try clear c85
           try clear c85b0
           try clear c86
           try clear c86b0
           try clear c87
           try clear c87b0
           try clear c88
           try clear c88b0
           try clear c90
           try clear c91
           try clear c91b0
           try clear c91b1
           try clear c92
           try clear c95
           try clear c96
           try clear c100
           try clear c102
           try clear c104
           try clear hcz101_0
           try clear hcz101_1
           try clear hcz103_0
           try clear hcz103_1
           try clear hcz105_0
           try clear hcz105_1
           try clear hcz14_0
           try clear hcz14_1
           try clear hcz14_2
           try clear hcz14_3
           try clear hcz14_4
           try clear hcz16_0
           try clear hcz16_1
           try clear hcz16_2
           try clear hcz16_3
           try clear hcz16_4
           try clear hcz21_0
           try clear hcz21_1
           try clear hcz29_0
           try clear hcz29_1
           try clear hcz49_0
           try clear hcz49_1
           try clear hcz50_0
           try clear hcz50_1
           try clear hcz50_2
           try clear hcz50_3
           try clear hcz50_4
           try clear hcz53_0
           try clear hcz53_1
           try clear hcz53_2
           try clear hcz53_3
           try clear hcz53_4
           try clear hcz60_0
           try clear hcz60_1
           try clear hcz65_0
           try clear hcz65_1
           try clear hcz65_2
           try clear hcz65_3
           try clear hcz65_4
           try clear hcz66_0
           try clear hcz66_1
           try clear hcz68_0
           try clear hcz68_1
           try clear hcz70_0
           try clear hcz70_1
           try clear hcz70_2
           try clear hcz70_3
           try clear hcz70_4
           try clear hcz71_0
           try clear hcz71_1
           try clear hcz73_0
           try clear hcz73_1
           try clear hcz75_0
           try clear hcz75_1
           try clear hcz75_2
           try clear hcz75_3
           try clear hcz75_4
           try clear hcz76_0
           try clear hcz76_1
           try clear hcz93_0
           try clear hcz93_1
           try clear hcz97_0
           try clear hcz97_1
           try clear hcz98_0
           try clear hcz98_1
           try clear hcz98_2
           try clear hcz98_3
           try clear hcz98_4
           try clear hfz101_0
           try clear hfz101_1
           try clear hfz103_0
           try clear hfz103_1
           try clear hfz105_0
           try clear hfz105_1
           try clear hfz14_0
           try clear hfz14_1
           try clear hfz14_2
           try clear hfz14_3
           try clear hfz14_4
           try clear hfz16_0
           try clear hfz16_1
           try clear hfz16_2
           try clear hfz16_3
           try clear hfz16_4
           try clear hfz21_0
           try clear hfz21_1
           try clear hfz29_0
           try clear hfz29_1
           try clear hfz49_0
           try clear hfz49_1
           try clear hfz50_0
           try clear hfz50_1
           try clear hfz50_2
           try clear hfz50_3
           try clear hfz50_4
           try clear hfz53_0
           try clear hfz53_1
           try clear hfz53_2
           try clear hfz53_3
           try clear hfz53_4
           try clear hfz60_0
           try clear hfz60_1
           try clear hfz65_0
           try clear hfz65_1
           try clear hfz65_2
           try clear hfz65_3
           try clear hfz65_4
           try clear hfz66_0
           try clear hfz66_1
           try clear hfz68_0
           try clear hfz68_1
           try clear hfz70_0
           try clear hfz70_1
           try clear hfz70_2
           try clear hfz70_3
           try clear hfz70_4
           try clear hfz71_0
           try clear hfz71_1
           try clear hfz73_0
           try clear hfz73_1
           try clear hfz75_0
           try clear hfz75_1
           try clear hfz75_2
           try clear hfz75_3
           try clear hfz75_4
           try clear hfz76_0
           try clear hfz76_1
           try clear hfz93_0
           try clear hfz93_1
           try clear hfz97_0
           try clear hfz97_1
           try clear hfz98_0
           try clear hfz98_1
           try clear hfz98_2
           try clear hfz98_3
           try clear hfz98_4
           try clear hx11_0
           try clear hx435_0
           try clear hx439_0
           try clear hx444_0
           try clear hx445_0
           try clear hx446_0
           try clear hx449_0
           try clear hx450_0
           try clear hx451_0
           try clear hx451_1
           try clear hx82_0
           try clear p1
           try clear p11
           try clear p2
           try clear p4
           try clear p43
           try clear p435
           try clear p439
           try clear p44
           try clear p444
           try clear p445
           try clear p446
           try clear p449
           try clear p450
           try clear p451
           try clear p6
           try clear p64
           try clear p8
           try clear p82
           try clear q1
           try clear q11
           try clear q4
           try clear q43
           try clear q435
           try clear q439
           try clear q44
           try clear q444
           try clear q445
           try clear q446
           try clear q449
           try clear q450
           try clear q451
           try clear q8
           try clear q82
           obtain ⟨x17_2, rfl, HA, HK2, HO_7, HO_431000, HO_431001, BK420, BK430, HB⟩ := hrel
           cases gk with
           | zero => exact absurd HA.out (by simp [syntagmlaw14_StatesAhead.l4])
           | succ k2 =>
            have H := HA.out
            clear HA
            simp only [syntagmlaw14_StatesAhead.l4] at H
            by_cases c106 : x17_2 < (x7_1.length : Int)
            ·rw [if_pos c106] at H
             have c106b0 : decide (x17_2 < (x7_1.length : Int)) = true := decide_eq_true c106
             clear c106
             by_cases c107 : 0 ≤ x17_2
             ·rw [if_pos c107] at H
              have c107b0 : decide (0 ≤ x17_2) = true := decide_eq_true c107
              clear c107
              obtain ⟨bq108, hbq108⟩ : ∃ b_ : Bool, b_ = (rdOf false x7_1 x17_2) := ⟨_, rfl⟩
              replace H : (if bq108 = true then (syntagmlaw14_StatesAhead.l4 k2 true x7_1 (wrap64 (x17_2 + 1))) else (some false)) = some r := by rw [← hbq108] at H; exact H
              have Nbq108 := Aside0.mk hbq108
              clear hbq108
              by_cases c109 : bq108 = true
              ·subst c109
               have H1 : (syntagmlaw14_StatesAhead.l4 k2 true x7_1 (wrap64 (x17_2 + 1))) = some r := by rw [if_pos rfl] at H; exact H
               clear H
               have H := H1
               clear H1
               have H' := Aside0.mk H
               clear H
               have p455 : 0 ≤ (x17_2 : Int) := of_decide_eq_true (by first | (with_reducible assumption) | assumption)
               have q455 : x17_2 < (x7_1.length : Int) := of_decide_eq_true (by first | (with_reducible assumption) | assumption)
               obtain ⟨ad455, e455, hx455_0⟩ := Kd.at_bool (Kd.R_reads' HO_7.out).2.2 x17_2 p455 q455
               (try rw [← Nbq108.out] at hx455_0)
               obtain rfl : (⟨go11, 0, none⟩ : Addr) = ad455 := (by injection e455)
               (first | simp only [add_plain] at hx455_0 | simp only [add_at] at hx455_0 | simp only [Addr.add, Nat.zero_add] at hx455_0 | skip)
               replace p455 := eq_true p455
               replace q455 := eq_true q455
               go_wp2
               go_roundg k2
               case measure => have := HK1.out; have := HK2.out; omega
               case rel => exact ⟨(wrap64 (x17_2 + 1)), (by first | rfl | (simp; done) | (simp [*]; done)), H', ⟨by have := HK1.out; have := HK2.out; omega⟩, ⟨by (try simp only [hl7_1]); (with_reducible repeat (first | apply Kd.R_alloc | apply Kd.R_drewN | apply Kd.R_drew)); exact HO_7.out⟩, ⟨by (try simp only [hl7_1]); (with_reducible repeat (first | apply Kd.S_alloc | apply Kd.S_drewN | apply Kd.S_drew)); exact HO_431000.out⟩, ⟨by (try simp only [hl7_1]); (with_reducible repeat (first | apply Kd.S_alloc | apply Kd.S_drewN | apply Kd.S_drew)); exact HO_431001.out⟩, ⟨by (try simp only [hl7_1]); (with_reducible repeat (first | refine blk_drewN ?_ _ | refine blk_drew ?_ | refine blk_alloc ?_ _)); exact BK420.out⟩, ⟨by (try simp only [hl7_1]); (with_reducible repeat (first | refine blk_drewN ?_ _ | refine blk_drew ?_ | refine blk_alloc ?_ _)); exact BK430.out⟩, ⟨by repeat (first | (with_reducible first | exact HB.out | apply below_alloc | apply pw_below_drewN | apply below_drew1 | refine below_set ?_ GE420.out | refine below_set ?_ GE430.out) | exact HB.out)⟩⟩
              ·replace c109 := Bool.eq_false_iff.mpr c109
               subst c109
               have H1 : (some false) = some r := by rw [if_neg (show ¬ (false = true) by decide)] at H; exact H
               clear H
               have H := H1
               clear H1
               exact absurd ((Option.some.inj H).trans HT.out) (by decide)
             ·rw [if_neg c107] at H
              exact absurd H (by simp)
            ·rw [if_neg c106] at H
             have c106b0 : decide (x17_2 < (x7_1.length : Int)) = false := decide_eq_false c106
             clear c106
             obtain rfl := Option.some.inj H
             go_wp2
             go_ret
             exact ⟨by first | rfl | (simp [errW_none, errW_some] <;> rfl) | (simp [*, errW_none, errW_some] <;> rfl), by repeat (first | (with_reducible first | exact HB.out | apply below_alloc | apply pw_below_drewN | apply below_drew1 | refine below_set ?_ GE420.out | refine below_set ?_ GE430.out) | exact HB.out)⟩
      ·rw [if_neg c10] at H
       exact absurd H (by simp)
     ·rw [if_neg c9] at H
      exact absurd H (by simp)
    ·rw [if_neg c8] at H
     exact absurd H (by simp)
   ·rw [if_neg c7] at H
    have c7b0 : (t429 == 0) = false := beq_eq_false_iff_ne.mpr c7
    have c7b1 : (t429 != 0) = true := bne_iff_ne.mpr c7
    obtain rfl := Option.some.inj H
    go_enter Tryd.func6, Tryd.ntmps6
    go_wp2_with (first | ((with_reducible refine gate_dst (N := 1) rfl ?_); (try (refine gate_guard (by rfl) ?_; dsimp only)); refine box_event ?hg (N := 1) ?hd (cs := #[.slice A0_0 l0_0.length c0_0, .slice A0_1 l0_1.length c0_1, .slice A0_2 l0_2.length c0_2, .slice A0_3 l0_3.length c0_3, .int .i64 a0_4]) (t := 27) ?hr ?_; (case hd => rfl); (case hg => rfl); (case hr => first | (go_simp; done) | (go_simp; rfl)); intro gb420 hg w110 hbox hb; have n0_ := Aside0.mk (below_step (by repeat (first | (with_reducible first | exact HB.out | apply below_alloc | apply pw_below_drewN | apply below_drew1) | exact HB.out)) hb); have n1_ := Aside0.mk (hbox); have n2_ := Aside0.mk ((by rw [hg]; exact (below_size (by repeat (first | (with_reducible first | exact HB.out | apply below_alloc | apply pw_below_drewN | apply below_drew1) | exact HB.out))) : w.heap.size ≤ gb420)); have n3_ := Aside0.mk ((by rw [hg]; exact (below_size (by repeat (first | (with_reducible first | exact HB.out | apply below_alloc | apply pw_below_drewN | apply below_drew1) | exact HB.out))) : w.heap.size ≤ gb420)); clear HB; have HB := n0_; have BK420 := n1_; have GW420 := n2_; have GE420 := n3_; clear n0_ n1_ n2_ n3_; clear hb hbox hg) | ((with_reducible refine gate_callee (f := 12) rfl ?_); refine goesL_ (some 18) rfl rfl Tryd.func12 (by kernel_rfl) rfl #[] rfl (by (try simp only [List.map_toArray, List.map_cons, List.map_nil]); first | done | rfl | (simp only [List.length_drop, List.length_take]; rfl)) ?_; (with_reducible refine (syntagmlaw14_works.calls  true _ ?side1 ?side2 A2.out).mono ?_); (case side1 => exact GTab.below HG.out (by repeat (first | (with_reducible first | exact HB.out | apply below_alloc | apply pw_below_drewN | apply below_drew1 | refine below_set ?_ GE420.out) | exact HB.out))); (case side2 => rfl); rintro e w111 ⟨rfl, hb⟩; refine ⟨_, rfl, ?_⟩; have n0_ := Aside0.mk (blk_below (g := gb420) (o := .cells #[.slice A0_0 l0_0.length c0_0, .slice A0_1 l0_1.length c0_1, .slice A0_2 l0_2.length c0_2, .slice A0_3 l0_3.length c0_3, .int .i64 a0_4] 27 (0, 0)) (by (with_reducible repeat (first | refine blk_drewN ?_ _ | refine blk_drew ?_ | refine blk_alloc ?_ _)); exact BK420.out) hb); have n1_ := Aside0.mk (below_step (by repeat (first | (with_reducible first | exact HB.out | apply below_alloc | apply pw_below_drewN | apply below_drew1 | refine below_set ?_ GE420.out) | exact HB.out)) hb); clear BK420; clear HB; have BK420 := n0_; have HB := n1_; clear n0_ n1_; (try clear hb); (try clear hb2); (try clear hk); (try clear hi); have hcz112_0 : w111.cell? ⟨gb420, 0, none⟩ = some (.slice A0_0 l0_0.length c0_0) := (blk_cell BK420.out 0).trans rfl; have hcz112_1 : w111.cell? ⟨gb420, 1, none⟩ = some (.slice A0_1 l0_1.length c0_1) := (blk_cell BK420.out 1).trans rfl; have hcz112_2 : w111.cell? ⟨gb420, 2, none⟩ = some (.slice A0_2 l0_2.length c0_2) := (blk_cell BK420.out 2).trans rfl; have hcz112_3 : w111.cell? ⟨gb420, 3, none⟩ = some (.slice A0_3 l0_3.length c0_3) := (blk_cell BK420.out 3).trans rfl; have hcz112_4 : w111.cell? ⟨gb420, 4, none⟩ = some (.int .i64 a0_4) := (blk_cell BK420.out 4).trans rfl; have hfz112_0 := blk_frozen BK420.out 0; have hfz112_1 := blk_frozen BK420.out 1; have hfz112_2 := blk_frozen BK420.out 2; have hfz112_3 := blk_frozen BK420.out 3; have hfz112_4 := blk_frozen BK420.out 4) | ((with_reducible refine gate_callee (f := 22) rfl ?_); refine goesL_ (some 22) rfl rfl Tryd.func22 (by kernel_rfl) rfl #[.agg #[.slice A0_0 l0_0.length c0_0, .slice A0_1 l0_1.length c0_1, .slice A0_2 l0_2.length c0_2, .slice A0_3 l0_3.length c0_3, .int .i64 a0_4]] rfl (by (try simp only [List.map_toArray, List.map_cons, List.map_nil]); first | done | rfl | (simp only [List.length_drop, List.length_take]; rfl)) ?_; (with_reducible refine (syntagmlaw14_Little.calls k _ _ l0_0 _ _ l0_1 _ _ l0_2 _ _ l0_3 a0_4 true _ ?side1 ?side2 ?side3 ?side4 ?side5 ?side6 ?side7 ?side8 A4.out).mono ?_); (case side1 => repeat (first | exact (Kd.C_below HR0_0.out HB.out) | (with_reducible refine Kd.C_alloc ?_ _) | (with_reducible refine Kd.C_drewN ?_ _) | (with_reducible refine Kd.C_drew ?_))); (case side2 => exact HC0_0.out); (case side3 => repeat (first | exact (Kd.C_below HR0_1.out HB.out) | (with_reducible refine Kd.C_alloc ?_ _) | (with_reducible refine Kd.C_drewN ?_ _) | (with_reducible refine Kd.C_drew ?_))); (case side4 => exact HC0_1.out); (case side5 => repeat (first | exact (Kd.C_below HR0_2.out HB.out) | (with_reducible refine Kd.C_alloc ?_ _) | (with_reducible refine Kd.C_drewN ?_ _) | (with_reducible refine Kd.C_drew ?_))); (case side6 => exact HC0_2.out); (case side7 => repeat (first | exact (Kd.C_below HR0_3.out HB.out) | (with_reducible refine Kd.C_alloc ?_ _) | (with_reducible refine Kd.C_drewN ?_ _) | (with_reducible refine Kd.C_drew ?_))); (case side8 => exact HC0_3.out); rintro e w113 ⟨rfl, hb⟩; refine ⟨_, rfl, ?_⟩; have n0_ := Aside0.mk (blk_below (g := gb420) (o := .cells #[.slice A0_0 l0_0.length c0_0, .slice A0_1 l0_1.length c0_1, .slice A0_2 l0_2.length c0_2, .slice A0_3 l0_3.length c0_3, .int .i64 a0_4] 27 (0, 0)) (by (with_reducible repeat (first | refine blk_drewN ?_ _ | refine blk_drew ?_ | refine blk_alloc ?_ _)); exact BK420.out) hb); have n1_ := Aside0.mk (below_step (by repeat (first | (with_reducible first | exact HB.out | apply below_alloc | apply pw_below_drewN | apply below_drew1 | refine below_set ?_ GE420.out) | exact HB.out)) hb); clear BK420; clear HB; have BK420 := n0_; have HB := n1_; clear n0_ n1_; (try clear hb); (try clear hb2); (try clear hk); (try clear hi); have hcz114_0 : w113.cell? ⟨gb420, 0, none⟩ = some (.slice A0_0 l0_0.length c0_0) := (blk_cell BK420.out 0).trans rfl; have hcz114_1 : w113.cell? ⟨gb420, 1, none⟩ = some (.slice A0_1 l0_1.length c0_1) := (blk_cell BK420.out 1).trans rfl; have hcz114_2 : w113.cell? ⟨gb420, 2, none⟩ = some (.slice A0_2 l0_2.length c0_2) := (blk_cell BK420.out 2).trans rfl; have hcz114_3 : w113.cell? ⟨gb420, 3, none⟩ = some (.slice A0_3 l0_3.length c0_3) := (blk_cell BK420.out 3).trans rfl; have hcz114_4 : w113.cell? ⟨gb420, 4, none⟩ = some (.int .i64 a0_4) := (blk_cell BK420.out 4).trans rfl; have hfz114_0 := blk_frozen BK420.out 0; have hfz114_1 := blk_frozen BK420.out 1; have hfz114_2 := blk_frozen BK420.out 2; have hfz114_3 := blk_frozen BK420.out 3; have hfz114_4 := blk_frozen BK420.out 4) | ((with_reducible refine gate_callee (f := 23) rfl ?_); refine goesL_ (some 28) rfl rfl Tryd.func23 (by kernel_rfl) rfl #[.agg #[.slice A0_0 l0_0.length c0_0, .slice A0_1 l0_1.length c0_1, .slice A0_2 l0_2.length c0_2, .slice A0_3 l0_3.length c0_3, .int .i64 a0_4]] rfl (by (try simp only [List.map_toArray, List.map_cons, List.map_nil]); first | done | rfl | (simp only [List.length_drop, List.length_take]; rfl)) ?_; (with_reducible refine (states_Build.calls _ _ l0_0 _ _ l0_1 _ _ l0_2 _ _ l0_3 a0_4 t423 t426 t429 _ ?side1 ?side2 ?side3 ?side4 ?side5 ?side6 ?side7 ?side8 ?side9 A6.out).mono ?_); (case side1 => exact GTab.below HG.out (by repeat (first | (with_reducible first | exact HB.out | apply below_alloc | apply pw_below_drewN | apply below_drew1 | refine below_set ?_ GE420.out) | exact HB.out))); (case side2 => repeat (first | exact (Kd.C_below HR0_0.out HB.out) | (with_reducible refine Kd.C_alloc ?_ _) | (with_reducible refine Kd.C_drewN ?_ _) | (with_reducible refine Kd.C_drew ?_))); (case side3 => exact HC0_0.out); (case side4 => repeat (first | exact (Kd.C_below HR0_1.out HB.out) | (with_reducible refine Kd.C_alloc ?_ _) | (with_reducible refine Kd.C_drewN ?_ _) | (with_reducible refine Kd.C_drew ?_))); (case side5 => exact HC0_1.out); (case side6 => repeat (first | exact (Kd.C_below HR0_2.out HB.out) | (with_reducible refine Kd.C_alloc ?_ _) | (with_reducible refine Kd.C_drewN ?_ _) | (with_reducible refine Kd.C_drew ?_))); (case side7 => exact HC0_2.out); (case side8 => repeat (first | exact (Kd.C_below HR0_3.out HB.out) | (with_reducible refine Kd.C_alloc ?_ _) | (with_reducible refine Kd.C_drewN ?_ _) | (with_reducible refine Kd.C_drew ?_))); (case side9 => exact HC0_3.out); rintro e w115 ⟨v424, v427, rfl, ho0, ho1, hb⟩; refine ⟨_, rfl, ?_⟩; have n0_ := Aside0.mk (Kd.S_lower ho0 (below_size (by repeat (first | (with_reducible first | exact HB.out | apply below_alloc | apply pw_below_drewN | apply below_drew1 | refine below_set ?_ GE420.out) | exact HB.out)))); have n1_ := Aside0.mk (Kd.S_lower ho1 (below_size (by repeat (first | (with_reducible first | exact HB.out | apply below_alloc | apply pw_below_drewN | apply below_drew1 | refine below_set ?_ GE420.out) | exact HB.out)))); have n2_ := Aside0.mk (blk_below (g := gb420) (o := .cells #[.slice A0_0 l0_0.length c0_0, .slice A0_1 l0_1.length c0_1, .slice A0_2 l0_2.length c0_2, .slice A0_3 l0_3.length c0_3, .int .i64 a0_4] 27 (0, 0)) (by (with_reducible repeat (first | refine blk_drewN ?_ _ | refine blk_drew ?_ | refine blk_alloc ?_ _)); exact BK420.out) hb); have n3_ := Aside0.mk (below_step (by repeat (first | (with_reducible first | exact HB.out | apply below_alloc | apply pw_below_drewN | apply below_drew1 | refine below_set ?_ GE420.out) | exact HB.out)) hb); clear BK420; clear HB; have HO425 := n0_; have HO428 := n1_; have BK420 := n2_; have HB := n3_; clear n0_ n1_ n2_ n3_; (try clear hb); (try clear hb2); (try clear hk); (try clear hi); (try clear ho0); (try clear ho1)) | ((with_reducible refine gate_dst (N := 5) rfl ?_); (try (refine gate_guard (by rfl) ?_; dsimp only)); refine box_event ?hg (N := 5) ?hd (cs := #[.slice none 0 0, .slice none 0 0]) (t := 49) ?hr ?_; (case hd => rfl); (case hg => rfl); (case hr => first | (go_simp; done) | (go_simp; rfl)); intro gb430 hg w116 hbox hb; have n0_ := Aside0.mk (Kd.S_below (by (with_reducible repeat (first | apply Kd.S_alloc | apply Kd.S_drewN | apply Kd.S_drew)); exact HO425.out) hb); have n1_ := Aside0.mk (Kd.S_below (by (with_reducible repeat (first | apply Kd.S_alloc | apply Kd.S_drewN | apply Kd.S_drew)); exact HO428.out) hb); have n2_ := Aside0.mk (blk_below (g := gb420) (o := .cells #[.slice A0_0 l0_0.length c0_0, .slice A0_1 l0_1.length c0_1, .slice A0_2 l0_2.length c0_2, .slice A0_3 l0_3.length c0_3, .int .i64 a0_4] 27 (0, 0)) (by (with_reducible repeat (first | refine blk_drewN ?_ _ | refine blk_drew ?_ | refine blk_alloc ?_ _)); exact BK420.out) hb); have n3_ := Aside0.mk (below_step (by repeat (first | (with_reducible first | exact HB.out | apply below_alloc | apply pw_below_drewN | apply below_drew1 | refine below_set ?_ GE420.out) | exact HB.out)) hb); have n4_ := Aside0.mk (hbox); have n5_ := Aside0.mk ((by rw [hg]; exact (below_size (by repeat (first | (with_reducible first | exact HB.out | apply below_alloc | apply pw_below_drewN | apply below_drew1 | refine below_set ?_ GE420.out) | exact HB.out))) : w.heap.size ≤ gb430)); have n6_ := Aside0.mk ((by rw [hg]; exact (below_size (by repeat (first | (with_reducible first | exact HB.out | apply below_alloc | apply pw_below_drewN | apply below_drew1 | refine below_set ?_ GE420.out) | exact HB.out))) : w.heap.size ≤ gb430)); have n7_ := Aside0.mk ((by rw [hg]; exact Nat.ne_of_lt (blk_lt (g := gb420) (o := .cells #[.slice A0_0 l0_0.length c0_0, .slice A0_1 l0_1.length c0_1, .slice A0_2 l0_2.length c0_2, .slice A0_3 l0_3.length c0_3, .int .i64 a0_4] 27 (0, 0)) (by (with_reducible repeat (first | refine blk_drewN ?_ _ | refine blk_drew ?_ | refine blk_alloc ?_ _)); exact BK420.out)) : gb420 ≠ gb430)); have n8_ := Aside0.mk ((by rw [hg]; exact Nat.ne_of_gt (blk_lt (g := gb420) (o := .cells #[.slice A0_0 l0_0.length c0_0, .slice A0_1 l0_1.length c0_1, .slice A0_2 l0_2.length c0_2, .slice A0_3 l0_3.length c0_3, .int .i64 a0_4] 27 (0, 0)) (by (with_reducible repeat (first | refine blk_drewN ?_ _ | refine blk_drew ?_ | refine blk_alloc ?_ _)); exact BK420.out)) : gb430 ≠ gb420)); clear HO425; clear HO428; clear BK420; clear HB; have HO425 := n0_; have HO428 := n1_; have BK420 := n2_; have HB := n3_; have BK430 := n4_; have GW430 := n5_; have GE430 := n6_; have NB420_430 := n7_; have NB430_420 := n8_; clear n0_ n1_ n2_ n3_ n4_ n5_ n6_ n7_ n8_; clear hb hbox hg; obtain ⟨Ao117, co117, eo117⟩ := Kd.S_slice HO425.out; subst eo117; have hnb118 := NB430_420.out; have hnc118 := NB420_430.out; have hcz119_0 : w116.cell? ⟨gb430, 0, none⟩ = some (.slice none 0 0) := (blk_cell BK430.out 0).trans rfl; have hcz119_1 : w116.cell? ⟨gb430, 1, none⟩ = some (.slice none 0 0) := (blk_cell BK430.out 1).trans rfl; have hfz119_0 := blk_frozen BK430.out 0; have hfz119_1 := blk_frozen BK430.out 1; obtain ⟨Ao120, co120, eo120⟩ := Kd.S_slice HO428.out; subst eo120))
    go_ret
    exact ⟨by first | rfl | (simp [errW_none, errW_some] <;> rfl) | (simp [*, errW_none, errW_some] <;> rfl), by repeat (first | (with_reducible first | exact HB.out | apply below_alloc | apply pw_below_drewN | apply below_drew1 | refine below_set ?_ GE420.out | refine below_set ?_ GE430.out) | exact HB.out)⟩
  ·replace c5 := Bool.eq_false_iff.mpr c5
   subst c5
   have H1 : (some true) = some r := by rw [if_neg (show ¬ (false = true) by decide)] at H; exact H
   clear H
   have H := H1
   clear H1
   obtain rfl := Option.some.inj H
   go_enter Tryd.func6, Tryd.ntmps6
   go_wp2_with (first | ((with_reducible refine gate_dst (N := 1) rfl ?_); (try (refine gate_guard (by rfl) ?_; dsimp only)); refine box_event ?hg (N := 1) ?hd (cs := #[.slice A0_0 l0_0.length c0_0, .slice A0_1 l0_1.length c0_1, .slice A0_2 l0_2.length c0_2, .slice A0_3 l0_3.length c0_3, .int .i64 a0_4]) (t := 27) ?hr ?_; (case hd => rfl); (case hg => rfl); (case hr => first | (go_simp; done) | (go_simp; rfl)); intro gb420 hg w121 hbox hb; have n0_ := Aside0.mk (below_step (by repeat (first | (with_reducible first | exact HB.out | apply below_alloc | apply pw_below_drewN | apply below_drew1) | exact HB.out)) hb); have n1_ := Aside0.mk (hbox); have n2_ := Aside0.mk ((by rw [hg]; exact (below_size (by repeat (first | (with_reducible first | exact HB.out | apply below_alloc | apply pw_below_drewN | apply below_drew1) | exact HB.out))) : w.heap.size ≤ gb420)); have n3_ := Aside0.mk ((by rw [hg]; exact (below_size (by repeat (first | (with_reducible first | exact HB.out | apply below_alloc | apply pw_below_drewN | apply below_drew1) | exact HB.out))) : w.heap.size ≤ gb420)); clear HB; have HB := n0_; have BK420 := n1_; have GW420 := n2_; have GE420 := n3_; clear n0_ n1_ n2_ n3_; clear hb hbox hg) | ((with_reducible refine gate_callee (f := 12) rfl ?_); refine goesL_ (some 18) rfl rfl Tryd.func12 (by kernel_rfl) rfl #[] rfl (by (try simp only [List.map_toArray, List.map_cons, List.map_nil]); first | done | rfl | (simp only [List.length_drop, List.length_take]; rfl)) ?_; (with_reducible refine (syntagmlaw14_works.calls  true _ ?side1 ?side2 A2.out).mono ?_); (case side1 => exact GTab.below HG.out (by repeat (first | (with_reducible first | exact HB.out | apply below_alloc | apply pw_below_drewN | apply below_drew1 | refine below_set ?_ GE420.out) | exact HB.out))); (case side2 => rfl); rintro e w122 ⟨rfl, hb⟩; refine ⟨_, rfl, ?_⟩; have n0_ := Aside0.mk (blk_below (g := gb420) (o := .cells #[.slice A0_0 l0_0.length c0_0, .slice A0_1 l0_1.length c0_1, .slice A0_2 l0_2.length c0_2, .slice A0_3 l0_3.length c0_3, .int .i64 a0_4] 27 (0, 0)) (by (with_reducible repeat (first | refine blk_drewN ?_ _ | refine blk_drew ?_ | refine blk_alloc ?_ _)); exact BK420.out) hb); have n1_ := Aside0.mk (below_step (by repeat (first | (with_reducible first | exact HB.out | apply below_alloc | apply pw_below_drewN | apply below_drew1 | refine below_set ?_ GE420.out) | exact HB.out)) hb); clear BK420; clear HB; have BK420 := n0_; have HB := n1_; clear n0_ n1_; (try clear hb); (try clear hb2); (try clear hk); (try clear hi); have hcz123_0 : w122.cell? ⟨gb420, 0, none⟩ = some (.slice A0_0 l0_0.length c0_0) := (blk_cell BK420.out 0).trans rfl; have hcz123_1 : w122.cell? ⟨gb420, 1, none⟩ = some (.slice A0_1 l0_1.length c0_1) := (blk_cell BK420.out 1).trans rfl; have hcz123_2 : w122.cell? ⟨gb420, 2, none⟩ = some (.slice A0_2 l0_2.length c0_2) := (blk_cell BK420.out 2).trans rfl; have hcz123_3 : w122.cell? ⟨gb420, 3, none⟩ = some (.slice A0_3 l0_3.length c0_3) := (blk_cell BK420.out 3).trans rfl; have hcz123_4 : w122.cell? ⟨gb420, 4, none⟩ = some (.int .i64 a0_4) := (blk_cell BK420.out 4).trans rfl; have hfz123_0 := blk_frozen BK420.out 0; have hfz123_1 := blk_frozen BK420.out 1; have hfz123_2 := blk_frozen BK420.out 2; have hfz123_3 := blk_frozen BK420.out 3; have hfz123_4 := blk_frozen BK420.out 4) | ((with_reducible refine gate_callee (f := 22) rfl ?_); refine goesL_ (some 22) rfl rfl Tryd.func22 (by kernel_rfl) rfl #[.agg #[.slice A0_0 l0_0.length c0_0, .slice A0_1 l0_1.length c0_1, .slice A0_2 l0_2.length c0_2, .slice A0_3 l0_3.length c0_3, .int .i64 a0_4]] rfl (by (try simp only [List.map_toArray, List.map_cons, List.map_nil]); first | done | rfl | (simp only [List.length_drop, List.length_take]; rfl)) ?_; (with_reducible refine (syntagmlaw14_Little.calls k _ _ l0_0 _ _ l0_1 _ _ l0_2 _ _ l0_3 a0_4 false _ ?side1 ?side2 ?side3 ?side4 ?side5 ?side6 ?side7 ?side8 A4.out).mono ?_); (case side1 => repeat (first | exact (Kd.C_below HR0_0.out HB.out) | (with_reducible refine Kd.C_alloc ?_ _) | (with_reducible refine Kd.C_drewN ?_ _) | (with_reducible refine Kd.C_drew ?_))); (case side2 => exact HC0_0.out); (case side3 => repeat (first | exact (Kd.C_below HR0_1.out HB.out) | (with_reducible refine Kd.C_alloc ?_ _) | (with_reducible refine Kd.C_drewN ?_ _) | (with_reducible refine Kd.C_drew ?_))); (case side4 => exact HC0_1.out); (case side5 => repeat (first | exact (Kd.C_below HR0_2.out HB.out) | (with_reducible refine Kd.C_alloc ?_ _) | (with_reducible refine Kd.C_drewN ?_ _) | (with_reducible refine Kd.C_drew ?_))); (case side6 => exact HC0_2.out); (case side7 => repeat (first | exact (Kd.C_below HR0_3.out HB.out) | (with_reducible refine Kd.C_alloc ?_ _) | (with_reducible refine Kd.C_drewN ?_ _) | (with_reducible refine Kd.C_drew ?_))); (case side8 => exact HC0_3.out); rintro e w124 ⟨rfl, hb⟩; refine ⟨_, rfl, ?_⟩; have n0_ := Aside0.mk (blk_below (g := gb420) (o := .cells #[.slice A0_0 l0_0.length c0_0, .slice A0_1 l0_1.length c0_1, .slice A0_2 l0_2.length c0_2, .slice A0_3 l0_3.length c0_3, .int .i64 a0_4] 27 (0, 0)) (by (with_reducible repeat (first | refine blk_drewN ?_ _ | refine blk_drew ?_ | refine blk_alloc ?_ _)); exact BK420.out) hb); have n1_ := Aside0.mk (below_step (by repeat (first | (with_reducible first | exact HB.out | apply below_alloc | apply pw_below_drewN | apply below_drew1 | refine below_set ?_ GE420.out) | exact HB.out)) hb); clear BK420; clear HB; have BK420 := n0_; have HB := n1_; clear n0_ n1_; (try clear hb); (try clear hb2); (try clear hk); (try clear hi)))
   go_ret
   exact ⟨by first | rfl | (simp [errW_none, errW_some] <;> rfl) | (simp [*, errW_none, errW_some] <;> rfl), by repeat (first | (with_reducible first | exact HB.out | apply below_alloc | apply pw_below_drewN | apply below_drew1 | refine below_set ?_ GE420.out) | exact HB.out)⟩
 ·replace c3 := Bool.eq_false_iff.mpr c3
  subst c3
  have H1 : (some false) = some r := by rw [if_neg (show ¬ (false = true) by decide)] at H; exact H
  clear H
  have H := H1
  clear H1
  exact absurd ((Option.some.inj H).trans HT.out) (by decide)

end Go.Proofs.YtclollnicbcooaaDoor.P
end

section
set_option linter.unusedVariables false
set_option linter.unusedSimpArgs false
namespace Go.Proofs.YtclollnicbcooaaDoor.Open
open Go Go.RowKit Go.ChangeShapes Go.WideShapes Go.Deep Go.Proofs.YtclollnicbcooaaDoorW.PrintWords

/-- What reads as data of type t is told by the kind d; 'wf': what is known of its numbers and texts. -/
structure Opens (P : Program) (t : TypeId) {α : Type} (d : Kd α) (wf : α → Prop) : Prop where
 sz : P.cellsOf t = d.sz
 down : ∀ {H : Type} {enc : TypeId × Value → H} {w : World} {base : Nat} {spare : Nat → Bool} {held : Bool} {fuel : Nat} {cs : List Value} {x : DataW H × List MemPlace},
  DataW.trod enc P w base spare held fuel t cs = some x → ∃ a : α, d.K w a cs ∧ wf a

variable {P : Program} {t e : TypeId} {α β : Type}

theorem opens_int {k : IntKind} (hc : P.cellsOf t = 1) (ht : P.underlying t = some (.int k)) : Opens P t (Kd.int k) (fun n => (Lit.int k n).wf = true) :=
 ⟨hc, fun h => by
  obtain ⟨n, rfl, _, hw⟩ := DataW.trod_int ht h
  exact ⟨n, rfl, hw⟩⟩
theorem opens_bool (hc : P.cellsOf t = 1) (ht : P.underlying t = some .bool) : Opens P t Kd.bool (fun _ => True) :=
 ⟨hc, fun h => by
  obtain ⟨b, rfl, _⟩ := DataW.trod_bool ht h
  exact ⟨b, rfl, trivial⟩⟩
theorem opens_string (hc : P.cellsOf t = 1) (ht : P.underlying t = some .string) : Opens P t Kd.string (fun s => s.size ≤ maxLen) :=
 ⟨hc, fun h => by
  obtain ⟨s, rfl, _, hs⟩ := DataW.trod_string ht h
  exact ⟨s, rfl, hs⟩⟩

theorem cells_at {w : World} {base n : Nat} {a : Addr} {cs : List Value} (h : w.cells? base a n = some cs) : cs.length = n ∧ ∀ i u, cs[i]? = some u → w.cell? (a.add i) = some u := by
 unfold World.cells? at h
 split at h
 ·have hl := mapM_some_length h
  rw [List.length_range] at hl
  refine ⟨hl, fun i u hu => ?_⟩
  have hi : i < n := by rw [← hl]; exact (List.getElem?_eq_some_iff.1 hu).1
  have := mapM_some_get h i i (by simp [hi])
  rw [this, hu]
 ·cases h

/-- A slice's elements, by the element's law. -/
theorem opens_slice {d : Kd α} {wf : α → Prop} (hc : P.cellsOf t = 1) (ht : P.underlying t = some (.slice e)) (he : Opens P e d wf) : Opens P t (Kd.slice e d) (fun xs => xs.length ≤ 9223372036854775807 ∧ ∀ x ∈ xs, wf x) :=
 ⟨hc, fun {H enc w base spare held fuel cs x} h => by
  rcases open_slice ht h with ⟨rfl, _⟩ | ⟨a, len, cap, m, n, D, Pl, rfl, hb, hl, hm, hmd, _, hel⟩
  ·exact ⟨[], ⟨none, 0, rfl, Nat.le_refl _, rfl, Nat.zero_le _, fun h => absurd h (Nat.lt_irrefl 0)⟩, Nat.zero_le _, fun x hx => by cases hx⟩
  ·have hlm : len ≤ m := by rw [hmd]; split <;> omega
   have hex : ∀ i, i < len → ∃ y : α, ∃ cs', w.cells? base (a.add (i * P.cellsOf e)) (P.cellsOf e) = some cs' ∧ d.K w y cs' ∧ wf y := fun i hi => by
    obtain ⟨cs', h1, h2⟩ := hel i (by omega)
    obtain ⟨y, hk, hw⟩ := he.down h2
    exact ⟨y, cs', h1, hk, hw⟩
   obtain ⟨f, hf⟩ : ∃ f : (i : Nat) → i < len → α, ∀ i hi, ∃ cs', w.cells? base (a.add (i * P.cellsOf e)) (P.cellsOf e) = some cs' ∧ d.K w (f i hi) cs' ∧ wf (f i hi) :=
    ⟨fun i hi => Classical.choose (hex i hi), fun i hi => Classical.choose_spec (hex i hi)⟩
   let xs : List α := List.ofFn (fun i : Fin len => f i.1 i.2)
   have hxl : xs.length = len := by simp [xs]
   refine ⟨xs, ⟨some a, cap, by rw [hxl], by rw [hxl]; exact hl, rfl, by rw [hxl]; unfold maxLen at hm; omega, fun _ => ⟨a, rfl, fun j p hj => ?_⟩⟩, by rw [hxl]; unfold maxLen at hm; omega, fun x hx => ?_⟩
   ·have hjl : j < len := by rw [← hxl]; exact (List.getElem?_eq_some_iff.1 hj).1
    obtain ⟨cs', h1, h2, _⟩ := hf j hjl
    have hp : p = f j hjl := by
     have := (List.getElem?_eq_some_iff.1 hj).2
     rw [← this]
     simp [xs]
    subst hp
    refine ⟨cs', d.K_len h2, h2, fun i u hu => ?_⟩
    have h3 := (cells_at h1).2 i u hu
    rw [Deep.add_add, he.sz] at h3
    exact h3
   ·obtain ⟨i, rfl⟩ := (List.mem_ofFn).1 hx
    exact (hf i.1 i.2).elim fun _ h => h.2.2⟩

/-- A struct's fields from one on. -/
structure OpensFs (P : Program) (fs : List Field) (off : Nat) {α : Type} (d : Kd α) (wf : α → Prop) : Prop where
 down : ∀ {H : Type} {enc : TypeId × Value → H} {w : World} {base : Nat} {spare : Nat → Bool} {held : Bool} {n : Nat} {cs : List Value}, cs.length = off + d.sz →
  (∀ f ∈ fs, ∃ y : DataW H × List MemPlace, DataW.trod enc P w base spare held n f.type ((cs.drop f.offset).take (P.cellsOf f.type)) = some y) → ∃ a : α, d.K w a (cs.drop off) ∧ wf a

theorem fields_one {f : Field} {off : Nat} {d : Kd α} {wf : α → Prop} (ho : f.offset = off) (hf : Opens P f.type d wf) : OpensFs P [f] off d wf :=
 ⟨fun {H enc w base spare held n cs} hl h => by
  obtain ⟨y, hy⟩ := h f (List.mem_singleton.2 rfl)
  rw [ho, hf.sz, List.take_of_length_le (by rw [List.length_drop]; omega)] at hy
  exact hf.down hy⟩
theorem fields_cons {f : Field} {fs : List Field} {off : Nat} {d : Kd α} {d' : Kd β} {wf : α → Prop} {wf' : β → Prop} (ho : f.offset = off) (hf : Opens P f.type d wf) (hr : OpensFs P fs (off + d.sz) d' wf') :
  OpensFs P (f :: fs) off (Kd.pair d d') (fun x => wf x.1 ∧ wf' x.2) :=
 ⟨fun {H enc w base spare held n cs} hl h => by
  have hl' : cs.length = off + (d.sz + d'.sz) := hl
  obtain ⟨y, hy⟩ := h f List.mem_cons_self
  rw [ho, hf.sz] at hy
  obtain ⟨a, ka, wa⟩ := hf.down hy
  obtain ⟨b, kb, wb⟩ := hr.down (by omega) (fun g hg => h g (List.mem_cons_of_mem _ hg))
  refine ⟨(a, b), ⟨_, _, ?_, ka, kb⟩, wa, wb⟩
  rw [← List.drop_drop, List.take_append_drop]⟩

theorem opens_struct {fs : Array Field} {d : Kd α} {wf : α → Prop} {f : β → α} (g : α → β) (hfg : ∀ a, f (g a) = a) (hc : P.cellsOf t = d.sz) (ht : P.underlying t = some (.struct fs)) (hf : OpensFs P fs.toList 0 d wf) :
  Opens P t (Kd.iso d f) (fun b => wf (f b)) :=
 ⟨hc, fun h => by
  obtain ⟨xs, n, rfl, _, hl, hx, hel⟩ := DataW.trod_struct ht h
  obtain ⟨a, ka, wa⟩ := hf.down (by rw [hl, hc]; simp) (fun q hq => by
   obtain ⟨i, hi, rfl⟩ := List.getElem_of_mem hq
   have h1 := hel i (fs.toList[i]) (by simp)
   have hi2 : i < xs.length := by rw [hx]; simpa using hi
   exact ⟨xs[i], by rw [h1]; exact List.getElem?_eq_getElem hi2⟩)
  exact ⟨g a, by show d.K _ (f (g a)) _; rw [hfg]; simpa using ka, by rw [hfg]; exact wa⟩⟩

/-- An array of two. -/
theorem opens_two {d : Kd α} {wf : α → Prop} {f : β → α × α} (g : α × α → β) (hfg : ∀ a, f (g a) = a) (hc : P.cellsOf t = d.sz + d.sz) (ht : P.underlying t = some (.array 2 e)) (he : Opens P e d wf) :
  Opens P t (Kd.iso (Kd.pair d d) f) (fun b => wf (f b).1 ∧ wf (f b).2) :=
 ⟨hc, fun {H enc w base spare held fuel cs x} h => by
  obtain ⟨xs, n, rfl, _, hl, hx, hel⟩ := DataW.trod_array ht h
  have h0 := hel 0 (by omega)
  have h1 := hel 1 (by omega)
  rw [List.getElem?_eq_getElem (by omega)] at h0 h1
  rw [he.sz] at h0 h1
  rw [Nat.zero_mul, List.drop_zero] at h0
  rw [Nat.one_mul, List.take_of_length_le (by rw [List.length_drop]; omega)] at h1
  obtain ⟨a, ka, wa⟩ := he.down h0
  obtain ⟨b, kb, wb⟩ := he.down h1
  refine ⟨g (a, b), ?_, by rw [hfg]; exact ⟨wa, wb⟩⟩
  show (Kd.pair d d).K w (f (g (a, b))) cs
  rw [hfg]
  exact ⟨_, _, (List.take_append_drop _ _).symm, ka, kb⟩⟩

/-- A value of more cells than one is written out. -/
theorem agg_of {v : Value} {cs : List Value} (h : v.cells.toList = cs) (hl : cs.length ≠ 1) : v = .agg cs.toArray := by
 subst h
 cases v <;> first | rfl | exact absurd rfl hl

end Go.Proofs.YtclollnicbcooaaDoor.Open
end

section
set_option linter.unusedVariables false
namespace Go.Proofs.YtclollnicbcooaaDoor.P
open Go.RowKit Go.Proofs.YtclollnicbcooaaDoor.Open Go.Proofs.YtclollnicbcooaaDoorW.PrintWords
def wf82 (x : S82) : Prop := (x.f0.size ≤ maxLen) ∧ ((x.f1.size ≤ maxLen) ∧ ((True) ∧ (((Lit.int .i64 x.f3).wf = true))))
theorem opens82 : Opens Tryd.prog 82 k82 wf82 := opens_struct (fun a => ⟨a.1, a.2.1, a.2.2.1, a.2.2.2⟩) (fun _ => rfl) (by kernel_rfl) Tryd.underlying82 (fields_cons rfl (opens_string (by kernel_rfl) Tryd.underlying9) (fields_cons rfl (opens_string (by kernel_rfl) Tryd.underlying9) (fields_cons rfl (opens_bool (by kernel_rfl) Tryd.underlying4) (fields_one rfl (opens_int (by kernel_rfl) Tryd.underlying3)))))
def wf101 (x : S101) : Prop := ((Lit.int .i64 x.f0).wf = true) ∧ (((Lit.int .i64 x.f1).wf = true))
theorem opens101 : Opens Tryd.prog 101 k101 wf101 := opens_two (fun a => ⟨a.1, a.2⟩) (fun _ => rfl) (by kernel_rfl) Tryd.underlying101 (opens_int (by kernel_rfl) Tryd.underlying3)
def wf64 (x : S64) : Prop := (x.f0.size ≤ maxLen) ∧ (((Lit.int .i64 x.f1).wf = true) ∧ ((x.f2.length ≤ 9223372036854775807 ∧ ∀ y ∈ x.f2, (Lit.int .i64 y).wf = true) ∧ (((Lit.int .i64 x.f3).wf = true))))
theorem opens64 : Opens Tryd.prog 64 k64 wf64 := opens_struct (fun a => ⟨a.1, a.2.1, a.2.2.1, a.2.2.2⟩) (fun _ => rfl) (by kernel_rfl) Tryd.underlying64 (fields_cons rfl (opens_string (by kernel_rfl) Tryd.underlying9) (fields_cons rfl (opens_int (by kernel_rfl) Tryd.underlying3) (fields_cons rfl (opens_slice (by kernel_rfl) Tryd.underlying62 (opens_int (by kernel_rfl) Tryd.underlying29)) (fields_one rfl (opens_int (by kernel_rfl) Tryd.underlying3)))))
def wf27 (x : S27) : Prop := (x.f0.length ≤ 9223372036854775807 ∧ ∀ y ∈ x.f0, wf82 y) ∧ ((x.f1.length ≤ 9223372036854775807 ∧ ∀ y ∈ x.f1, wf101 y) ∧ ((x.f2.length ≤ 9223372036854775807 ∧ ∀ y ∈ x.f2, y.size ≤ maxLen) ∧ ((x.f3.length ≤ 9223372036854775807 ∧ ∀ y ∈ x.f3, wf64 y) ∧ (((Lit.int .i64 x.f4).wf = true)))))
theorem opens27 : Opens Tryd.prog 27 k27 wf27 := opens_struct (fun a => ⟨a.1, a.2.1, a.2.2.1, a.2.2.2.1, a.2.2.2.2⟩) (fun _ => rfl) (by kernel_rfl) Tryd.underlying27 (fields_cons rfl (opens_slice (by kernel_rfl) Tryd.underlying22 opens82) (fields_cons rfl (opens_slice (by kernel_rfl) Tryd.underlying23 opens101) (fields_cons rfl (opens_slice (by kernel_rfl) Tryd.underlying24 (opens_string (by kernel_rfl) Tryd.underlying9)) (fields_cons rfl (opens_slice (by kernel_rfl) Tryd.underlying25 opens64) (fields_one rfl (opens_int (by kernel_rfl) Tryd.underlying3))))))
def wf37 (x : S37) : Prop := ((Lit.int .i64 x.f0).wf = true) ∧ (((Lit.int .i64 x.f1).wf = true))
end Go.Proofs.YtclollnicbcooaaDoor.P
end

section
set_option linter.unusedVariables false
set_option linter.unusedSimpArgs false
namespace Go.Proofs.YtclollnicbcooaaDoor.P
open Go.Proofs.YtclollnicbcooaaDoor.Base Go.RowKit Go.Proofs.YtclollnicbcooaaDoorW.PrintWords Go.Proofs.YtclollnicbcooaaDoorW.PrintLast Go.Proofs.YtclollnicbcooaaDoorW.PrintMore

def bad5 (l0 : List S82) (l2 : List ByteArray) (l3 : List S64) (st : Int) : Bool := decide (60 < l0.length) || decide (60 < l2.length) || decide (120 < l3.length) || decide (st < 0) || decide ((l2.length : Int) ≤ st)
section
variable {l0 : List S82} {l1 : List S101} {l2 : List ByteArray} {l3 : List S64} {st : Int}
theorem RisesTo.down {f : Int → ByteArray} {k n : Nat} (h : RisesTo f k) (hn : n ≤ k) : RisesTo f n := fun i h0 hi => h i h0 (by omega)
end
/-- As a printed function: the answer of symbols within what numbers there are. -/
def syntagmref12_Valid.f (l0 : List S82) (l1 : List S101) (l2 : List ByteArray) (l3 : List S64) (st : Int) : Option Bool :=
 if ∀ p ∈ l3, ∀ s ∈ p.f2, -9223372036854775808 ≤ s ∧ s ≤ 9223372036854775807 then some (validB l0 l1 l2 l3 st) else none
end Go.Proofs.YtclollnicbcooaaDoor.P
end

section
namespace Go.Proofs.YtclollnicbcooaaDoor.P
open Go.RowKit Go.Proofs.YtclollnicbcooaaDoorW.PrintWords Go.Proofs.YtclollnicbcooaaDoorW.PrintLast Go.Proofs.YtclollnicbcooaaDoorW.PrintMore
attribute [local go_sem] max2_int min2_int max_two min_two max_three min_three max_four min_four   -- for this text's walks alone
set_option linter.unusedVariables false
set_option linter.unusedSimpArgs false

/-! ### syntagmref14_Is: function 36 -/
def syntagmref14_Is.f (l0_0 : List (S82)) (l0_1 : List (S101)) (l0_2 : List ByteArray) (l0_3 : List (S64)) (a0_4 : Int) (a1_0 : Int) (a1_1 : Int) : Option (Bool) := (syntagmref12_Valid.f l0_0 l0_1 l0_2 l0_3 a0_4).bind fun t220 => (if t220 = true then (if a1_0 ≥ (-1) then (if a1_0 < (l0_3.length : Int) then (if a1_1 ≥ 0 then ((syntagmref14_Right.f l0_0 l0_1 l0_2 l0_3 a0_4 a1_0).bind fun t221 => (some (decide (a1_1 ≤ (t221.length : Int))))) else (some false)) else (some false)) else (some false)) else (some false))
def syntagmref14_Is.T2 : Bool × List (List Nat × List Nat) := (true, [([], []), ([0], [0]), ([1], [1]), ([2, 1], [1, 2]), ([3, 1], [1, 3]), ([1, 4], [1, 4]), ([5, 1], [5]), ([6], [6]), ([7, 6], [6, 7]), ([6], [6]), ([9, 6], [6, 9]), ([10, 6], [6, 10]), ([8, 11, 6], [6, 8, 11]), ([6, 12], [6, 12]), ([13, 6], [13]), ([14], [14]), ([15, 14], [14, 15]), ([16, 14], [14, 16]), ([14, 17], [14, 17]), ([18, 14], [18]), ([19], [19]), ([20, 19], [19, 20]), ([19], [19]), ([19], [19]), ([23, 19], [19, 23]), ([22, 24, 19, 19], [19, 22, 24]), ([25, 19], [19, 25]), ([21, 26, 19], [19, 21, 26]), ([19, 27], [19, 27]), ([28, 25, 0, 1, 2, 3, 4, 5, 6, 7, 8, 9, 10, 11, 12, 13, 14, 15, 16, 17, 18, 19, 20, 21, 22, 23, 24, 25, 26, 27, 28], [28])])
def syntagmref14_Is.B2 : List Nat := [0, 1, 3, 7, 15, 31, 63, 127, 255, 127, 639, 1663, 4095, 8191, 16383, 32767, 65535, 131071, 262143, 524287, 1048575, 2097151, 1048575, 1048575, 9437183, 30408703, 63963135, 134217727, 268435455, 536870911]
end Go.Proofs.YtclollnicbcooaaDoor.P
end

section
namespace Go.Proofs.YtclollnicbcooaaDoor.P
open Go.RowKit Go.Proofs.YtclollnicbcooaaDoorW.PrintWords Go.Proofs.YtclollnicbcooaaDoorW.PrintLast Go.Proofs.YtclollnicbcooaaDoorW.PrintMore
attribute [local go_sem] max2_int min2_int max_two min_two max_three min_three max_four min_four   -- for this text's walks alone
set_option linter.unusedVariables false
set_option linter.unusedSimpArgs false

/-! ### syntagmref14_Behind: function 16 -/
def syntagmref14_Behind.f (l0_0 : List (S82)) (l0_1 : List (S101)) (l0_2 : List ByteArray) (l0_3 : List (S64)) (a0_4 : Int) (a1_0 : Int) (a1_1 : Int) : Option (Int × Bool) := (syntagmref14_Is.f l0_0 l0_1 l0_2 l0_3 a0_4 a1_0 a1_1).bind fun t226 => (if t226 = true then ((syntagmref14_Right.f l0_0 l0_1 l0_2 l0_3 a0_4 a1_0).bind fun t227 => (if a1_1 ≥ (t227.length : Int) then (some (0, false)) else ((syntagmref14_Right.f l0_0 l0_1 l0_2 l0_3 a0_4 a1_0).bind fun t230 => (if 0 ≤ a1_1 then (if a1_1 < (t230.length : Int) then (some (rd t230 a1_1, true)) else (none)) else (none))))) else (some (0, false)))
def syntagmref14_Behind.T1 : Bool × List (List Nat × List Nat) := (true, [([], []), ([], []), ([0, 1], [0, 1]), ([2], [2]), ([3, 2], [3]), ([4], [4]), ([5, 4], [4, 5]), ([4], [4]), ([4], [4]), ([8, 4], [4, 8]), ([7, 9, 4, 4], [4, 7, 9]), ([10, 4], [4, 10]), ([6, 11, 4], [4, 6, 11]), ([4, 12], [4, 12])])
def syntagmref14_Behind.B1 : List Nat := [0, 0, 3, 7, 15, 31, 63, 31, 31, 287, 927, 1951, 4095, 8191]
def syntagmref14_Behind.T3 : Bool × List (List Nat × List Nat) := (true, [([], []), ([], []), ([1], [1]), ([0, 2], [0, 2]), ([], []), ([4], [4]), ([3, 5], [3, 5]), ([6], [6]), ([7, 3, 0, 1, 2, 3, 4, 5, 6, 7], [7]), ([8, 0, 1, 2, 3, 4, 5, 6, 7, 8], [])])
def syntagmref14_Behind.B3 : List Nat := [0, 0, 2, 7, 0, 16, 63, 127, 255, 511]
end Go.Proofs.YtclollnicbcooaaDoor.P
end

section
namespace Go.Proofs.YtclollnicbcooaaDoor.P
open Go.RowKit Go.Proofs.YtclollnicbcooaaDoorW.PrintWords Go.Proofs.YtclollnicbcooaaDoorW.PrintLast Go.Proofs.YtclollnicbcooaaDoorW.PrintMore
attribute [local go_sem] max2_int min2_int max_two min_two max_three min_three max_four min_four   -- for this text's walks alone
set_option linter.unusedVariables false
set_option linter.unusedSimpArgs false

/-! ### syntagmref14_rising: function 40 -/
mutual
def syntagmref14_rising.l0 : Nat → List (S39) → List (S39) → Int → Option ((List (S39)))
 | 0, _, _, _ => none
 | k + 1, x0, x3, x4 => if x4 < (x0.length : Int) then (syntagmref14_rising.l1 k x0 x3 x4 (-1) 0) else (some x3)
def syntagmref14_rising.l1 : Nat → List (S39) → List (S39) → Int → Int → Int → Option ((List (S39)))
 | 0, _, _, _, _, _ => none
 | k + 1, x0, x3, x4, x5, x6 => if x6 < (x0.length : Int) then (if 0 ≤ x6 then ((syntagmref14_has.f k x3 ((rd_T39 x0 x6).f0) ((rd_T39 x0 x6).f1)).bind fun t245 => (if t245 = true then (syntagmref14_rising.l1 k x0 x3 x4 x5 (wrap64 (x6 + 1))) else (if x5 < 0 then (syntagmref14_rising.l1 k x0 x3 x4 x6 (wrap64 (x6 + 1))) else (if 0 ≤ x5 then (if x5 < (x0.length : Int) then ((syntagmref14_less.f ((rd_T39 x0 x6).f0) ((rd_T39 x0 x6).f1) ((rd_T39 x0 x5).f0) ((rd_T39 x0 x5).f1)).bind fun t248 => (if t248 = true then (syntagmref14_rising.l1 k x0 x3 x4 x6 (wrap64 (x6 + 1))) else (syntagmref14_rising.l1 k x0 x3 x4 x5 (wrap64 (x6 + 1))))) else (none)) else (none))))) else (none)) else (if x5 ≥ 0 then (if 0 ≤ x5 then (if x5 < (x0.length : Int) then (if x3.length < 8796093022208 then (syntagmref14_rising.l0 k x0 (x3 ++ [(⟨(rd_T39 x0 x5).f0, (rd_T39 x0 x5).f1⟩ : S39)]) (wrap64 (x4 + 1))) else (none)) else (none)) else (none)) else (syntagmref14_rising.l0 k x0 x3 (wrap64 (x4 + 1))))
end
def syntagmref14_rising.f (k : Nat) (l0 : List (S39)) : Option ((List (S39))) := syntagmref14_rising.l0 k l0 ([] : List (S39)) 0
def syntagmref14_rising.T9 : Bool × List (List Nat × List Nat) := (true, [([], []), ([], []), ([], []), ([1, 2], [1, 2]), ([3], [3]), ([0, 4], [0, 4]), ([5], [5]), ([6, 5], [6]), ([7], [7]), ([8, 7], [7, 8]), ([9, 7, 7], [7, 9]), ([10], [10]), ([10], [10]), ([11, 12, 10], [10, 11, 12]), ([13, 10], [10, 13]), ([10], [10]), ([10], [10]), ([15, 16, 10], [10, 15, 16]), ([17, 10], [10, 17]), ([14, 18, 10, 10], [10, 14, 18]), ([10, 19, 7], [7, 10, 19]), ([7, 20], [7, 20])])
def syntagmref14_rising.B9 : List Nat := [0, 0, 0, 6, 14, 31, 63, 127, 255, 511, 1023, 2047, 2047, 8191, 16383, 2047, 2047, 100351, 231423, 524287, 1048575, 2097151]
end Go.Proofs.YtclollnicbcooaaDoor.P
end

section
namespace Go.Proofs.YtclollnicbcooaaDoor.P
open Go.RowKit Go.Proofs.YtclollnicbcooaaDoorW.PrintWords Go.Proofs.YtclollnicbcooaaDoorW.PrintLast Go.Proofs.YtclollnicbcooaaDoorW.PrintMore
attribute [local go_sem] max2_int min2_int max_two min_two max_three min_three max_four min_four   -- for this text's walks alone
set_option linter.unusedVariables false
set_option linter.unusedSimpArgs false

/-! ### syntagmref14_Close: function 19 -/
mutual
def syntagmref14_Close.l0 : Nat → List (S39) → List (S39) → Int → List (S82) → List (S101) → List ByteArray → List (S64) → Int → Option ((List (S39)))
 | 0, _, _, _, _, _, _, _, _ => none
 | k + 1, x1, x5, x6, x250000, x250001, x250002, x250003, x250004 => if x6 < (x1.length : Int) then (if 0 ≤ x6 then ((syntagmref14_Is.f x250000 x250001 x250002 x250003 x250004 ((rd_T39 x1 x6).f0) ((rd_T39 x1 x6).f1)).bind fun t251 => (if t251 = true then ((syntagmref14_has.f k x5 ((rd_T39 x1 x6).f0) ((rd_T39 x1 x6).f1)).bind fun t253 => (if t253 = true then (syntagmref14_Close.l0 k x1 x5 (wrap64 (x6 + 1)) x250000 x250001 x250002 x250003 x250004) else (if x5.length < 8796093022208 then (syntagmref14_Close.l0 k x1 (x5 ++ [(⟨(rd_T39 x1 x6).f0, (rd_T39 x1 x6).f1⟩ : S39)]) (wrap64 (x6 + 1)) x250000 x250001 x250002 x250003 x250004) else (none)))) else (syntagmref14_Close.l0 k x1 x5 (wrap64 (x6 + 1)) x250000 x250001 x250002 x250003 x250004))) else (none)) else (syntagmref14_Close.l1 k x5 0 x250000 x250001 x250002 x250003 x250004)
def syntagmref14_Close.l1 : Nat → List (S39) → Int → List (S82) → List (S101) → List ByteArray → List (S64) → Int → Option ((List (S39)))
 | 0, _, _, _, _, _, _, _ => none
 | k + 1, x5, x7, x250000, x250001, x250002, x250003, x250004 => if x7 < (x5.length : Int) then (if 0 ≤ x7 then ((syntagmref14_Behind.f x250000 x250001 x250002 x250003 x250004 ((rd_T39 x5 x7).f0) ((rd_T39 x5 x7).f1)).bind fun bt262 => (syntagmref14_Close.l2 k x5 x7 bt262.1 bt262.2 0 x250000 x250001 x250002 x250003 x250004)) else (none)) else ((syntagmref14_rising.f k x5).bind fun t258 => (some t258))
def syntagmref14_Close.l2 : Nat → List (S39) → Int → Int → Bool → Int → List (S82) → List (S101) → List ByteArray → List (S64) → Int → Option ((List (S39)))
 | 0, _, _, _, _, _, _, _, _, _, _ => none
 | k + 1, x5, x7, x8, x9, x10, x250000, x250001, x250002, x250003, x250004 => if x10 < (x250003.length : Int) then (if x9 = true then (syntagmref14_Close.j3 k x5 x7 x8 x9 x10 (decide (x8 < 0)) x250000 x250001 x250002 x250003 x250004) else (syntagmref14_Close.j3 k x5 x7 x8 x9 x10 false x250000 x250001 x250002 x250003 x250004)) else (syntagmref14_Close.j3 k x5 x7 x8 x9 x10 false x250000 x250001 x250002 x250003 x250004)
def syntagmref14_Close.j3 : Nat → List (S39) → Int → Int → Bool → Int → Bool → List (S82) → List (S101) → List ByteArray → List (S64) → Int → Option ((List (S39)))
 | 0, _, _, _, _, _, _, _, _, _, _, _ => none
 | k + 1, x5, x7, x8, x9, x10, x66, x250000, x250001, x250002, x250003, x250004 => if x66 = true then (if 0 ≤ x10 then (if x10 < (x250003.length : Int) then (if ((rd_T64 x250003 x10).f1) = (wrap64 ((-1) - x8)) then ((syntagmref14_has.f k x5 x10 0).bind fun t266 => (if t266 = true then (syntagmref14_Close.l2 k x5 x7 x8 x9 (wrap64 (x10 + 1)) x250000 x250001 x250002 x250003 x250004) else (if x5.length < 8796093022208 then (syntagmref14_Close.l2 k (x5 ++ [(⟨x10, 0⟩ : S39)]) x7 x8 x9 (wrap64 (x10 + 1)) x250000 x250001 x250002 x250003 x250004) else (none)))) else (syntagmref14_Close.l2 k x5 x7 x8 x9 (wrap64 (x10 + 1)) x250000 x250001 x250002 x250003 x250004)) else (none)) else (none)) else (syntagmref14_Close.l1 k x5 (wrap64 (x7 + 1)) x250000 x250001 x250002 x250003 x250004)
end
def syntagmref14_Close.f (k : Nat) (l0_0 : List (S82)) (l0_1 : List (S101)) (l0_2 : List ByteArray) (l0_3 : List (S64)) (a0_4 : Int) (l1 : List (S39)) : Option ((List (S39))) := syntagmref14_Close.l0 k l1 ([] : List (S39)) 0 l0_0 l0_1 l0_2 l0_3 a0_4
def syntagmref14_Close.T5 : Bool × List (List Nat × List Nat) := (true, [([], []), ([], []), ([], []), ([1, 2], [1, 2]), ([3], [3]), ([0, 4], [0, 4]), ([5, 5], [5]), ([6], [6]), ([6], [6]), ([6], [6]), ([8, 9, 6], [6, 8, 9]), ([10, 6], [6, 10]), ([7, 11, 6, 6], [6, 7, 11]), ([12, 6], [6, 12]), ([6, 13], [6, 13])])
def syntagmref14_Close.B5 : List Nat := [0, 0, 0, 6, 14, 31, 63, 127, 127, 127, 895, 1919, 4095, 8191, 16383]
def syntagmref14_Close.T10 : Bool × List (List Nat × List Nat) := (true, [([], []), ([], []), ([], []), ([1, 2], [1, 2]), ([3], [3]), ([0, 4], [0, 4]), ([5], [5]), ([6], [6]), ([6], [6]), ([7, 5, 0, 1, 2, 3, 4, 5, 6, 7], [7]), ([8, 9, 0, 1, 2, 3, 4, 5, 6, 7, 8, 9], [8])])
def syntagmref14_Close.B10 : List Nat := [0, 0, 0, 6, 14, 31, 63, 127, 127, 255, 1023]
end Go.Proofs.YtclollnicbcooaaDoor.P
end

section
namespace Go.Proofs.YtclollnicbcooaaDoor.P
open Go.RowKit Go.Proofs.YtclollnicbcooaaDoorW.PrintWords Go.Proofs.YtclollnicbcooaaDoorW.PrintLast Go.Proofs.YtclollnicbcooaaDoorW.PrintMore
attribute [local go_sem] max2_int min2_int max_two min_two max_three min_three max_four min_four   -- for this text's walks alone
set_option linter.unusedVariables false
set_option linter.unusedSimpArgs false

/-! ### syntagmref14_Step: function 21 -/
def syntagmref14_Step.l0 : Nat → Int → List (S39) → List (S39) → Int → List (S82) → List (S101) → List ByteArray → List (S64) → Int → Option ((List (S39)))
 | 0, _, _, _, _, _, _, _, _, _ => none
 | k + 1, x2, x7, x8, x9, x271000, x271001, x271002, x271003, x271004 => if x9 < (x8.length : Int) then (if 0 ≤ x9 then ((syntagmref14_Behind.f x271000 x271001 x271002 x271003 x271004 ((rd_T39 x8 x9).f0) ((rd_T39 x8 x9).f1)).bind fun bt275 => (if bt275.2 = true then (if bt275.1 = x2 then (if x7.length < 8796093022208 then (syntagmref14_Step.l0 k x2 (x7 ++ [(⟨(rd_T39 x8 x9).f0, wrap64 (((rd_T39 x8 x9).f1) + 1)⟩ : S39)]) x8 (wrap64 (x9 + 1)) x271000 x271001 x271002 x271003 x271004) else (none)) else (syntagmref14_Step.l0 k x2 x7 x8 (wrap64 (x9 + 1)) x271000 x271001 x271002 x271003 x271004)) else (syntagmref14_Step.l0 k x2 x7 x8 (wrap64 (x9 + 1)) x271000 x271001 x271002 x271003 x271004))) else (none)) else ((syntagmref14_rising.f k x7).bind fun t282 => (some t282))
def syntagmref14_Step.f (k : Nat) (l0_0 : List (S82)) (l0_1 : List (S101)) (l0_2 : List ByteArray) (l0_3 : List (S64)) (a0_4 : Int) (l1 : List (S39)) (a2 : Int) : Option ((List (S39))) := (syntagmref14_Close.f k l0_0 l0_1 l0_2 l0_3 a0_4 l1).bind fun t271 => (syntagmref14_Step.l0 k a2 ([] : List (S39)) t271 0 l0_0 l0_1 l0_2 l0_3 a0_4)
def syntagmref14_Step.T6 : Bool × List (List Nat × List Nat) := (true, [([], []), ([], []), ([], []), ([1, 2], [1, 2]), ([3], [3]), ([0, 4], [0, 4]), ([5], [5]), ([6], [6]), ([6], [6]), ([7, 5, 0, 1, 2, 3, 4, 5, 6, 7], [7]), ([8, 9, 0, 1, 2, 3, 4, 5, 6, 7, 8, 9], [8])])
def syntagmref14_Step.B6 : List Nat := [0, 0, 0, 6, 14, 31, 63, 127, 127, 255, 1023]
def syntagmref14_Step.T8 : Bool × List (List Nat × List Nat) := (true, [([], []), ([], []), ([], []), ([1, 2], [1, 2]), ([3], [3]), ([4], [4]), ([], []), ([], []), ([6, 7], [6, 7]), ([8], [8]), ([9], [9]), ([10], [10]), ([5, 11], [5, 11]), ([12], [12]), ([0, 13], [0, 13]), ([14, 14, 0, 1, 2, 3, 4, 5, 6, 7, 8, 9, 10, 11, 12, 13, 14], [0, 14])])
def syntagmref14_Step.B8 : List Nat := [0, 0, 0, 6, 14, 30, 0, 0, 192, 448, 960, 1984, 4094, 8190, 16383, 32767]
end Go.Proofs.YtclollnicbcooaaDoor.P
end

section
set_option linter.unusedVariables false
set_option linter.unusedSimpArgs false
set_option linter.unusedSectionVars false
namespace Go.Proofs.YtclollnicbcooaaDoor.P
open Go.RowKit Go.Proofs.YtclollnicbcooaaDoorW.PrintWords Go.Proofs.YtclollnicbcooaaDoorW.PrintLast Go.Proofs.YtclollnicbcooaaDoorW.PrintMore St

def toJ (x : S39) : Itm := (x.f0, x.f1)
def ofJ (x : Itm) : S39 := ⟨x.1, x.2⟩
theorem toJ_ofJ (x : Itm) : toJ (ofJ x) = x := rfl
theorem map_toJ_ofJ (l : List Itm) : (l.map ofJ).map toJ = l := by
 rw [List.map_map]
 exact (List.map_congr_left (fun x _ => toJ_ofJ x)).trans (List.map_id l)
theorem rd39 (l : List S39) (i : Nat) (h : i < l.length) : rd_T39 l (i : Int) = l[i] := by
 unfold rd_T39
 rw [Int.toNat_natCast, List.getD_eq_getElem?_getD, List.getElem?_eq_getElem h]
 rfl
theorem wrap_up (i : Nat) (h : i < 9223372036854775807) : wrap64 ((i : Int) + 1) = ((i + 1 : Nat) : Int) := by unfold wrap64; omega

def AtR (l : List S39) (a : Int) (r : Option Itm) : Prop := (a = -1 ∧ r = none) ∨ ∃ (j : Nat) (h : j < l.length), a = (j : Int) ∧ r = some (toJ l[j])
section
variable {l0 : List S82} {l1 : List S101} {l2 : List ByteArray} {l3 : List S64} {st : Int} (h : Fits l2 l3 st) (hv : validB l0 l1 l2 l3 st = true) (hr : ∀ p ∈ l3, ∀ s ∈ p.f2, -9223372036854775808 ≤ s ∧ s ≤ 9223372036854775807)
include h hv hr
end
end Go.Proofs.YtclollnicbcooaaDoor.P
end

section
set_option linter.unusedVariables false
set_option linter.unusedSimpArgs false
set_option linter.unusedSectionVars false
namespace Go.Proofs.YtclollnicbcooaaDoor.P
open Go.RowKit Go.Proofs.YtclollnicbcooaaDoorW.PrintWords Go.Proofs.YtclollnicbcooaaDoorW.PrintLast Go.Proofs.YtclollnicbcooaaDoorW.PrintMore St

theorem rd37 (l : List S37) (i : Nat) (h : i < l.length) : rd_T37 l (i : Int) = l[i] := by
 unfold rd_T37
 rw [Int.toNat_natCast, List.getD_eq_getElem?_getD, List.getElem?_eq_getElem h]
 rfl
theorem lawrow_l0 (l : List S37) (hl : l.length ≤ 4000000000000) : ∀ (m i : Nat) (out : List S39), i + m = l.length → out.length = i → Ev (fun k => syntagmlaw14_Row.l0 k l out i) (out ++ ((l.drop i).map toI).map ofJ)
 | 0, i, out, hi, ho => by
  refine Ev.step (f := fun _ => some out) (fun k => ?_) ?_
  ·rw [syntagmlaw14_Row.l0, if_neg (by omega)]
  ·rw [List.drop_eq_nil_of_le (by omega), List.map_nil, List.map_nil, List.append_nil]
   exact Ev.now _
 | m + 1, i, out, hi, ho => by
  have hlt : i < l.length := by omega
  have ih := lawrow_l0 l hl m (i + 1) (out ++ [(⟨l[i].f0, l[i].f1⟩ : S39)]) (by omega) (by rw [List.length_append, List.length_singleton]; omega)
  rw [List.append_assoc] at ih
  rw [List.drop_eq_getElem_cons hlt]
  refine Ev.step (fun k => ?_) ih
  rw [syntagmlaw14_Row.l0, if_pos (by omega), if_pos (by omega), if_pos (by omega), rd37 l i hlt, wrap_up i (by omega)]
theorem lawrow_ev (l : List S37) (hl : l.length ≤ 4000000000000) : Ev (fun k => syntagmlaw14_Row.f k l) ((l.map toI).map ofJ) := by
 have := lawrow_l0 l hl l.length 0 [] (by omega) rfl
 rw [List.nil_append, List.drop_zero] at this
 exact this
theorem refrow_l0 (a b : List S39) (hl : a.length = b.length) (hs : a.length ≤ 4000000000000) : ∀ (m i : Nat), i + m = a.length → Ev (fun k => syntagmref14_Row.l0 k a b i) (decide ((a.drop i).map toJ = (b.drop i).map toJ))
 | 0, i, hi => by
  refine Ev.step (f := fun _ => some true) (fun k => ?_) ?_
  ·rw [syntagmref14_Row.l0, if_neg (by omega)]
  ·rw [List.drop_eq_nil_of_le (by omega), List.drop_eq_nil_of_le (by omega)]
   exact Ev.now _
 | m + 1, i, hi => by
  have hla : i < a.length := by omega
  have hlb : i < b.length := by omega
  have ih := refrow_l0 a b hl hs m (i + 1) (by omega)
  rw [List.drop_eq_getElem_cons hla, List.drop_eq_getElem_cons hlb, List.map_cons, List.map_cons]
  by_cases he : toJ a[i] = toJ b[i]
  ·have e : decide (toJ a[i] :: (a.drop (i + 1)).map toJ = toJ b[i] :: (b.drop (i + 1)).map toJ) = decide ((a.drop (i + 1)).map toJ = (b.drop (i + 1)).map toJ) := by
    rw [decide_eq_decide, List.cons.injEq]
    exact ⟨fun h => h.2, fun h => ⟨he, h⟩⟩
   rw [e]
   have h0 : a[i].f0 = b[i].f0 := congrArg Prod.fst he
   have h1 : a[i].f1 = b[i].f1 := congrArg Prod.snd he
   refine Ev.step (fun k => ?_) ih
   rw [syntagmref14_Row.l0, if_pos (by omega), if_pos (by omega), if_pos (by omega), rd39 a i hla, rd39 b i hlb, h0, h1, if_neg (by simp), wrap_up i (by omega)]
  ·rw [decide_eq_false (fun h => he (List.cons.inj h).1)]
   refine Ev.step (f := fun _ => some false) (fun k => ?_) (Ev.now _)
   rw [syntagmref14_Row.l0, if_pos (by omega), if_pos (by omega), if_pos (by omega), rd39 a i hla, rd39 b i hlb, if_pos]
   rw [Bool.or_eq_true, Bool.not_eq_true', Bool.not_eq_true', beq_eq_false_iff_ne, beq_eq_false_iff_ne]
   by_cases h0 : a[i].f0 = b[i].f0
   ·exact .inr fun h1 => he (Prod.ext h0 h1)
   ·exact .inl h0
theorem refrow_ev (a b : List Itm) (hs : a.length ≤ 4000000000000) : Ev (fun k => syntagmref14_Row.f k (a.map ofJ) (b.map ofJ)) (decide (a = b)) := by
 by_cases hl : a.length = b.length
 ·have hz := refrow_l0 (a.map ofJ) (b.map ofJ) (by rw [List.length_map, List.length_map]; exact hl) (by rw [List.length_map]; exact hs) (a.map ofJ).length 0 (by omega)
  rw [List.drop_zero, List.drop_zero, map_toJ_ofJ, map_toJ_ofJ] at hz
  refine Ev.congr (fun k => ?_) hz
  unfold syntagmref14_Row.f
  rw [if_pos (by rw [List.length_map, List.length_map, hl])]
  rfl
 ·rw [decide_eq_false (fun h => hl (congrArg List.length h))]
  refine Ev.congr (f := fun _ => some false) (fun k => ?_) (Ev.now _)
  unfold syntagmref14_Row.f
  rw [if_neg (by rw [List.length_map, List.length_map]; omega)]

section
variable {l0 : List S82} {l1 : List S101} {l2 : List ByteArray} {l3 : List S64} {st : Int} (h : Fits l2 l3 st) (hv : validB l0 l1 l2 l3 st = true) (hr : ∀ p ∈ l3, ∀ s ∈ p.f2, -9223372036854775808 ≤ s ∧ s ≤ 9223372036854775807)
include h hv hr
end

/-! ### of a grammar that may not be -/
section
variable {l0 : List S82} {l1 : List S101} {l2 : List ByteArray} {l3 : List S64} {st : Int} (hv : validB l0 l1 l2 l3 st = false) (hr : ∀ p ∈ l3, ∀ s ∈ p.f2, -9223372036854775808 ≤ s ∧ s ≤ 9223372036854775807)
include hv hr
end
end Go.Proofs.YtclollnicbcooaaDoor.P
end

section
set_option linter.unusedVariables false
set_option linter.unusedSimpArgs false
namespace Go.Proofs.YtclollnicbcooaaDoor.P
open Go.RowKit Go.Proofs.YtclollnicbcooaaDoorW.PrintWords Go.Proofs.YtclollnicbcooaaDoorW.PrintLast Go.Proofs.YtclollnicbcooaaDoorW.PrintMore

theorem few_end (l0 : List S82) (l1 : List S101) (l2 : List ByteArray) (l3 : List S64) (st : Int) (k : Nat) (i : Int) :
  ∃ b, syntagmlaw13_Few.j1 (k + 1) i false l0 l1 l2 l3 st = some b ∧ (b = true → l0.length ≤ 10 ∧ l2.length ≤ 8 ∧ l3.length ≤ 14 ∧ l1.length ≤ 30) := by
 unfold syntagmlaw13_Few.j1
 rw [if_neg (by decide)]
 split
 ·split
  ·split
   ·exact ⟨_, rfl, fun h => by have := of_decide_eq_true h; omega⟩
   ·exact ⟨_, rfl, fun h => by cases h⟩
  ·exact ⟨_, rfl, fun h => by cases h⟩
 ·exact ⟨_, rfl, fun h => by cases h⟩

theorem few_l0 (l0 : List S82) (l1 : List S101) (l2 : List ByteArray) (l3 : List S64) (st : Int) : ∀ (m i : Nat), i + m = 15 → ∀ k, 2 * m + 2 ≤ k →
  ∃ b, syntagmlaw13_Few.l0 k i l0 l1 l2 l3 st = some b ∧ (b = true → l0.length ≤ 10 ∧ l2.length ≤ 8 ∧ l3.length ≤ 14 ∧ l1.length ≤ 30)
 | m, i, hi, 0, hk => by omega
 | m, i, hi, 1, hk => by omega
 | 0, i, hi, k + 2, hk => by
  unfold syntagmlaw13_Few.l0
  have e : decide ((i : Int) < 15) = false := decide_eq_false (by omega)
  rw [e]
  split
  ·exact few_end l0 l1 l2 l3 st k i
  ·exact few_end l0 l1 l2 l3 st k i
 | m + 1, i, hi, k + 2, hk => by
  unfold syntagmlaw13_Few.l0
  have e : decide ((i : Int) < 15) = true := decide_eq_true (by omega)
  rw [e]
  split
  ·unfold syntagmlaw13_Few.j1
   rw [if_pos rfl, if_pos (by omega), if_pos (by assumption)]
   split
   ·exact ⟨_, rfl, fun h => by cases h⟩
   ·have w : wrap64 ((i : Int) + 1) = ((i + 1 : Nat) : Int) := by unfold wrap64; omega
    rw [w]
    exact few_l0 l0 l1 l2 l3 st m (i + 1) (by omega) k (by omega)
  ·exact few_end l0 l1 l2 l3 st k i

theorem few_is (l0 : List S82) (l1 : List S101) (l2 : List ByteArray) (l3 : List S64) (st : Int) (k : Nat) (hk : 32 ≤ k) :
  ∃ b, syntagmlaw13_Few.f k l0 l1 l2 l3 st = some b ∧ (b = true → l0.length ≤ 10 ∧ l2.length ≤ 8 ∧ l3.length ≤ 14 ∧ l1.length ≤ 30) :=
 few_l0 l0 l1 l2 l3 st 15 0 rfl k (by omega)

end Go.Proofs.YtclollnicbcooaaDoor.P
end

section
set_option linter.unusedVariables false
set_option linter.unusedSimpArgs false
set_option linter.unusedSectionVars false
namespace Go.Proofs.YtclollnicbcooaaDoor.P
open Go.RowKit Go.Proofs.YtclollnicbcooaaDoorW.PrintWords Go.Proofs.YtclollnicbcooaaDoorW.PrintLast Go.Proofs.YtclollnicbcooaaDoorW.PrintMore St

theorem i64_range {x : Int} (h : (Lit.int .i64 x).wf = true) : -9223372036854775808 ≤ x ∧ x ≤ 9223372036854775807 := by
 have := bounds_i64 h
 omega
theorem prods_range {x : S27} (h : wf27 x) : ∀ p ∈ x.f3, ∀ s ∈ p.f2, -9223372036854775808 ≤ s ∧ s ≤ 9223372036854775807 :=
 fun p hp s hs => i64_range ((h.2.2.2.1.2 p hp).2.2.1.2 s hs)
theorem okP_of {l3 : List S64} (hr : ∀ p ∈ l3, ∀ s ∈ p.f2, -9223372036854775808 ≤ s ∧ s ≤ 9223372036854775807) : l3.all okP = true :=
 List.all_eq_true.2 fun p hp => List.all_eq_true.2 fun s hs => decide_eq_true (hr p hp s hs).1
/-! ### the program and the document -/
section
variable {l0 : List S82} {l1 : List S101} {l2 : List ByteArray} {l3 : List S64} {st : Int} (hr : ∀ p ∈ l3, ∀ s ∈ p.f2, -9223372036854775808 ≤ s ∧ s ≤ 9223372036854775807)
include hr
omit hr in
theorem Behind_ok (hv : validB l0 l1 l2 l3 st = true) (a b : Int) : states_Behind.f l0 l1 l2 l3 st a b = some (match behindL (gr st l3) (a, b) with | some s => (s, true) | none => (0, false)) := by
 unfold states_Behind.f inst_Valid.f
 rw [hv, Option.bind_some, if_pos rfl, behind_is (fits_of hv), Option.bind_some]
 cases behindL (gr st l3) (a, b) <;> rfl
/-- The automaton is built, or has too many states. -/
theorem build_ok (hv : validB l0 l1 l2 l3 st = true) : (∃ R, builtL l0.length l2.length (gr st l3) = some R ∧ states_Build.f l0 l1 l2 l3 st = some (outB R)) := by
 obtain ⟨R, hR⟩ := buildL_ends (Sg (gr st l3)) (symsL l0.length l2.length) 2000 2001 2003 0 [[(-1, 0)]] [] (by omega) (by omega) (by simp)
 refine ⟨R, hR, ?_⟩
 unfold states_Build.f
 rw [if_pos hv, if_pos (okP_of hr)]
 show Option.map outB (builtL l0.length l2.length (gr st l3)) = _
 unfold builtL
 rw [hR]
 rfl
omit hr in
theorem build_not (hv : validB l0 l1 l2 l3 st = false) : states_Build.f l0 l1 l2 l3 st = some ([], [], 1) := by
 unfold states_Build.f
 rw [hv, if_neg (by decide)]
end
theorem built_is {T S : Nat} {g : Gr} {K : List (List Itm)} {N : List (List Int)} (h : builtL T S g = some (some (K, N))) : Built (Sg g) (symsL T S) [(-1, 0)] K N ∧ N.length = K.length :=
 buildL_is (Sg g) (symsL T S) 2000 [(-1, 0)] 2003 [[(-1, 0)]] [] (K, N) (Built.start _ _ _) h
theorem symsL_at (T S j : Nat) (h : j < T + S) : (symsL T S)[j]? = some (if T ≤ j then -1 - ((j : Int) - T) else (j : Int)) := by
 unfold symsL
 by_cases hT : j < T
 ·rw [List.getElem?_append_left (by simpa using hT), List.getElem?_map, List.getElem?_range hT, if_neg (by omega)]
  rfl
 ·rw [List.getElem?_append_right (by simpa using Nat.le_of_not_lt hT), List.length_map, List.length_range, List.getElem?_map, List.getElem?_range (by omega), if_pos (by omega), Option.map_some]
  congr 1
  omega
end Go.Proofs.YtclollnicbcooaaDoor.P
end

section
set_option linter.unusedVariables false
set_option linter.unusedSimpArgs false
namespace Go.Proofs.YtclollnicbcooaaDoor.P
open Go.RowKit Go.Proofs.YtclollnicbcooaaDoorW.PrintWords Go.Proofs.YtclollnicbcooaaDoorW.PrintLast Go.Proofs.YtclollnicbcooaaDoorW.PrintMore St

/-! ### told by what can be reckoned -/
def risenC (l : List Itm) : List Itm := riseR l l.length []
theorem risen_c (l : List Itm) : risen l = risenC l := (risen_one (riseR_all l)).symm
def SgC (g : Gr) (c : List Itm) (s : Int) : List Itm := risenC (stepL g (risenC (closedL g c)) s)
theorem Sg_c (g : Gr) : Sg g = SgC g := by
 funext c s
 unfold Sg SgC
 rw [risen_c, risen_c]
theorem built_c (T S : Nat) (g : Gr) : builtL T S g = buildL (SgC g) (symsL T S) 2000 2003 0 [[(-1, 0)]] [] := by
 unfold builtL
 rw [Sg_c]

def e0 : List S82 := [(⟨(⟨#[97]⟩ : ByteArray), (⟨#[]⟩ : ByteArray), false, 0⟩ : S82)]
def e2 : List ByteArray := [(⟨#[83]⟩ : ByteArray)]
def e3 : List S64 := [(⟨(⟨#[112]⟩ : ByteArray), 0, (([0] : List Int)), 0⟩ : S64)]
theorem e_valid : validB e0 [] e2 e3 0 = true := by kernel_rfl
theorem e_okP : e3.all okP = true := by kernel_rfl
theorem e_build : states_Build.f e0 [] e2 e3 0 = some ([[⟨-1, 0⟩], [⟨0, 1⟩], [⟨-1, 1⟩]], [[1, 2], [-1, -1], [-1, -1]], 0) := by
 unfold states_Build.f
 rw [if_pos e_valid, if_pos e_okP, built_c]
 kernel_rfl
theorem e_close : states_Close.f e0 [] e2 e3 0 [⟨-1, 0⟩] = some [⟨-1, 0⟩, ⟨0, 0⟩] := by
 unfold states_Close.f inst_Valid.f states_closed.f
 rw [e_valid, Option.bind_some, if_pos rfl, if_pos ⟨rfl, e_okP, Nat.le_of_ble_eq_true rfl, rfl⟩, risen_c]
 kernel_rfl
theorem e_step : states_Step.f e0 [] e2 e3 0 [⟨-1, 0⟩, ⟨0, 0⟩] 0 = some [⟨0, 1⟩] := by
 unfold states_Step.f inst_Valid.f states_closed.f
 rw [e_valid, Option.bind_some, if_pos rfl, if_pos ⟨rfl, e_okP, Nat.le_of_ble_eq_true rfl, rfl⟩, risen_c, Option.bind_some]
 unfold states_step.f
 rw [e_valid, if_pos ⟨rfl, Nat.le_of_ble_eq_true rfl⟩, risen_c]
 kernel_rfl
theorem works_true : syntagmlaw14_works.f = some true := by
 have h1 := e_build
 have h2 := e_close
 have h3 := e_step
 have h4 : states_Behind.f e0 [] e2 e3 0 0 0 = some (0, true) := by kernel_rfl
 unfold e0 e2 e3 at h1 h2 h3 h4
 unfold syntagmlaw14_works.f
 rw [Option.bind_some, Option.bind_some, Option.bind_some, h1, Option.bind_some, h2, Option.bind_some, h3, Option.bind_some, h4, Option.bind_some]
 show _ = some true
 kernel_rfl

end Go.Proofs.YtclollnicbcooaaDoor.P
end

section
set_option linter.unusedVariables false
set_option linter.unusedSimpArgs false
set_option linter.unusedSectionVars false
namespace Go.Proofs.YtclollnicbcooaaDoor.P
open Go.RowKit Go.Proofs.YtclollnicbcooaaDoorW.PrintWords Go.Proofs.YtclollnicbcooaaDoorW.PrintLast Go.Proofs.YtclollnicbcooaaDoorW.PrintMore St

theorem little_l0 (x3 : Bool) (l0 : List S82) (l1 : List S101) (l2 : List ByteArray) (l3 : List S64) (st : Int) : ∀ (m i : Nat), i + m = 15 → ∃ b, Ev (fun k => syntagmlaw14_Little.l0 k x3 i l0 l1 l2 l3 st) b
 | 0, i, hi => by
  refine ⟨if x3 = true then decide ((l3.length : Int) ≤ 10) else false, ?_⟩
  have hj : Ev (fun k => syntagmlaw14_Little.j1 k x3 i false l0 l1 l2 l3 st) (if x3 = true then decide ((l3.length : Int) ≤ 10) else false) := by
   refine Ev.step (f := fun _ => some (if x3 = true then decide ((l3.length : Int) ≤ 10) else false)) (fun k => ?_) (Ev.now _)
   rw [syntagmlaw14_Little.j1, if_neg (by decide)]
   split <;> rfl
  refine Ev.step (fun k => ?_) hj
  rw [syntagmlaw14_Little.l0, decide_eq_false (by omega)]
  split <;> rfl
 | m + 1, i, hi => by
  have hw := wrap_up i (by omega)
  by_cases hlt : i < l3.length
  ·by_cases h5 : (((rd_T64 l3 (i : Int)).f2).length : Int) > 5
   ·refine ⟨false, ?_⟩
    have hj : Ev (fun k => syntagmlaw14_Little.j1 k x3 i true l0 l1 l2 l3 st) false := by
     refine Ev.step (f := fun _ => some false) (fun k => ?_) (Ev.now _)
     rw [syntagmlaw14_Little.j1, if_pos rfl, if_pos (by omega), if_pos (by omega), if_pos h5]
    refine Ev.step (fun k => ?_) hj
    rw [syntagmlaw14_Little.l0, if_pos (by omega), decide_eq_true (by omega)]
   ·obtain ⟨b, ih⟩ := little_l0 x3 l0 l1 l2 l3 st m (i + 1) (by omega)
    refine ⟨b, ?_⟩
    have hj : Ev (fun k => syntagmlaw14_Little.j1 k x3 i true l0 l1 l2 l3 st) b := by
     refine Ev.step (fun k => ?_) ih
     rw [syntagmlaw14_Little.j1, if_pos rfl, if_pos (by omega), if_pos (by omega), if_neg h5, hw]
    refine Ev.step (fun k => ?_) hj
    rw [syntagmlaw14_Little.l0, if_pos (by omega), decide_eq_true (by omega)]
  ·refine ⟨if x3 = true then decide ((l3.length : Int) ≤ 10) else false, ?_⟩
   have hj : Ev (fun k => syntagmlaw14_Little.j1 k x3 i false l0 l1 l2 l3 st) (if x3 = true then decide ((l3.length : Int) ≤ 10) else false) := by
    refine Ev.step (f := fun _ => some (if x3 = true then decide ((l3.length : Int) ≤ 10) else false)) (fun k => ?_) (Ev.now _)
    rw [syntagmlaw14_Little.j1, if_neg (by decide)]
    split <;> rfl
   refine Ev.step (fun k => ?_) hj
   rw [syntagmlaw14_Little.l0, if_neg (by omega)]
theorem little_ev (l0 : List S82) (l1 : List S101) (l2 : List ByteArray) (l3 : List S64) (st : Int) : ∃ b, Ev (fun k => syntagmlaw14_Little.f k l0 l1 l2 l3 st) b := by
 obtain ⟨b0, hf, -⟩ := few_is l0 l1 l2 l3 st 32 (Nat.le_refl _)
 obtain ⟨b, hb⟩ := little_l0 b0 l0 l1 l2 l3 st 15 0 rfl
 refine ⟨b, ?_⟩
 unfold syntagmlaw14_Little.f
 exact Ev.bind (f := fun k t => syntagmlaw14_Little.l0 k t 0 l0 l1 l2 l3 st) (Ev.of (fun k => syntagmlaw13_Few.mono _ _ _ _ _ k) hf) hb

theorem rdL15 (K : List (List Itm)) (i : Nat) (h : i < K.length) : rd_L15 (K.map (·.map ofI)) (i : Int) = K[i].map ofI := by
 unfold rd_L15
 rw [Int.toNat_natCast, List.getD_eq_getElem?_getD, List.getElem?_map, List.getElem?_eq_getElem h]
 rfl
theorem rdL17 (N : List (List Int)) (i : Nat) (h : i < N.length) : rd_L17 N (i : Int) = N[i] := by
 unfold rd_L17
 rw [Int.toNat_natCast, List.getD_eq_getElem?_getD, List.getElem?_eq_getElem h]
 rfl
theorem rd_at (l : List Int) (i : Nat) {v : Int} (h : l[i]? = some v) : Go.Proofs.YtclollnicbcooaaDoorW.PrintWords.rd l (i : Int) = v := by
 unfold Go.Proofs.YtclollnicbcooaaDoorW.PrintWords.rd
 rw [Int.toNat_natCast, List.getD_eq_getElem?_getD, h]
 rfl
section
variable {l0 : List S82} {l1 : List S101} {l2 : List ByteArray} {l3 : List S64} {st : Int} (hv : validB l0 l1 l2 l3 st = true) (hr : ∀ p ∈ l3, ∀ s ∈ p.f2, -9223372036854775808 ≤ s ∧ s ≤ 9223372036854775807)
include hv
theorem behind_sym {x : Itm} {t : Int} (hr : ∀ p ∈ l3, ∀ s ∈ p.f2, -9223372036854775808 ≤ s ∧ s ≤ 9223372036854775807) (hb : behindL (gr st l3) x = some t) : -(l2.length : Int) ≤ t ∧ t < l0.length := by
 have hF := fits_of hv
 unfold behindL at hb
 cases hq : rightL (gr st l3) x.1 with
 | none => rw [hq] at hb; cases hb
 | some r =>
  rw [hq] at hb
  simp only at hb
  split at hb
  ·rename_i hx
   injection hb with hb
   have hm : t ∈ r := by
    rw [← hb, List.getD_eq_getElem?_getD, List.getElem?_eq_getElem (by omega)]
    exact List.getElem_mem _
   unfold rightL at hq
   rw [gr_len] at hq
   split at hq
   ·injection hq with hq
    rw [← hq] at hm
    have hm := List.mem_singleton.1 hm
    have h1 := hF.lo; have h2 := hF.hi
    have e : (gr st l3).start = st := rfl
    rw [e] at hm
    omega
   ·split at hq
    ·rename_i h1 h2
     rw [gr_at st l3 x.1 h2.1 h2.2] at hq
     injection hq with hq
     rw [← hq] at hm
     have hin : (rd_T64 l3 x.1) ∈ l3 := by
      unfold rd_T64
      rw [List.getD_eq_getElem?_getD, List.getElem?_eq_getElem (by omega)]
      exact List.getElem_mem _
     have hv2 := hv
     unfold validB at hv2
     simp only [Bool.and_eq_true] at hv2
     have hp := List.all_eq_true.1 hv2.1.1.1.2 _ hin
     unfold prodB at hp
     simp only [Bool.and_eq_true, Bool.not_eq_true'] at hp
     have ho := List.any_eq_false.1 hp.2 t hm
     have hrt := hr _ hin t hm
     have hw : IntKind.i64.wrap (-1 - t) = -1 - t := IntWalk.i64_in _ (by omega)
     unfold oddB inB at ho
     rw [hw] at ho
     simp only [Bool.or_eq_true, Bool.and_eq_true, Bool.not_eq_true', decide_eq_true_eq, Bool.and_eq_false_iff, decide_eq_false_iff_not, not_or, not_and] at ho
     omega
    ·cases hq
  ·cases hb
theorem Sg_none {c : List Itm} {s : Int} (h : ∀ x, behindL (gr st l3) x ≠ some s) : Sg (gr st l3) c s = [] := by
 have e : stepL (gr st l3) (risen (closedL (gr st l3) c)) s = [] := by
  unfold stepL
  rw [List.filterMap_eq_nil_iff]
  intro x _
  rw [if_neg (h x)]
 unfold Sg
 rw [e]
 refine List.eq_nil_iff_forall_not_mem.2 fun x hx => ?_
 have := ((risen_is []).mem x).1 hx
 cases this
theorem built_small {K : List (List Itm)} {N : List (List Int)} (h : Built (Sg (gr st l3)) (symsL l0.length l2.length) [(-1, 0)] K N) : ∀ c ∈ K, c.length ≤ 1562 ∧ ∀ x ∈ c, rngI x := by
 intro c hc
 obtain ⟨j, hj, rfl⟩ := List.mem_iff_getElem.1 hc
 have hx : K[j]? = some K[j] := List.getElem?_eq_getElem hj
 by_cases h0 : j = 0
 ·subst h0
  have := h.first
  rw [hx] at this
  rw [Option.some.inj this]
  refine ⟨by simp, fun x hx => ?_⟩
  rw [List.mem_singleton] at hx
  subst hx
  unfold rngI
  simp only
  omega
 ·obtain ⟨i, d, s, _, _, _, _, e⟩ := h.come j _ hx h0
  rw [e]
  exact Sg_small (fits_of hv) d s
/-- Where it goes. -/
theorem go_is (hr : ∀ p ∈ l3, ∀ s ∈ p.f2, -9223372036854775808 ≤ s ∧ s ≤ 9223372036854775807) {K : List (List Itm)} {N : List (List Int)} (h : Built (Sg (gr st l3)) (symsL l0.length l2.length) [(-1, 0)] K N) {i : Nat} (hi : i < N.length) {c : List Itm} (hc : K[i]? = some c) (s : Int) (hs : -9223372036854775808 ≤ s ∧ s ≤ 9223372036854775807) (Ka : List (List S37)) :
  ∃ q, states_Go.f l0 l1 l2 l3 st Ka N i s = some q ∧ NumOf K (Sg (gr st l3) c s) q := by
 have hT := terms_few hv
 have hS := (fits_of hv).sorts
 obtain ⟨row, hrow, hlen, hg⟩ := h.goes i c hi hc
 rw [symsL_len] at hlen
 have hri : rd_L17 N (i : Int) = row := by
  rw [rdL17 N i hi]
  rw [List.getElem?_eq_getElem hi] at hrow
  exact Option.some.inj hrow
 have nope : (s < -(l2.length : Int) ∨ (l0.length : Int) ≤ s) → NumOf K (Sg (gr st l3) c s) (-1) := fun hn => .inl ⟨Sg_none hv (fun x hx => by have := behind_sym hv hr hx; omega), rfl⟩
 unfold states_Go.f
 rw [hri]
 have hw1 : wrap64 ((-1) - s) = if s < 0 then -1 - s else -1 - s := by
  rw [IntWalk.wrap64_in _ (by omega)]
  split <;> rfl
 by_cases hs0 : s < 0
 ·rw [if_pos hs0, IntWalk.wrap64_in ((-1) - s) (by omega), if_neg (by omega), if_neg (by omega)]
  by_cases hq : -(l2.length : Int) ≤ s
  ·have hw : wrap64 ((l0.length : Int) + (-1 - s)) = (l0.length : Int) + (-1 - s) := IntWalk.wrap64_in _ (by omega)
   obtain ⟨j, hj⟩ : ∃ j : Nat, (l0.length : Int) + (-1 - s) = j := ⟨((l0.length : Int) + (-1 - s)).toNat, by omega⟩
   have hsy := symsL_at l0.length l2.length j (by omega)
   rw [if_pos (by omega), show (-1 - ((j : Int) - l0.length)) = s by omega] at hsy
   obtain ⟨n, hn, hnum⟩ := hg j s hsy
   rw [hw, hj, if_neg (by omega), if_pos (by omega), if_pos (by omega), if_neg (by omega), if_pos (by omega), if_pos (by omega), rd_at row j hn]
   exact ⟨n, rfl, hnum⟩
  ·refine ⟨-1, ?_, nope (.inl (by omega))⟩
   by_cases hw0 : wrap64 ((l0.length : Int) + (-1 - s)) < 0
   ·rw [if_pos hw0]
   ·have hge : wrap64 ((l0.length : Int) + (-1 - s)) ≥ (row.length : Int) := by
     unfold wrap64 at hw0 ⊢
     omega
    rw [if_neg hw0, if_pos (by omega), if_pos (by omega), if_pos hge]
 ·rw [if_neg hs0]
  by_cases hq : s ≥ (l0.length : Int)
  ·rw [if_pos hq]
   exact ⟨-1, rfl, nope (.inr (by omega))⟩
  ·obtain ⟨j, hj⟩ : ∃ j : Nat, s = j := ⟨s.toNat, by omega⟩
   have hsy := symsL_at l0.length l2.length j (by omega)
   rw [if_neg (by omega), ← hj] at hsy
   obtain ⟨n, hn, hnum⟩ := hg j s hsy
   rw [if_neg hq, if_neg (by omega), if_neg (by omega), if_pos (by omega), if_pos (by omega), if_neg (by omega), if_pos (by omega), if_pos (by omega), hj, rd_at row j hn]
   exact ⟨n, rfl, by rw [← hj]; exact hnum⟩
end
end Go.Proofs.YtclollnicbcooaaDoor.P
end
