/- Texts of this claim put together: Px6, Lk3, Lk4, Lk5, SMore, SJump, SGrow, SAll, Le, SRow, SMoreS, SGrowS, SKnown, SFirst, SOf, Lk6, Lk7, Lkz, Lk8, Lq, Lke, Lk, SFolP. -/
import Derived.Test.YtclollnicbcooaaDoorEc1
import Derived.Test.YtclollnicbcooaaDoorEc0
import Derived.Test.YtclollnicbcooaaDoorEc2
import Derived.Deep.RegionHeld3
import Derived.Deep.CutRange
import Derived.WalkMore
import Derived.IntWalk
import Derived.ScopeJumps
section
namespace Go.Proofs.YtclollnicbcooaaDoor.P
open Go.RowKit Go.Proofs.YtclollnicbcooaaDoorW.PrintWords Go.Proofs.YtclollnicbcooaaDoorW.PrintLast Go.Proofs.YtclollnicbcooaaDoorW.PrintMore
attribute [local go_sem] max2_int min2_int max_two min_two max_three min_three max_four min_four   -- for this text's walks alone
set_option linter.unusedVariables false
set_option linter.unusedSimpArgs false

attribute [local go_sem high] eqA37
/-! ### states_Go: function 25 -/
def states_Go.f (l0_0 : List (S82)) (l0_1 : List (S101)) (l0_2 : List ByteArray) (l0_3 : List (S64)) (a0_4 : Int) (l1_0 : List (List (S37))) (l1_1 : List (List Int)) (a2 : Int) (a3 : Int) : Option (Int) := if a3 < 0 then (if a2 < 0 then (some (-1)) else (if a2 ≥ (l1_1.length : Int) then (some (-1)) else (if (wrap64 ((l0_0.length : Int) + (wrap64 ((-1) - a3)))) < 0 then (some (-1)) else (if 0 ≤ a2 then (if a2 < (l1_1.length : Int) then (if (wrap64 ((l0_0.length : Int) + (wrap64 ((-1) - a3)))) ≥ ((rd_L17 l1_1 a2).length : Int) then (some (-1)) else (if 0 ≤ (wrap64 ((l0_0.length : Int) + (wrap64 ((-1) - a3)))) then (if (wrap64 ((l0_0.length : Int) + (wrap64 ((-1) - a3)))) < ((rd_L17 l1_1 a2).length : Int) then (some (rd (rd_L17 l1_1 a2) (wrap64 ((l0_0.length : Int) + (wrap64 ((-1) - a3)))))) else (none)) else (none))) else (none)) else (none))))) else (if a3 ≥ (l0_0.length : Int) then (some (-1)) else (if a2 < 0 then (some (-1)) else (if a2 ≥ (l1_1.length : Int) then (some (-1)) else (if 0 ≤ a2 then (if a2 < (l1_1.length : Int) then (if a3 ≥ ((rd_L17 l1_1 a2).length : Int) then (some (-1)) else (if 0 ≤ a3 then (if a3 < ((rd_L17 l1_1 a2).length : Int) then (some (rd (rd_L17 l1_1 a2) a3)) else (none)) else (none))) else (none)) else (none)))))
def goF (N : List (List Int)) (a q : Int) : Option Int := if a < 0 then some (-1) else if a ≥ (N.length : Int) then some (-1) else if q < 0 then some (-1) else if q ≥ ((rd_L17 N a).length : Int) then some (-1) else some (Go.Proofs.YtclollnicbcooaaDoorW.PrintWords.rd (rd_L17 N a) q)
theorem go_f (l0 : List S82) (l1 : List S101) (l2 : List ByteArray) (l3 : List S64) (st : Int) (Ka : List (List S37)) (N : List (List Int)) (a s : Int) : states_Go.f l0 l1 l2 l3 st Ka N a s = if s < 0 then goF N a (wrap64 ((l0.length : Int) + (wrap64 ((-1) - s)))) else if s ≥ (l0.length : Int) then some (-1) else goF N a s := by
 unfold states_Go.f goF
 generalize wrap64 ((l0.length : Int) + (wrap64 ((-1) - s))) = w
 by_cases hs : s < 0
 ·simp only [if_pos hs]
  by_cases h1 : a < 0
  ·simp only [if_pos h1]
  ·by_cases h2 : a ≥ (N.length : Int)
   ·simp only [if_neg h1, if_pos h2]
   ·by_cases h3 : w < 0
    ·simp only [if_neg h1, if_neg h2, if_pos h3]
    ·by_cases h4 : w ≥ ((rd_L17 N a).length : Int)
     ·simp only [if_neg h1, if_neg h2, if_neg h3, if_pos h4, if_pos (show 0 ≤ a by omega), if_pos (show a < (N.length : Int) by omega)]
     ·simp only [if_neg h1, if_neg h2, if_neg h3, if_neg h4, if_pos (show 0 ≤ a by omega), if_pos (show a < (N.length : Int) by omega), if_pos (show 0 ≤ w by omega), if_pos (show w < ((rd_L17 N a).length : Int) by omega)]
 ·simp only [if_neg hs]
  by_cases h0 : s ≥ (l0.length : Int)
  ·simp only [if_pos h0]
  ·simp only [if_neg h0]
   by_cases h1 : a < 0
   ·simp only [if_pos h1]
   ·by_cases h2 : a ≥ (N.length : Int)
    ·simp only [if_neg h1, if_pos h2]
    ·by_cases h4 : s ≥ ((rd_L17 N a).length : Int)
     ·simp only [if_neg h1, if_neg h2, if_pos h4, if_pos (show 0 ≤ a by omega), if_pos (show a < (N.length : Int) by omega)]
     ·simp only [if_neg h1, if_neg h2, if_neg h4, if_pos (show 0 ≤ a by omega), if_pos (show a < (N.length : Int) by omega), if_pos (show 0 ≤ s by omega), if_pos (show s < ((rd_L17 N a).length : Int) by omega)]

set_option maxHeartbeats 8000000 in
set_option maxRecDepth 100000 in
theorem go_walk (A0 : Option Addr) (c0 : Nat) (l0 : List S82) (A1 : Option Addr) (c1 : Nat) (l1 : List S101) (A2 : Option Addr) (c2 : Nat) (l2 : List ByteArray) (A3 : Option Addr) (c3 : Nat) (l3 : List S64) (st : Int) (AK : Option Addr) (cK : Nat) (K : List (List S37)) (AN : Option Addr) (cN : Nat) (N : List (List Int)) (a s : Int) (r : Int) (w : World)
  (hn : Kd.C (Kd.slice 3 (Kd.int .i64)) w AN N.length N) (h : states_Go.f l0 l1 l2 l3 st K N a s = some r) :
  Calls Tryd.prog 25 #[.agg #[.slice A0 l0.length c0, .slice A1 l1.length c1, .slice A2 l2.length c2, .slice A3 l3.length c3, .int .i64 st], .agg #[.slice AK K.length cK, .slice AN N.length cN], .int .i64 a, .int .i64 s] w fun e w' => e = .returned (.int .i64 r) ∧ Below w.heap.size w w' := by
 have hu27 := Tryd.underlying27
 have hu49 := Tryd.underlying49
 rw [go_f] at h
 have HN := Aside0.mk hn
 have HH := Aside0.mk h
 clear hn h
 go_enter Tryd.func25, Tryd.ntmps25
 go_upto_region 1 with fail
 have B0 := Aside0.mk (blk_alloc (blk_new w (Obj.cells #[.slice A0 l0.length c0, .slice A1 l1.length c1, .slice A2 l2.length c2, .slice A3 l3.length c3, .int .i64 st] 27)) (Obj.cells #[.slice AK K.length cK, .slice AN N.length cN] 49))
 have B1 := Aside0.mk (blk_new (w.alloc (Obj.cells #[.slice A0 l0.length c0, .slice A1 l1.length c1, .slice A2 l2.length c2, .slice A3 l3.length c3, .int .i64 st] 27)) (Obj.cells #[.slice AK K.length cK, .slice AN N.length cN] 49))
 rw [World.size_alloc] at B1
 have HB := Aside0.mk (below_alloc (below_alloc (Below.refl w.heap.size w) (Obj.cells #[.slice A0 l0.length c0, .slice A1 l1.length c1, .slice A2 l2.length c2, .slice A3 l3.length c3, .int .i64 st] 27)) (Obj.cells #[.slice AK K.length cK, .slice AN N.length cN] 49))
 generalize (w.alloc (Obj.cells #[.slice A0 l0.length c0, .slice A1 l1.length c1, .slice A2 l2.length c2, .slice A3 l3.length c3, .int .i64 st] 27)).alloc (Obj.cells #[.slice AK K.length cK, .slice AN N.length cN] 49) = w1 at *
 obtain ⟨y0, y1, y2, y3, y4⟩ := five5 B0.out
 have z0 : w1.cell? ⟨w.heap.size + 1, 0, none⟩ = some (.slice AK K.length cK) := blk_cell B1.out 0
 have z1 : w1.cell? ⟨w.heap.size + 1, 1, none⟩ = some (.slice AN N.length cN) := blk_cell B1.out 1
 have h := HH.out
 clear HH
 -- by the symbol: the place q, or none
 by_cases hs : s < 0
 rotate_left
 by_cases h0 : s ≥ (l0.length : Int)
 ·rw [if_neg hs, if_pos h0] at h
  obtain rfl := Option.some.inj h
  have e1 : decide (s < 0) = false := decide_eq_false hs
  have e2 : decide ((l0.length : Int) ≤ s) = true := decide_eq_true h0
  go_wp2_with fail
  go_ret
  exact ⟨rfl, HB.out⟩
 rw [if_neg hs, if_neg h0] at h
 have e1 : decide (s < 0) = false := decide_eq_false hs
 have e2 : decide ((l0.length : Int) ≤ s) = false := decide_eq_false h0
 go_upto_region 6 with fail
 clear e1 e2 hs h0
 generalize s = q at *
 rotate_left
 rw [if_pos hs] at h
 have e1 : decide (s < 0) = true := decide_eq_true hs
 have ew := i64_w (-1 - s)
 have ew2 := i64_w ((l0.length : Int) + wrap64 ((-1) - s))
 go_upto_region 6 with fail
 clear ew ew2 e1
 generalize wrap64 ((l0.length : Int) + (wrap64 ((-1) - s))) = q at *
 all_goals
  unfold goF at h
  by_cases k1 : a < 0
  ·rw [if_pos k1] at h
   obtain rfl := Option.some.inj h
   have f1 : decide (a < 0) = true := decide_eq_true k1
   clear k1
   go_wp2_with fail
   go_ret
   exact ⟨rfl, HB.out⟩
  ·rw [if_neg k1] at h
   have f1 : decide (a < 0) = false := decide_eq_false k1
   by_cases k2 : a ≥ (N.length : Int)
   ·rw [if_pos k2] at h
    obtain rfl := Option.some.inj h
    have f2 : decide ((N.length : Int) ≤ a) = true := decide_eq_true k2
    clear k1 k2
    go_wp2_with fail
    go_ret
    exact ⟨rfl, HB.out⟩
   ·rw [if_neg k2] at h
    have f2 : decide ((N.length : Int) ≤ a) = false := decide_eq_false k2
    by_cases k3 : q < 0
    ·rw [if_pos k3] at h
     obtain rfl := Option.some.inj h
     have f3 : decide (q < 0) = true := decide_eq_true k3
     clear k1 k2 k3
     go_wp2_with fail
     go_ret
     exact ⟨rfl, HB.out⟩
    ·rw [if_neg k3] at h
     have f3 : decide (q < 0) = false := decide_eq_false k3
     have p0 : 0 ≤ a := by omega
     have p1 : a < (N.length : Int) := by omega
     obtain ⟨ad, Ar, cr, rfl, hx, hl, hi⟩ := at_L17 (Kd.C_below HN.out HB.out) a p0 p1
     generalize rd_L17 N a = row at *
     by_cases k4 : q ≥ (row.length : Int)
     ·rw [if_pos k4] at h
      obtain rfl := Option.some.inj h
      have f4 : decide ((row.length : Int) ≤ q) = true := decide_eq_true k4
      clear k1 k2 k3 k4
      go_wp2_with fail
      go_ret
      exact ⟨rfl, HB.out⟩
     ·rw [if_neg k4] at h
      obtain rfl := Option.some.inj h
      have f4 : decide ((row.length : Int) ≤ q) = false := decide_eq_false k4
      have q0 : 0 ≤ q := by omega
      have q1 : q < (row.length : Int) := by omega
      obtain ⟨ad2, rfl, hx2⟩ := Kd.at_int hi q q0 q1
      clear k1 k2 k3 k4 hi hl
      go_wp2_with fail
      go_ret
      exact ⟨rfl, HB.out⟩
theorem states_Go.calls (A0_0 : Option Addr) (c0_0 : Nat) (l0_0 : List (S82)) (A0_1 : Option Addr) (c0_1 : Nat) (l0_1 : List (S101)) (A0_2 : Option Addr) (c0_2 : Nat) (l0_2 : List ByteArray) (A0_3 : Option Addr) (c0_3 : Nat) (l0_3 : List (S64)) (a0_4 : Int) (A1_0 : Option Addr) (c1_0 : Nat) (l1_0 : List (List (S37))) (A1_1 : Option Addr) (c1_1 : Nat) (l1_1 : List (List Int)) (a2 : Int) (a3 : Int) (r : Int) (w : World) (hr0_0 : Kd.C k82 w A0_0 l0_0.length l0_0) (hc0_0 : l0_0.length ≤ c0_0) (hr0_1 : Kd.C k101 w A0_1 l0_1.length l0_1) (hc0_1 : l0_1.length ≤ c0_1) (hr0_2 : Kd.C Kd.string w A0_2 l0_2.length l0_2) (hc0_2 : l0_2.length ≤ c0_2) (hr0_3 : Kd.C k64 w A0_3 l0_3.length l0_3) (hc0_3 : l0_3.length ≤ c0_3) (hr1_0 : Kd.C (Kd.slice 37 k37) w A1_0 l1_0.length l1_0) (hc1_0 : l1_0.length ≤ c1_0) (hr1_1 : Kd.C (Kd.slice 3 (Kd.int .i64)) w A1_1 l1_1.length l1_1) (hc1_1 : l1_1.length ≤ c1_1) (h : states_Go.f l0_0 l0_1 l0_2 l0_3 a0_4 l1_0 l1_1 a2 a3 = some r) :
  Calls Tryd.prog 25 #[.agg #[.slice A0_0 l0_0.length c0_0, .slice A0_1 l0_1.length c0_1, .slice A0_2 l0_2.length c0_2, .slice A0_3 l0_3.length c0_3, .int .i64 a0_4], .agg #[.slice A1_0 l1_0.length c1_0, .slice A1_1 l1_1.length c1_1], .int .i64 a2, .int .i64 a3] w fun e w' => e = .returned (.int .i64 r) ∧ Below w.heap.size w w' :=
 go_walk A0_0 c0_0 l0_0 A0_1 c0_1 l0_1 A0_2 c0_2 l0_2 A0_3 c0_3 l0_3 a0_4 A1_0 c1_0 l1_0 A1_1 c1_1 l1_1 a2 a3 r w hr1_1 h
def syntagmlaw14_works.f  : Option (Bool) := (some (([(⟨(⟨#[97]⟩ : ByteArray), (⟨#[]⟩ : ByteArray), false, 0⟩ : S82)] : List (S82)) : List (S82))).bind fun y170 => ((some (([(⟨#[83]⟩ : ByteArray)] : List ByteArray) : List ByteArray)).bind fun y173 => ((some (([(⟨(⟨#[112]⟩ : ByteArray), 0, (([0] : List Int)), 0⟩ : S64)] : List (S64)) : List (S64))).bind fun y179 => ((states_Build.f y170 ([] : List (S101)) y173 y179 0).bind fun bt183 => ((states_Close.f y170 ([] : List (S101)) y173 y179 0 (([(⟨(-1), 0⟩ : S37)] : List (S37)))).bind fun t194 => ((states_Step.f y170 ([] : List (S101)) y173 y179 0 t194 0).bind fun t197 => ((states_Behind.f y170 ([] : List (S101)) y173 y179 0 0 0).bind fun bt200 => (if bt183.2.2 = 0 then (if (bt183.1.length : Int) = 3 then (if (t194.length : Int) = 2 then (if (t197.length : Int) = 1 then (if 0 < (t197.length : Int) then (if (((rd_T37 t197 0).f0) == 0 && (((rd_T37 t197 0).f1) == 1)) = true then (if bt200.2 = true then (if bt200.1 = 0 then ((states_Go.f y170 ([] : List (S101)) y173 y179 0 bt183.1 bt183.2.1 0 0).bind fun t203 => (if t203 = 1 then ((states_Go.f y170 ([] : List (S101)) y173 y179 0 bt183.1 bt183.2.1 0 (-1)).bind fun t204 => (if t204 = 2 then ((states_Go.f y170 ([] : List (S101)) y173 y179 0 bt183.1 bt183.2.1 1 0).bind fun t205 => (some (t205 == (-1)))) else (some false))) else (some false))) else (some false)) else (some false)) else (some false)) else (none)) else (some false)) else (some false)) else (some false)) else (some false))))))))
section
open St
/-! ### told by what can be reckoned -/
def risenC (l : List Itm) : List Itm := riseR l l.length []
theorem risen_c (l : List Itm) : risen l = risenC l := (risen_one (riseR_all l)).symm
def SgC (g : Gr) (c : List Itm) (s : Int) : List Itm := risenC (stepL g (risenC (closedL g c)) s)
theorem Sg_c (g : Gr) : Sg g = SgC g := by
 funext c s
 unfold Sg SgC
 rw [risen_c, risen_c]
theorem built_c (T S : Nat) (g : Gr) : builtL T S g = buildL (SgC g) (symsL T S) 2000 2003 0 [[(-1, 0)]] [] := by
 unfold builtL
 rw [Sg_c]

def e0 : List S82 := [(⟨(⟨#[97]⟩ : ByteArray), (⟨#[]⟩ : ByteArray), false, 0⟩ : S82)]
def e2 : List ByteArray := [(⟨#[83]⟩ : ByteArray)]
def e3 : List S64 := [(⟨(⟨#[112]⟩ : ByteArray), 0, (([0] : List Int)), 0⟩ : S64)]
theorem e_valid : validB e0 [] e2 e3 0 = true := by kernel_rfl
theorem e_okP : e3.all okP = true := by kernel_rfl
theorem e_build : states_Build.f e0 [] e2 e3 0 = some ([[⟨-1, 0⟩], [⟨0, 1⟩], [⟨-1, 1⟩]], [[1, 2], [-1, -1], [-1, -1]], 0) := by
 unfold states_Build.f
 rw [if_pos e_valid, if_pos e_okP, built_c]
 kernel_rfl
theorem e_close : states_Close.f e0 [] e2 e3 0 [⟨-1, 0⟩] = some [⟨-1, 0⟩, ⟨0, 0⟩] := by
 unfold states_Close.f inst_Valid.f states_closed.f
 rw [e_valid, Option.bind_some, if_pos rfl, if_pos ⟨rfl, e_okP, Nat.le_of_ble_eq_true rfl, rfl⟩, risen_c]
 kernel_rfl
theorem C_one {α : Type} {d : Kd α} {W : World} {g t : Nat} {x : α} {c : List Value} (hb : W.heap[g]? = some (.cells c.toArray t (0, 0))) (hK : d.K W x c) : d.C W (some ⟨g, 0, none⟩) 1 [x] := by
 refine ⟨rfl, by decide, fun _ => ⟨⟨g, 0, none⟩, rfl, fun i p hi => ?_⟩⟩
 have h0 : i = 0 := by
  cases i with
  | zero => rfl
  | succ i => simp at hi
 subst h0
 have hp : x = p := by simpa using hi
 subst hp
 refine ⟨c, d.K_len hK, hK, fun j u hu => ?_⟩
 have e : (⟨g, 0, none⟩ : Addr).add (0 * d.sz + j) = ⟨g, j, none⟩ := by
  rw [Nat.zero_mul, Nat.zero_add]
  unfold Addr.add
  simp
  exact fun h => h.symm
 rw [e, blk_cell hb j]
 simpa using hu
/-- The example's grammar in memory. -/
structure Ge (n : Nat) (W : World) : Prop where
 c0 : W.heap[n]? = some (.cells #[.string ⟨#[97]⟩, .string ⟨#[]⟩, .bool false, .int .i64 0] 82 (0, 0))
 c1 : W.heap[n + 1]? = some (.cells #[.string ⟨#[83]⟩] 9 (0, 0))
 c2 : W.heap[n + 1 + 1]? = some (.cells #[.int .i64 0] 29 (0, 0))
 c3 : W.heap[n + 1 + 1 + 1]? = some (.cells #[.string ⟨#[112]⟩, .int .i64 0, .slice (some ⟨n + 1 + 1, 0, none⟩) 1 1, .int .i64 0] 64 (0, 0))
 c4 : W.heap[n + 1 + 1 + 1 + 1]? = some (.cells #[.slice (some ⟨n, 0, none⟩) 1 1, .slice none 0 0, .slice (some ⟨n + 1, 0, none⟩) 1 1, .slice (some ⟨n + 1 + 1 + 1, 0, none⟩) 1 1, .int .i64 0] 27 (0, 0))
abbrev aE (n : Nat) : Value := .agg #[.slice (some ⟨n, 0, none⟩) 1 1, .slice none 0 0, .slice (some ⟨n + 1, 0, none⟩) 1 1, .slice (some ⟨n + 1 + 1 + 1, 0, none⟩) 1 1, .int .i64 0]
theorem Ge.below {n : Nat} {W W1 : World} (h : Ge n W) (hb : Below W.heap.size W W1) : Ge n W1 :=
 ⟨blk_below h.c0 hb, blk_below h.c1 hb, blk_below h.c2 hb, blk_below h.c3 hb, blk_below h.c4 hb⟩
theorem Ge.r0 {n : Nat} {W : World} (h : Ge n W) : Kd.C k82 W (some ⟨n, 0, none⟩) e0.length e0 := C_one (c := [.string ⟨#[97]⟩, .string ⟨#[]⟩, .bool false, .int .i64 0]) h.c0 (k82_mk W _)
theorem Ge.r1 {n : Nat} {W : World} (h : Ge n W) : Kd.C Kd.string W (some ⟨n + 1, 0, none⟩) e2.length e2 := C_one (c := [.string ⟨#[83]⟩]) h.c1 rfl
theorem Ge.r3 {n : Nat} {W : World} (h : Ge n W) : Kd.C k64 W (some ⟨n + 1 + 1 + 1, 0, none⟩) e3.length e3 :=
 C_one (c := [.string ⟨#[112]⟩, .int .i64 0, .slice (some ⟨n + 1 + 1, 0, none⟩) 1 1, .int .i64 0]) h.c3 (k64_mk W (⟨⟨#[112]⟩, 0, [0], 0⟩ : S64) (by decide) (C_one (c := [.int .i64 0]) h.c2 rfl))
theorem Ge.start (w : World) : Ge w.heap.size (((((w.alloc (Obj.cells #[.string ⟨#[97]⟩, .string ⟨#[]⟩, .bool false, .int .i64 0] 82)).alloc (Obj.cells #[.string ⟨#[83]⟩] 9)).alloc (Obj.cells #[.int .i64 0] 29)).alloc (Obj.cells #[.string ⟨#[112]⟩, .int .i64 0, .slice (some ⟨w.heap.size + 1 + 1, 0, none⟩) 1 1, .int .i64 0] 64)).alloc (Obj.cells #[.slice (some ⟨w.heap.size, 0, none⟩) 1 1, .slice none 0 0, .slice (some ⟨w.heap.size + 1, 0, none⟩) 1 1, .slice (some ⟨w.heap.size + 1 + 1 + 1, 0, none⟩) 1 1, .int .i64 0] 27)) := by
 have new : ∀ (W : World) (o : Obj) (n : Nat) (r : Option Obj), W.heap.size = n → (W.alloc o).heap[W.heap.size]? = r → (W.alloc o).heap[n]? = r := fun W o n r e h => e ▸ h
 refine ⟨?_, ?_, ?_, ?_, ?_⟩
 ·exact blk_alloc (blk_alloc (blk_alloc (blk_alloc (blk_new w _) _) _) _) _
 ·exact blk_alloc (blk_alloc (blk_alloc (new _ _ _ _ (by simp) (blk_new _ _)) _) _) _
 ·exact blk_alloc (blk_alloc (new _ _ _ _ (by simp) (blk_new _ _)) _) _
 ·exact blk_alloc (new _ _ _ _ (by simp) (blk_new _ _)) _
 ·exact new _ _ _ _ (by simp) (blk_new _ _)
def kE : List (List S37) := [[⟨-1, 0⟩], [⟨0, 1⟩], [⟨-1, 1⟩]]
def nE : List (List Int) := [[1, 2], [-1, -1], [-1, -1]]
theorem build_e {n : Nat} {W : World} (h : Ge n W) (hG : GTab W) : Calls Tryd.prog 23 #[aE n] W fun e w' => ∃ A c A' c', e = .returned (.tuple #[.agg #[.slice A 3 c, .slice A' 3 c'], .int .i64 0]) ∧ (3 ≤ c ∧ Kd.C (Kd.slice 37 k37) w' A 3 kE) ∧ (3 ≤ c' ∧ Kd.C (Kd.slice 3 (Kd.int .i64)) w' A' 3 nE) ∧ Below W.heap.size W w' := by
 refine (states_Build.calls _ 1 e0 none 0 [] _ 1 e2 _ 1 e3 0 _ _ _ W hG h.r0 (Nat.le_refl _) (Kd.C_nil _ _) (Nat.le_refl _) h.r1 (Nat.le_refl _) h.r3 (Nat.le_refl _) e_build).mono ?_
 rintro e w' ⟨v0, v1, rfl, h0, h1, hb⟩
 obtain ⟨A, c, rfl, l0, r0⟩ := Kd.S_reads h0
 obtain ⟨A', c', rfl, l1, r1⟩ := Kd.S_reads h1
 exact ⟨A, c, A', c', rfl, ⟨l0, r0⟩, ⟨l1, r1⟩, hb⟩
end
end Go.Proofs.YtclollnicbcooaaDoor.P
end

section
set_option linter.unusedVariables false
set_option linter.unusedSimpArgs false
namespace Go.Proofs.YtclollnicbcooaaDoor.P
open Go.RowKit Go.Lib Go.Sort Go.Proofs.YtclollnicbcooaaDoorW.PrintWords Go.Proofs.YtclollnicbcooaaDoorW.PrintLast Go.Proofs.YtclollnicbcooaaDoorW.PrintMore St Base
attribute [local go_sem] Oper.semAt_some

def rightF (st : Int) (l3 : List S64) (p : Int) : Option (List Int) := if p < 0 then some [wrap64 ((-1) - st)] else if p < (l3.length : Int) then some (rd_T64 l3 p).f2 else none
theorem jL_ (w : World) (a : Addr) {u : Value} (h : w.cell? a = some u) : a.block < w.heap.size := World.block_lt_of_cell? w a h
set_option maxHeartbeats 4000000 in
set_option maxRecDepth 100000 in
theorem right_calls {w : World} {B : Nat} {A0 A1 A2 A3 : Option Addr} {c0 c1 c2 c3 : Nat} {l0 : List S82} {l1 : List S101} {l2 : List ByteArray} {l3 : List S64} {st : Int} {Kv Nv : Value} {F : Spt → Int} {q : List Spt} {vq : Value} {ok : Nat → Prop} {W : World}
  (hr3 : Kd.C k64 w A3 l3.length l3) (h : Lk w B (.slice A0 l0.length c0) (.slice A1 l1.length c1) (.slice A2 l2.length c2) (.slice A3 l3.length c3) (.int .i64 st) Kv Nv F q vq ok W) (p : Int) (r : List Int) (hp : rightF st l3 p = some r) :
  Calls Tryd.prog 90 #[.pointer (some ⟨B + 3, 0, none⟩), .int .i64 p] W fun e w' => ∃ A c, e = .returned (.slice A r.length c) ∧ r.length ≤ c ∧ Kd.C (Kd.int .i64) w' A r.length r ∧ (p < 0 ∨ Kd.C (Kd.int .i64) w A r.length r) ∧ RowKit.Below W.heap.size W w' := by
 have hu126 := Tryd.underlying126
 have hu27 := Tryd.underlying27
 have hu64 := Tryd.underlying64
 have hu62 := Tryd.underlying62
 have y3 := blk_cell h.bx 3
 have y4 := blk_cell h.bx 4
 replace y3 : W.cell? ⟨B + 3, 3, none⟩ = some (.slice A3 l3.length c3) := y3
 replace y4 : W.cell? ⟨B + 3, 4, none⟩ = some (.int .i64 st) := y4
 have H := Aside0.mk h
 have HR3 := Aside0.mk (Kd.C_below hr3 h.hb)
 have HR := Aside0.mk hr3
 clear h hr3
 unfold rightF at hp
 by_cases hn : p < 0
 ·have hd : decide (p < 0) = true := decide_eq_true hn
  rw [if_pos hn] at hp
  obtain rfl := Option.some.inj hp
  have HN := Aside0.mk hn
  clear hn hp
  go_enter Tryd.func90, Tryd.ntmps90
  go_wp2
  go_ret
  exact ⟨_, _, rfl, Nat.le_refl _, C_one (blk_new W _) rfl, .inl HN.out, below_alloc (RowKit.Below.refl _ _) _⟩
 ·have hd : decide (p < 0) = false := decide_eq_false hn
  rw [if_neg hn] at hp
  split at hp
  ·rename_i hlt
   obtain rfl := Option.some.inj hp
   obtain ⟨ad, A, c, e, hx0, hx1, hx2, hx3, hle, hC⟩ := at_T64 HR3.out p (by omega) hlt
   obtain ⟨ad', A', c', e', hx0', hx1', hx2', hx3', hle', hC'⟩ := at_T64 HR.out p (by omega) hlt
   have hd2 : decide (p < (l3.length : Int)) = true := decide_eq_true hlt
   have hd3 : decide (0 ≤ p) = true := decide_eq_true (by omega)
   subst e
   obtain rfl := Option.some.inj e'
   have hcell : ∀ a v, w.cell? a = some v → W.cell? a = some v := fun a v hv => by rw [H.out.hb.cell (jL_ w a hv)]; exact hv
   have e2 := (hcell _ _ hx2').symm.trans hx2
   have HX := Aside0.mk (Option.some.inj e2)
   have HC := Aside0.mk hC
   have HC' := Aside0.mk hC'
   have HL := Aside0.mk hle
   clear hcell e2 hx0' hx1' hx2' hx3' hC hC' hle hle' hp e'
   have h0 : 0 ≤ p := by omega
   go_enter Tryd.func90, Tryd.ntmps90
   go_wp2
   go_ret
   refine ⟨_, _, rfl, HL.out, HC.out, .inr ?_, RowKit.Below.refl _ _⟩
   have := HX.out
   injection this with h1 h2 h3
   subst h1
   exact HC'.out
  ·cases hp
end Go.Proofs.YtclollnicbcooaaDoor.P
end

section
set_option linter.unusedVariables false
set_option linter.unusedSimpArgs false
namespace Go.Proofs.YtclollnicbcooaaDoor.P
open Go.RowKit Go.Lib Go.Sort Go.Proofs.YtclollnicbcooaaDoorW.PrintWords Go.Proofs.YtclollnicbcooaaDoorW.PrintLast Go.Proofs.YtclollnicbcooaaDoorW.PrintMore St Base

abbrev Edg := Spt × List Int
def restF (st : Int) (l3 : List S64) (x : Itm) : Option (List Int) := if 0 ≤ x.2 then (rightF st l3 x.1).bind fun r => if x.2 + 1 ≤ (r.length : Int) then some (r.drop (x.2.toNat + 1)) else none else none
def sortsE (l3 : List S64) (i sym : Int) (r : List Int) (j : Nat) : List Edg := ((List.range j).filter fun (p : Nat) => (rd_T64 l3 p).f1 == IntKind.i64.wrap (-1 - sym)).map fun (p : Nat) => ((i, ((p : Int), 0)), r)
def edgesF (l0 : List S82) (l1 : List S101) (l2 : List ByteArray) (l3 : List S64) (st : Int) (K : List (List S37)) (N : List (List Int)) (s : Spt) : Option (List Edg) :=
 (states_Behind.f l0 l1 l2 l3 st s.2.1 s.2.2).bind fun b => if b.2 = true then (states_Go.f l0 l1 l2 l3 st K N s.1 b.1).bind fun n => (if b.1 < 0 then (restF st l3 s.2).map fun r => (((n, (s.2.1, IntKind.i64.wrap (s.2.2 + 1))), []) :: sortsE l3 s.1 b.1 r l3.length) else some [((n, (s.2.1, IntKind.i64.wrap (s.2.2 + 1))), [])]) else some []

/-- An edge's cells; its rest is read where the whole began, or is empty. -/
def ER (w : World) (e : Edg) (c : List Value) : Prop := ∃ A k, c = [.int .i64 e.1.1, .int .i64 e.1.2.1, .int .i64 e.1.2.2, .slice A e.2.length k] ∧ e.2.length ≤ k ∧ (e.2 = [] ∨ Kd.C (Kd.int .i64) w A e.2.length e.2)
structure Er (w : World) (b : Nat) (ok : Nat → Prop) (v : Value) (es : List Edg) (W : World) : Prop where
 ex : ∃ rows, rows.length = es.length ∧ (∀ (j : Nat) e c, es[j]? = some e → rows[j]? = some c → ER w e c) ∧ (Kd.raw 4).R 133 W b ok v rows
section
variable {w : World} {b : Nat} {ok : Nat → Prop} {v : Value} {es : List Edg} {W W1 : World}
theorem Er.below (h : Er w b ok v es W) (hb : RowKit.Below W.heap.size W W1) : Er w b ok v es W1 := by
 obtain ⟨rows, h1, h2, h3⟩ := h.ex
 exact ⟨⟨rows, h1, h2, Kd.R_below h3 hb⟩⟩
theorem Er.nil : Er w b ok (.slice none 0 0) [] W := ⟨⟨[], rfl, fun j e c h => by simp at h, Kd.R_nil _ _ _ _ _⟩⟩
theorem Er.slice (h : Er w b ok v es W) : ∃ A c, v = .slice A es.length c ∧ es.length ≤ c := by
 obtain ⟨rows, h1, h2, h3⟩ := h.ex
 obtain ⟨A, c, e, hc, _⟩ := Kd.R_reads h3
 rw [h1] at e hc
 exact ⟨A, c, e, hc⟩
theorem Er.base (h : Er w b ok v es W) : ∀ k, v.ownBlock = some k → b ≤ k := by
 obtain ⟨rows, h1, h2, h3⟩ := h.ex
 exact Kd.R_base h3
theorem Er.lower {b' : Nat} (h : Er w b ok v es W) (hb : b' ≤ b) : Er w b' ok v es W := by
 obtain ⟨rows, h1, h2, h3⟩ := h.ex
 exact ⟨⟨rows, h1, h2, Kd.R_lower h3 hb⟩⟩
theorem Er.mono {ok' : Nat → Prop} (h : Er w b ok v es W) (hk : ∀ k, ok k → ok' k) : Er w b ok' v es W := by
 obtain ⟨rows, h1, h2, h3⟩ := h.ex
 exact ⟨⟨rows, h1, h2, Kd.R_mono h3 hk⟩⟩
theorem Er.step (h : Er w b ok v es W) (hm : ∀ k, some k = v.ownBlock → k < W.heap.size → W1.heap[k]? = W.heap[k]?) : Er w b ok v es W1 := by
 obtain ⟨rows, h1, h2, h3⟩ := h.ex
 exact ⟨⟨rows, h1, h2, Kd.R_mono (Kd.R_step (Kd.R_tight2 rfl h3) (fun k hk hlt => hm k hk.1 hlt)) (fun k hk => hk.2)⟩⟩
/-- The row of one edge, made just now. -/
theorem Er.one (e : Edg) (W : World) (A : Option Addr) (k : Nat) (hk : e.2.length ≤ k) (hr : e.2 = [] ∨ Kd.C (Kd.int .i64) w A e.2.length e.2) (hb : b ≤ W.heap.size) : Er w b (fun k => b ≤ k) (.slice (some ⟨W.heap.size, 0, none⟩) 1 1) [e] (W.alloc (Obj.cells #[.int .i64 e.1.1, .int .i64 e.1.2.1, .int .i64 e.1.2.2, .slice A e.2.length k] 133)) := by
 have hown := World.ownsRow_lit (base := b) (e := 133) (size := 4) W #[.int .i64 e.1.1, .int .i64 e.1.2.1, .int .i64 e.1.2.2, .slice A e.2.length k] 1 hb (by decide) rfl
 refine ⟨⟨[[.int .i64 e.1.1, .int .i64 e.1.2.1, .int .i64 e.1.2.2, .slice A e.2.length k]], rfl, fun j e' c h1 h2 => ?_, fun k' hk' => ?_, _, hown, ?_⟩⟩
 ·cases j with
  | zero =>
   simp at h1 h2
   subst h1
   subst h2
   exact ⟨A, k, rfl, hk, hr⟩
  | succ j => simp at h1
 ·have : W.heap.size = k' := by simpa [Value.ownBlock] using hk'
  omega
 ·refine ⟨rfl, fun j p hp => ?_⟩
  cases j with
  | zero =>
   simp at hp
   subst hp
   refine ⟨rfl, rfl, fun u hu => ?_⟩
   replace hu : u ∈ [Value.int .i64 e.1.1, .int .i64 e.1.2.1, .int .i64 e.1.2.2, .slice A e.2.length k] := hu
   simp at hu
   rcases hu with rfl | rfl | rfl | rfl <;> rfl
  | succ j => simp at hp
/-- An edge's cells where they lie. -/
theorem Er.at_ (h : Er w b ok v es W) (j : Nat) {e : Edg} (hj : es[j]? = some e) : ∃ (ad : Addr) (cap : Nat) (A : Option Addr) (k : Nat), v = .slice (some ad) es.length cap ∧ W.cell? (ad.add (j * 4)) = some (.int .i64 e.1.1) ∧ W.cell? (ad.add (j * 4 + 1)) = some (.int .i64 e.1.2.1) ∧ W.cell? (ad.add (j * 4 + 2)) = some (.int .i64 e.1.2.2) ∧ W.cell? (ad.add (j * 4 + 3)) = some (.slice A e.2.length k) ∧ e.2.length ≤ k ∧ (e.2 = [] ∨ Kd.C (Kd.int .i64) w A e.2.length e.2) := by
 obtain ⟨rows, h1, h2, h3⟩ := h.ex
 obtain ⟨A0, cap, ev, hc, hC⟩ := Kd.R_reads h3
 obtain ⟨hlt, _⟩ := List.getElem?_eq_some_iff.1 hj
 obtain ⟨ad, c, e1, hl, hK, hcell⟩ := Kd.C_get hC [] (j : Int) (by omega) (by omega)
 rw [Int.toNat_natCast] at hK hcell
 have hrow : rows[j]? = some c := by
  have h5 : j < rows.length := by omega
  have hK1 := hK.1
  rw [List.getD_eq_getElem?_getD, List.getElem?_eq_getElem h5] at hK1
  rw [List.getElem?_eq_getElem h5, hK1]; rfl
 obtain ⟨A, k, ec, hk, hr⟩ := h2 j e c hj hrow
 subst ec
 refine ⟨ad, cap, A, k, by rw [ev, e1, h1], hcell 0 _ rfl, hcell 1 _ rfl, hcell 2 _ rfl, hcell 3 _ rfl, hk, hr⟩
end
theorem info133 : (Tryd.prog.info? 133).map (fun i => (i.zero, i.size, i.bytes)) = some (some (.agg #[.int .i64 0, .int .i64 0, .int .i64 0, .slice none 0 0]), 4, 48) := by kernel_rfl
/-- An edge laid to the row, as an operation. -/
theorem append_edge {w : World} {b : Nat} {v : Value} {es : List Edg} {W : World} (h : Er w b (fun k => b ≤ k) v es W) (e : Edg) (A : Option Addr) (k : Nat) (hk : e.2.length ≤ k) (hr : e.2 = [] ∨ Kd.C (Kd.int .i64) w A e.2.length e.2) (hb : b ≤ W.heap.size) (hl : es.length ≤ 1000000)
  (ops : Array Oper) (o : Oper) (ac : Act) (Q : Exit → Act → World → Prop) (Kc : Act → World → Prop) (hw : Region.wanted o (yielded ops ac.tmps) = true)
  (ho : o.op = .call { callee := .builtin .append, args := #[.tmp 71, .tmp 88], argTypes := #[130, 130] }) (hs : ac.eval (.tmp 71) = v) (hx : ac.eval (.tmp 88) = .slice (some ⟨W.heap.size, 0, none⟩) 1 1)
  (hkc : ∀ v1 w1, Er w b (fun k => b ≤ k) v1 (es ++ [e]) w1 → W.grownBy w1 v.ownBlock → (v1.ownBlock = v.ownBlock ∨ ∃ b, v1.ownBlock = some b ∧ W.heap.size ≤ b) → Kc (ac.put o.dst v1) w1) :
  if Region.wanted o (yielded ops ac.tmps) = true then Oper.wp Tryd.prog o ac (W.alloc (.cells #[.int .i64 e.1.1, .int .i64 e.1.2.1, .int .i64 e.1.2.2, .slice A e.2.length k] 133)) Kc Q else Kc (ac.put o.dst undef) (W.alloc (.cells #[.int .i64 e.1.1, .int .i64 e.1.2.1, .int .i64 e.1.2.2, .slice A e.2.length k] 133)) := by
 obtain ⟨rows, h1, h2, h3⟩ := h.ex
 refine Kd.R_append_step (Kd.raw 4) (w0 := W) b hw (.tmp 71) (.tmp 88) 130 133 _ 48 ho Tryd.underlying130 info133 rfl (by decide) (by decide) v rows [.int .i64 e.1.1, .int .i64 e.1.2.1, .int .i64 e.1.2.2, .slice A e.2.length k] [.int .i64 e.1.1, .int .i64 e.1.2.1, .int .i64 e.1.2.2, .slice A e.2.length k] (fun k => b ≤ k) (fun _ => False) hs hx ⟨rfl, rfl, fun u hu => by simp at hu; rcases hu with rfl | rfl | rfl | rfl <;> rfl⟩ (fun _ h => h.elim) (fun k hk => by omega) h3 (RowKit.Below.refl _ _) hb (by omega) ?_
 intro v1 w1 hR hB hg hat
 refine hkc v1 w1 ⟨⟨_, ?_, ?_, hR⟩⟩ hg hat
 ·simp [h1]
 ·intro j e' c hj hc
  rcases Nat.lt_or_ge j es.length with hlt | hge
  ·rw [List.getElem?_append_left hlt] at hj
   rw [List.getElem?_append_left (by omega)] at hc
   exact h2 j e' c hj hc
  ·rw [List.getElem?_append_right hge] at hj
   rw [List.getElem?_append_right (by omega)] at hc
   have hz : j - es.length = 0 := by
    have := (List.getElem?_eq_some_iff.1 hj).1
    simp at this
    omega
   rw [h1] at hc
   rw [hz] at hj hc
   simp at hj hc
   subst hj
   subst hc
   exact ⟨A, k, rfl, hk, hr⟩
end Go.Proofs.YtclollnicbcooaaDoor.P
end

section
set_option linter.unusedVariables false
set_option linter.unusedSimpArgs false
namespace Go.Proofs.YtclollnicbcooaaDoor.P
open Go.RowKit Go.Lib Go.Sort Go.Proofs.YtclollnicbcooaaDoorW.PrintWords Go.Proofs.YtclollnicbcooaaDoorW.PrintLast Go.Proofs.YtclollnicbcooaaDoorW.PrintMore St Base
attribute [local go_sem] Oper.semAt_some
theorem right_max {w : World} {A3 : Option Addr} {l3 : List S64} {st : Int} (hr3 : Kd.C k64 w A3 l3.length l3) {p : Int} {r : List Int} (h : rightF st l3 p = some r) : r.length ≤ 9223372036854775807 := by
 unfold rightF at h
 split at h
 ·obtain rfl := Option.some.inj h
  simp
 ·split at h
  ·rename_i hn hlt
   obtain rfl := Option.some.inj h
   obtain ⟨ad, A, c, e, hx0, hx1, hx2, hx3, hle, hC⟩ := at_T64 hr3 p (by omega) hlt
   exact hC.2.1
  ·cases h
theorem right_neg {l3 : List S64} {st : Int} {p : Int} {r : List Int} (h : rightF st l3 p = some r) (hp : p < 0) : r.length = 1 := by
 unfold rightF at h
 rw [if_pos hp] at h
 obtain rfl := Option.some.inj h
 rfl
theorem rest_ok {w : World} {A5 : Option Addr} {c5 m : Nat} {r0 : List Int} {p : Int} (hm : m ≤ r0.length) (hl : r0.length ≤ c5) (hO : p < 0 ∨ Kd.C (Kd.int .i64) w A5 r0.length r0) (hn : p < 0 → r0.length ≤ m) :
  (r0.drop m).length ≤ c5 - m ∧ (r0.drop m = [] ∨ Kd.C (Kd.int .i64) w (if c5 = m then A5 else A5.map (·.add (m * (Kd.int .i64).sz))) (r0.drop m).length (r0.drop m)) := by
 refine ⟨by rw [List.length_drop]; omega, ?_⟩
 rcases hO with h | h
 ·exact .inl (List.drop_eq_nil_of_le (hn h))
 ·exact .inr (Kd.C_drop (m := m) h hm hl)
section
variable {w : World} {B : Nat} {A0 A1 A2 A3 AK AN : Option Addr} {c0 c1 c2 c3 cK cN : Nat} {l0 : List S82} {l1 : List S101} {l2 : List ByteArray} {l3 : List S64} {st : Int} {K : List (List S37)} {N : List (List Int)} {F : Spt → Int} {q : List Spt} {vq : Value} {ok : Nat → Prop} {W : World}
set_option maxHeartbeats 4000000 in
set_option maxRecDepth 100000 in
theorem edges_calls (hr0 : Kd.C k82 w A0 l0.length l0) (hc0 : l0.length ≤ c0) (hr1 : Kd.C k101 w A1 l1.length l1) (hc1 : l1.length ≤ c1) (hr2 : Kd.C Kd.string w A2 l2.length l2) (hc2 : l2.length ≤ c2) (hr3 : Kd.C k64 w A3 l3.length l3) (hc3 : l3.length ≤ c3)
  (hrK : Kd.C (Kd.slice 37 k37) w AK K.length K) (hcK : K.length ≤ cK) (hrN : Kd.C (Kd.slice 3 (Kd.int .i64)) w AN N.length N) (hcN : N.length ≤ cN)
  (h : Lk w B (.slice A0 l0.length c0) (.slice A1 l1.length c1) (.slice A2 l2.length c2) (.slice A3 l3.length c3) (.int .i64 st) (.slice AK K.length cK) (.slice AN N.length cN) F q vq ok W) (s : Spt) (es : List Edg) (he : edgesF l0 l1 l2 l3 st K N s = some es) (hl3 : l3.length ≤ 100000) :
  Calls Tryd.prog 76 #[.pointer (some ⟨B + 3, 0, none⟩), valS s] W fun e w' => ∃ A c, e = .returned (.slice A es.length c) ∧ Er w W.heap.size (fun k => W.heap.size ≤ k) (.slice A es.length c) es w' ∧ RowKit.Below W.heap.size W w' := by
 have H := Aside0.mk h
 have HR0 := Aside0.mk hr0
 have HR1 := Aside0.mk hr1
 have HR2 := Aside0.mk hr2
 have HR3 := Aside0.mk hr3
 have HRK := Aside0.mk hrK
 have HRN := Aside0.mk hrN
 have HC0 := Aside0.mk hc0
 have HC1 := Aside0.mk hc1
 have HC2 := Aside0.mk hc2
 have HC3 := Aside0.mk hc3
 have HCK := Aside0.mk hcK
 have HCN := Aside0.mk hcN
 have HL3 := Aside0.mk hl3
 unfold edgesF at he
 obtain ⟨⟨sym, okb⟩, hbh, he⟩ := Option.bind_eq_some_iff.1 he
 simp only at he
 have HBH := Aside0.mk hbh
 have HE := Aside0.mk he
 clear h hr0 hr1 hr2 hr3 hrK hrN hc0 hc1 hc2 hc3 hcK hcN hl3 hbh he
 have hu129 := Tryd.underlying129
 have hu126 := Tryd.underlying126
 have hu37 := Tryd.underlying37
 have hu27 := Tryd.underlying27
 have hu49 := Tryd.underlying49
 have hu62 := Tryd.underlying62
 unfold valS
 go_enter Tryd.func76, Tryd.ntmps76
 go_upto_region 1 with fail
 have BS := Aside0.mk (blk_new W (Obj.cells #[.int .i64 s.1, .int .i64 s.2.1, .int .i64 s.2.2] 129))
 have HB1 := Aside0.mk (below_alloc (RowKit.Below.refl W.heap.size W) (Obj.cells #[.int .i64 s.1, .int .i64 s.2.1, .int .i64 s.2.2] 129))
 have H1 := Aside0.mk (H.out.below (below_alloc (RowKit.Below.refl W.heap.size W) (Obj.cells #[.int .i64 s.1, .int .i64 s.2.1, .int .i64 s.2.2] 129)))
 generalize W.alloc (Obj.cells #[.int .i64 s.1, .int .i64 s.2.1, .int .i64 s.2.2] 129) = W1 at *
 obtain ⟨xb, hxb⟩ : ∃ x, x = W.heap.size := ⟨_, rfl⟩
 rw [← hxb] at BS ⊢
 have HXB := Aside0.mk hxb
 clear hxb
 have hcells : ∀ W' : World, W'.heap[xb]? = some (.cells #[.int .i64 s.1, .int .i64 s.2.1, .int .i64 s.2.2] 129 (0, 0)) → W'.heap[B + 3]? = some (.cells #[.slice A0 l0.length c0, .slice A1 l1.length c1, .slice A2 l2.length c2, .slice A3 l3.length c3, .int .i64 st, .slice AK K.length cK, .slice AN N.length cN, .map (some (B + 2)), vq] 126 (0, 0)) →
   W'.cell? ⟨xb, 0, none⟩ = some (.int .i64 s.1) ∧ W'.cell? ⟨xb, 1, none⟩ = some (.int .i64 s.2.1) ∧ W'.cell? ⟨xb, 2, none⟩ = some (.int .i64 s.2.2) ∧ W'.cell? ⟨B + 3, 0, none⟩ = some (.slice A0 l0.length c0) ∧ W'.cell? ⟨B + 3, 1, none⟩ = some (.slice A1 l1.length c1) ∧ W'.cell? ⟨B + 3, 2, none⟩ = some (.slice A2 l2.length c2) ∧ W'.cell? ⟨B + 3, 3, none⟩ = some (.slice A3 l3.length c3) ∧ W'.cell? ⟨B + 3, 4, none⟩ = some (.int .i64 st) ∧ W'.cell? ⟨B + 3, 5, none⟩ = some (.slice AK K.length cK) ∧ W'.cell? ⟨B + 3, 6, none⟩ = some (.slice AN N.length cN) := fun W' h1 h2 =>
  ⟨blk_cell h1 0, blk_cell h1 1, blk_cell h1 2, blk_cell h2 0, blk_cell h2 1, blk_cell h2 2, blk_cell h2 3, blk_cell h2 4, blk_cell h2 5, blk_cell h2 6⟩
 have HCL := Aside0.mk hcells
 clear hcells
 obtain ⟨y0, y1, y2, z0, z1, z2, z3, z4, z5, z6⟩ := HCL.out W1 BS.out H1.out.bx
 have hBe := Aside0.mk fun (W' : World) (hb : RowKit.Below w.heap.size w W') => states_Behind.calls A0 c0 l0 A1 c1 l1 A2 c2 l2 A3 c3 l3 st s.2.1 s.2.2 sym okb W' (Kd.C_below HR0.out hb) HC0.out (Kd.C_below HR1.out hb) HC1.out (Kd.C_below HR2.out hb) HC2.out (Kd.C_below HR3.out hb) HC3.out HBH.out
 go_region_held3 (fun w' => w'.cell? ⟨xb, 1, none⟩ = some (.int .i64 s.2.1) ∧ w'.cell? ⟨xb, 2, none⟩ = some (.int .i64 s.2.2) ∧ w'.cell? ⟨B + 3, 0, none⟩ = some (.slice A0 l0.length c0) ∧ w'.cell? ⟨B + 3, 1, none⟩ = some (.slice A1 l1.length c1) ∧ w'.cell? ⟨B + 3, 2, none⟩ = some (.slice A2 l2.length c2) ∧ w'.cell? ⟨B + 3, 3, none⟩ = some (.slice A3 l3.length c3) ∧ w'.cell? ⟨B + 3, 4, none⟩ = some (.int .i64 st)) (go_keep)
  (first | (go_at_call 15; refine (hBe.out _ (by first | exact H1.out.hb | exact below_drew1 H1.out.hb)).mono ?_; rintro e w2 ⟨rfl, hb2⟩; have HB2 := Aside0.mk hb2; have BS2 := Aside0.mk (blk_below (w := W1) BS.out (by first | exact hb2 | exact below_step (below_drew1 (RowKit.Below.refl _ _)) hb2)); have H2 := Aside0.mk (H1.out.below (W1 := w2) (by first | exact hb2 | exact below_step (below_drew1 (RowKit.Below.refl _ _)) hb2)); clear hb2 y0 y1 y2 z0 z1 z2 z3 z4 z5 z6; obtain ⟨y0, y1, y2, z0, z1, z2, z3, z4, z5, z6⟩ := HCL.out w2 BS2.out H2.out.bx))
 cases okb with
 | false =>
  have HEE := Aside0.mk (show [] = es by have := HE.out; rw [if_neg (by decide)] at this; exact Option.some.inj this)
  go_wp2_with fail
  go_ret
  rw [← HEE.out]
  exact ⟨none, 0, rfl, Er.nil, below_step HB1.out (by first | exact HB2.out | exact below_step (below_drew1 (RowKit.Below.refl _ _)) HB2.out)⟩
 | true =>
  have he := HE.out
  rw [if_pos rfl] at he
  obtain ⟨n, hn, he⟩ := Option.bind_eq_some_iff.1 he
  have HN := Aside0.mk hn
  replace HE := Aside0.mk he
  clear he hn hBe
  have HBW2 := Aside0.mk (below_step HB1.out (W := W1) (w2 := w2) (by first | exact HB2.out | exact below_step (below_drew1 (RowKit.Below.refl _ _)) HB2.out))
  clear HB2 H1 BS HB1 HBH
  go_upto_region 4 with fail
  have hGo := Aside0.mk fun (W' : World) (hb : RowKit.Below w.heap.size w W') => states_Go.calls A0 c0 l0 A1 c1 l1 A2 c2 l2 A3 c3 l3 st AK cK K AN cN N s.1 sym n W' (Kd.C_below HR0.out hb) HC0.out (Kd.C_below HR1.out hb) HC1.out (Kd.C_below HR2.out hb) HC2.out (Kd.C_below HR3.out hb) HC3.out (Kd.C_below HRK.out hb) HCK.out (Kd.C_below HRN.out hb) HCN.out HN.out
  have hlt : xb < w2.heap.size := blk_lt BS2.out
  have hlt2 : B + 3 < w2.heap.size := blk_lt H2.out.bx
  have ne1 : ¬ xb = w2.heap.size := Nat.ne_of_lt hlt
  have ne2 : ¬ B + 3 = w2.heap.size := Nat.ne_of_lt hlt2
  have ne3 : w2.heap.size ≠ xb := Nat.ne_of_gt hlt
  have ne4 : w2.heap.size ≠ B + 3 := Nat.ne_of_gt hlt2
  go_cut [7] from 22 to 42 (fun s7 wr => ∃ nb : Nat, s7 = .pointer (some ⟨nb, 0, none⟩) ∧ Aside0 (w2.heap.size ≤ nb ∧ wr.heap[nb]? = some (.cells #[.int .i64 n, .int .i64 s.2.1, .int .i64 (IntKind.i64.wrap (s.2.2 + 1))] 129 (0, 0)) ∧ RowKit.Below w2.heap.size w2 wr))
  case first =>
   go_region_held3 (fun w' => w'.cell? ⟨xb, 0, none⟩ = some (.int .i64 s.1) ∧ w'.cell? ⟨xb, 1, none⟩ = some (.int .i64 s.2.1) ∧ w'.cell? ⟨xb, 2, none⟩ = some (.int .i64 s.2.2) ∧ w'.cell? ⟨B + 3, 0, none⟩ = some (.slice A0 l0.length c0) ∧ w'.cell? ⟨B + 3, 1, none⟩ = some (.slice A1 l1.length c1) ∧ w'.cell? ⟨B + 3, 2, none⟩ = some (.slice A2 l2.length c2) ∧ w'.cell? ⟨B + 3, 3, none⟩ = some (.slice A3 l3.length c3) ∧ w'.cell? ⟨B + 3, 4, none⟩ = some (.int .i64 st) ∧ w'.cell? ⟨B + 3, 5, none⟩ = some (.slice AK K.length cK) ∧ w'.cell? ⟨B + 3, 6, none⟩ = some (.slice AN N.length cN)) (go_keep)
    (first | (go_at_call 25; refine (hGo.out _ (by repeat (first | exact H2.out.hb | apply below_drew1 | apply below_alloc))).mono ?_; rintro e w4 ⟨rfl, hb4⟩; have hbb := below_step (w := w2) (by repeat (first | exact RowKit.Below.refl _ _ | apply below_drew1 | apply below_alloc)) hb4; obtain ⟨t0, t1, t2, s0, s1, s2, s3, s4, s5, s6⟩ := HCL.out w4 (blk_below BS2.out hbb) (blk_below H2.out.bx hbb); (first | (have BZ := Aside0.mk (blk_below (g := w2.heap.size) (o := .cells #[.int .i64 0, .int .i64 0, .int .i64 0] 129 (0, 0)) (by first | exact blk_new w2.drew _ | exact blk_drew (blk_new w2 _)) hb4); have b0 := blk_cell BZ.out 0; have b1 := blk_cell BZ.out 1; have b2 := blk_cell BZ.out 2; have f0 := blk_frozen BZ.out 0; have f1 := blk_frozen BZ.out 1; have f2 := blk_frozen BZ.out 2) | skip); have m1 : ¬ xb = w4.heap.size := Nat.ne_of_lt (Nat.lt_of_lt_of_le hlt hbb.size); have m2 : ¬ B + 3 = w4.heap.size := Nat.ne_of_lt (Nat.lt_of_lt_of_le hlt2 hbb.size); have m3 := World.new_ne w4 _ t0; have m4 := World.new_ne w4 _ s0; have HBB := Aside0.mk hbb; clear hb4 hbb))
   all_goals go_wp2_with fail
   all_goals go_meet
   ·exact ⟨_, rfl, ⟨HBB.out.size, blk_new w4 _, below_alloc HBB.out _⟩⟩
   ·exact ⟨_, rfl, ⟨Nat.le_refl _, blk_put (blk_put (blk_put BZ.out 0 _ rfl) 1 _ rfl) 2 _ rfl, below_set (below_set (below_set HBB.out (Nat.le_refl _)) (Nat.le_refl _)) (Nat.le_refl _)⟩⟩
  case rest =>
   obtain ⟨nb, rfl, HX⟩ := hcut
   obtain ⟨d', hd'⟩ : ∃ d', IntKind.i64.wrap (s.2.2 + 1) = d' := ⟨_, rfl⟩
   have he := HE.out
   rw [hd'] at he HX
   replace HE := Aside0.mk he
   have HD' := Aside0.mk hd'
   clear he hd'
   have HBc := Aside0.mk (show RowKit.Below W.heap.size W wc from below_step HBW2.out (by first | exact HX.out.2.2 | exact HX.out.2.2))
   have HWc := Aside0.mk HX.out.2.2
   have hn0 : wc.cell? ⟨nb, 0, none⟩ = some (.int .i64 n) := blk_cell HX.out.2.1 0
   have hn1 : wc.cell? ⟨nb, 1, none⟩ = some (.int .i64 s.2.1) := blk_cell HX.out.2.1 1
   have hn2 : wc.cell? ⟨nb, 2, none⟩ = some (.int .i64 d') := blk_cell HX.out.2.1 2
   have BSc := Aside0.mk (blk_below BS2.out HWc.out)
   have Hc := Aside0.mk (H2.out.below HWc.out)
   clear y0 y1 y2 z0 z1 z2 z3 z4 z5 z6 hlt hlt2 ne1 ne2 ne3 ne4 hGo HX
   obtain ⟨fe, hfe⟩ : ∃ fe : Edg, fe = ((n, (s.2.1, d')), []) := ⟨_, rfl⟩
   have hone := Er.one (w := w) (b := wc.heap.size) fe wc none 0 (by rw [hfe]; exact Nat.le_refl _) (by rw [hfe]; exact .inl rfl) (Nat.le_refl _)
   rw [hfe] at hone
   simp only [List.length_nil] at hone
   have HO := Aside0.mk hone
   have HFE := Aside0.mk hfe
   clear hone hfe
   go_upto_region 6 with fail
   have HW6 := Aside0.mk (below_alloc (RowKit.Below.refl wc.heap.size wc) (Obj.cells #[.int .i64 n, .int .i64 s.2.1, .int .i64 d', .slice none 0 0] 133))
   generalize wc.alloc (Obj.cells #[.int .i64 n, .int .i64 s.2.1, .int .i64 d', .slice none 0 0] 133) = W6 at *
   rw [← HFE.out] at HO
   obtain ⟨y0, y1, y2, z0, z1, z2, z3, z4, z5, z6⟩ := HCL.out W6 (blk_below BSc.out HW6.out) (blk_below Hc.out.bx HW6.out)
   by_cases hsym : sym < 0
   ·have hsb : decide (sym < 0) = true := decide_eq_true hsym
    have he := HE.out
    rw [if_pos hsym, ← HFE.out] at he
    obtain ⟨r, hr, hes⟩ := Option.map_eq_some_iff.1 he
    unfold restF at hr
    split at hr
    ·rename_i hd0
     obtain ⟨r0, hr0', hr⟩ := Option.bind_eq_some_iff.1 hr
     split at hr
     ·rename_i hdr
      obtain ⟨m, hm⟩ : ∃ m : Nat, m = s.2.2.toNat + 1 := ⟨_, rfl⟩
      rw [← hm] at hr
      obtain rfl := Option.some.inj hr
      obtain ⟨r, hrr⟩ : ∃ r, r = r0.drop m := ⟨_, rfl⟩
      rw [← hrr] at hes
      have HES := Aside0.mk hes
      have HRG := Aside0.mk fun (W' : World) hL => right_calls (F := F) (q := q) (vq := vq) (ok := ok) (W := W') (B := B) (A0 := A0) (A1 := A1) (A2 := A2) (c0 := c0) (c1 := c1) (c2 := c2) (c3 := c3) (l0 := l0) (l1 := l1) (l2 := l2) (Kv := .slice AK K.length cK) (Nv := .slice AN N.length cN) HR3.out hL s.2.1 r0 hr0'
      have hrl : r0.length - m = r.length := by rw [hrr, List.length_drop]
      have HPR := Aside0.mk hr0'
      have HRR := Aside0.mk hrr
      have HNG := Aside0.mk (show s.2.1 < 0 → r0.length ≤ m from fun hp => by have := right_neg hr0' hp; omega)
      have HM := Aside0.mk (show m ≤ r0.length ∧ 1 ≤ m by omega)
      have HDM := Aside0.mk (show s.2.2 + 1 = (m : Int) by omega)
      have HMX := Aside0.mk hdr
      have HRX := Aside0.mk (show r0.length ≤ 9223372036854775807 from right_max HR3.out hr0')
      clear he hes hr hr0' hdr hsym hrr hm hd0
      go_wp2_with fail
      clear z0 z1 z2 z3 z4 z5 z6 y0 y1 y2
      go_loopw [8, 52] (fun v8 v52 wr => ∃ j : Nat, v52 = .int .i64 j ∧ j ≤ l3.length ∧ Aside0 (Er w wc.heap.size (fun k => wc.heap.size ≤ k) v8 (fe :: sortsE l3 s.1 sym r j) wr) ∧ Aside0 (RowKit.Below wc.heap.size wc wr)) (fun _ v52 _ => l3.length - (intOf v52).toNat)
      case atStart => exact ⟨0, rfl, Nat.zero_le _, HO, HW6⟩
      case round =>
       obtain ⟨j, rfl, hj, HR, HBr⟩ := hrel
       by_cases hlt : j < l3.length
       ·have hjb : decide (j < l3.length) = true := decide_eq_true hlt
        have hjw : IntKind.i64.wrap ((j : Int) + 1) = ((j + 1 : Nat) : Int) := by
         have := HL3.out
         rw [IntWalk.i64_in _ (by omega)]
         rfl
        obtain ⟨y0, y1, y2, z0, z1, z2, z3, z4, z5, z6⟩ := HCL.out wr (blk_below BSc.out HBr.out) (blk_below Hc.out.bx HBr.out)
        obtain ⟨ad, A', c', e, hx0, hx1, hx2, hx3, hle, hC⟩ := at_T64 (Kd.C_below HR3.out (below_step Hc.out.hb HBr.out)) (j : Int) (by omega) (by omega)
        subst e
        rw [Int.toNat_natCast] at hx0 hx1 hx2 hx3
        clear hx0 hx2 hx3 hle hC
        obtain ⟨A8, c8, e8, hc8⟩ := HR.out.slice
        subst e8
        simp only [List.length_cons] at HR
        by_cases hq : (rd_T64 l3 j).f1 = IntKind.i64.wrap (-1 - sym)
        ·have hst : sortsE l3 s.1 sym r (j + 1) = sortsE l3 s.1 sym r j ++ [((s.1, ((j : Int), 0)), r)] := by
          unfold sortsE
          rw [List.range_succ, List.filter_append, List.map_append]
          congr 1
          rw [List.filter_cons_of_pos (by simpa using hq)]
          rfl
         have HST := Aside0.mk hst
         simp only [i64_w] at hq
         have hqb : ((rd_T64 l3 j).f1 == wrap64 (-1 - sym)) = true := by rw [hq]; simp
         clear hst hq
         go_upto_region 10 with fail
         have HXC := Aside0.mk (show xb < wc.heap.size from blk_lt BSc.out)
         have HLN := Aside0.mk (show (fe :: sortsE l3 s.1 sym r j).length ≤ 1000000 by
          have h1 : (sortsE l3 s.1 sym r j).length ≤ j := by unfold sortsE; rw [List.length_map]; exact Nat.le_trans (List.length_filter_le _ _) (by simp)
          have := HL3.out
          rw [List.length_cons]; omega)
         have hlx : xb < wr.heap.size := blk_lt (blk_below BSc.out HBr.out)
         have ne3 := World.new_ne wr _ y0
         have HLr := Aside0.mk (Hc.out.below HBr.out)
         have HWR := Aside0.mk (blk_below BSc.out HBr.out)
         have hdm : wrap64 (s.2.2 + 1) = (m : Int) := by
          rw [← i64_w, HDM.out]
          exact IntWalk.i64_in _ (by have := HM.out; have := HRX.out; omega)
         have hdm2 : IntKind.i64.wrap (s.2.2 + 1) = (m : Int) := by rw [i64_w]; exact hdm
         clear z0 z1 z2 z3 z4 z5 z6
         go_region_held3 (fun w' => w'.cell? ⟨xb, 0, none⟩ = some (.int .i64 s.1) ∧ w'.cell? ⟨xb, 1, none⟩ = some (.int .i64 s.2.1) ∧ w'.cell? ⟨xb, 2, none⟩ = some (.int .i64 s.2.2)) (go_keep)
          (first | (go_at_call 90; refine (HRG.out _ (HLr.out.below (by repeat (first | exact RowKit.Below.refl _ _ | apply below_drew1)))).mono ?_; rintro e w5 ⟨A5, c5, rfl, hl5, hC5, hO5, hb5⟩; have hbb := below_step (w := wr) (by repeat (first | exact RowKit.Below.refl _ _ | apply below_drew1)) hb5; obtain ⟨t0, t1, t2, s0, s1, s2, s3, s4, s5, s6⟩ := HCL.out w5 (blk_below HWR.out hbb) (blk_below HLr.out.bx hbb); have hm5 : m ≤ r0.length := HM.out.1; have hm6 : m ≤ c5 := Nat.le_trans hm5 hl5; have hm7 : (0 : Int) ≤ (m : Int) := Int.natCast_nonneg m; have hm8 : (m : Int) ≤ (r0.length : Int) := Int.ofNat_le.2 hm5; have hm9 : (r0.length : Int) ≤ (c5 : Int) := Int.ofNat_le.2 hl5; have hm10 : (m : Int) ≤ (c5 : Int) := Int.ofNat_le.2 hm6; obtain ⟨hq1, hq2⟩ := rest_ok hm5 hl5 hO5 HNG.out; obtain ⟨T, hTT⟩ : ∃ T, (if c5 = m then A5 else A5.map (·.add (m * (Kd.int .i64).sz))) = T := ⟨_, rfl⟩; obtain ⟨i41, hi41, hsz⟩ := Option.map_eq_some_iff.1 info29; have hsl := cut_from (P := Tryd.prog) 62 29 .i64 Tryd.underlying62 hi41 (Kd.int .i64).sz (congrArg (fun z => z.2.1) hsz) A5 r0.length c5 (m : Int) hm7 hm8; rw [Int.toNat_natCast, hTT] at hsl; rw [hTT, ← HRR.out] at hq2; rw [← HRR.out] at hq1; have HQ1 := Aside0.mk hq1; have HQ2 := Aside0.mk hq2; clear hq1 hq2 hTT hi41 hsz; have m3 := World.new_ne w5 _ t0; have HBB := Aside0.mk hbb; have HO5 := Aside0.mk hO5; have HR5 := Aside0.mk (HR.out.below hbb); have HSZ := Aside0.mk (show wc.heap.size ≤ w5.heap.size from Nat.le_trans HBr.out.size hbb.size); have HX5 := Aside0.mk (blk_below HWR.out hbb); clear hb5 hbb hC5 hO5 s0 s1 s2 s3 s4 s5 s6) | (refine append_edge (w := w) (b := wc.heap.size) HR5.out ((s.1, ((j : Int), 0)), r) T (c5 - m) HQ1.out HQ2.out HSZ.out HLN.out _ _ _ _ _ (by rfl) rfl (by simp [Act.eval, Act.put]) (by simp [Act.eval, Act.put]) ?_; intro v9 w9 hE9 hg9 hat9; obtain ⟨A9, c9, e9, hc9⟩ := hE9.slice; subst e9; have hx9 := (hg9.block xb (blk_lt HX5.out) (fun e => by have := HR5.out.base _ e.symm; have := HXC.out; omega)).trans HX5.out; have t0 := blk_cell hx9 0; have t1 := blk_cell hx9 1; have t2 := blk_cell hx9 2; have HE9 := Aside0.mk hE9; have HG9 := Aside0.mk hg9; clear hE9 hg9 hat9 hx9 hc9))
         have e7 : ((fe :: sortsE l3 s.1 sym r j) ++ [((s.1, ((j : Int), 0)), r)]).length = (sortsE l3 s.1 sym r j).length + 1 + 1 := by simp
         rw [e7] at HE9
         have HB9 := Aside0.mk (below_grown (below_step HBr.out HBB.out) HG9.out (fun k hk => HR5.out.base k hk))
         go_wp2_with fail
         go_roundw
         all_goals first
          | exact ⟨j + 1, rfl, by omega, ⟨by rw [HST.out]; exact HE9.out⟩, HB9⟩
          | (simp [intOf]; omega)
        ·have hst : sortsE l3 s.1 sym r (j + 1) = sortsE l3 s.1 sym r j := by
          unfold sortsE
          rw [List.range_succ, List.filter_append, List.map_append]
          rw [List.filter_cons_of_neg (by simpa using hq)]
          simp
         have HST := Aside0.mk hst
         simp only [i64_w] at hq
         have hqb : ((rd_T64 l3 j).f1 == wrap64 (-1 - sym)) = false := by simpa using hq
         clear hst hq
         go_wp2_with fail
         go_roundw
         all_goals first
          | exact ⟨j + 1, rfl, by omega, by rw [HST.out]; exact HR, HBr⟩
          | (simp [intOf]; omega)
       ·have hjb : decide (j < l3.length) = false := decide_eq_false hlt
        have hje : j = l3.length := by omega
        subst hje
        obtain ⟨A8, c8, e8, hc8⟩ := HR.out.slice
        subst e8
        go_wp2_with fail
        go_ret
        rw [← HES.out]
        exact ⟨_, _, rfl, (HR.out.lower HBc.out.size).mono (fun k hk => Nat.le_trans HBc.out.size hk), below_step HBc.out HBr.out⟩
     ·cases hr
    ·cases hr
   ·have hsb : decide (sym < 0) = false := decide_eq_false hsym
    have HES := Aside0.mk (show [fe] = es by have := HE.out; rw [if_neg hsym, ← HFE.out] at this; exact Option.some.inj this)
    clear hsym
    go_wp2_with fail
    clear z0 z1 z2 z3 z4 z5 z6 y0 y1 y2
    go_loopw [8, 52] (fun v8 v52 wr => ∃ j : Nat, v52 = .int .i64 j ∧ j ≤ l3.length ∧ Aside0 (Er w wc.heap.size (fun k => wc.heap.size ≤ k) v8 [fe] wr) ∧ Aside0 (RowKit.Below wc.heap.size wc wr)) (fun _ v52 _ => l3.length - (intOf v52).toNat)
    case atStart => exact ⟨0, rfl, Nat.zero_le _, HO, HW6⟩
    case round =>
     obtain ⟨j, rfl, hj, HR, HBr⟩ := hrel
     by_cases hlt : j < l3.length
     ·have hjb : decide (j < l3.length) = true := decide_eq_true hlt
      have hjw : IntKind.i64.wrap ((j : Int) + 1) = ((j + 1 : Nat) : Int) := by
       have := HL3.out
       rw [IntWalk.i64_in _ (by omega)]
       rfl
      go_wp2_with fail
      go_roundw
      all_goals first
       | exact ⟨j + 1, rfl, by omega, HR, HBr⟩
       | (simp [intOf]; omega)
     ·have hjb : decide (j < l3.length) = false := decide_eq_false hlt
      obtain ⟨A8, c8, e8, hc8⟩ := HR.out.slice
      subst e8
      go_wp2_with fail
      go_ret
      rw [← HES.out]
      exact ⟨_, _, rfl, (HR.out.lower HBc.out.size).mono (fun k hk => Nat.le_trans HBc.out.size hk), below_step HBc.out HBr.out⟩
end
end Go.Proofs.YtclollnicbcooaaDoor.P
end

section
set_option linter.unusedVariables false
set_option linter.unusedSimpArgs false
namespace Go.Proofs.YtclollnicbcooaaDoor.P
open Go.RowKit Go.Proofs.YtclollnicbcooaaDoorW.PrintWords Go.Proofs.YtclollnicbcooaaDoorW.PrintLast Go.Proofs.YtclollnicbcooaaDoorW.PrintMore

/-- Is a symbol not (yet) so? -/
def badB (term : Bool) (xs : List Bool) (s : Int) : Bool := (decide (0 ≤ s) && !term) || (decide (s < 0) && !rdOf false xs (IntKind.i64.wrap (-1 - s)))
def moreB (term : Bool) (xs : List Bool) (p : S64) : Bool := if p.f2.any (badB term xs) then rdOf false xs p.f1 else true

theorem any_here {α : Type} (f : α → Bool) (l : List α) (k : Nat) (hk : k < l.length) (h : f l[k] = true) : l.any f = true := List.any_eq_true.2 ⟨l[k], List.getElem_mem hk, h⟩
theorem any_take {α : Type} (f : α → Bool) (l : List α) (k : Nat) (hk : k < l.length) : (l.take (k + 1)).any f = ((l.take k).any f || f l[k]) := by
 rw [List.take_add_one, List.getElem?_eq_getElem hk, List.any_append]
 simp
theorem rd_atS (l : List Int) (k : Nat) (hk : k < l.length) : rd l (k : Int) = l[k] := by unfold rd; simp [List.getD, hk]

set_option maxHeartbeats 4000000 in
set_option maxRecDepth 100000 in
theorem all1_calls (term : Bool) (bt b5 G n cap : Nat) (xs : List Bool) (base : Nat) (ok : Nat → Prop) (p : S64) (A : Option Addr) (c : Nat) (w : World)
  (hbt : w.cell? ⟨bt, 0, none⟩ = some (.bool term)) (hb5 : w.cell? ⟨b5, 0, none⟩ = some (.slice (some ⟨G, 0, none⟩) n cap)) (hR : Kd.R Kd.bool 4 w base ok (.slice (some ⟨G, 0, none⟩) n cap) xs)
  (hp : Kd.C (Kd.int .i64) w A p.f2.length p.f2) (hs : ∀ s ∈ p.f2, s < 0 → 0 ≤ IntKind.i64.wrap (-1 - s) ∧ IntKind.i64.wrap (-1 - s) < n) (h0 : 0 ≤ p.f1) (h1 : p.f1 < n) :
  Calls Tryd.prog 79 #[.agg #[.string p.f0, .int .i64 p.f1, .slice A p.f2.length c, .int .i64 p.f3], .pointer (some ⟨bt, 0, none⟩), .pointer (some ⟨b5, 0, none⟩)] w fun e w' => e = .returned (.tuple #[.int .i64 p.f1, .bool (moreB term xs p)]) ∧ Below w.heap.size w w' := by
 have HR := Aside0.mk hR
 have HP := Aside0.mk hp
 have HS := Aside0.mk hs
 have Bt := Aside0.mk hbt
 have B5 := Aside0.mk hb5
 have hmx : p.f2.length ≤ 9223372036854775807 := hp.2.1
 have P0 := Aside0.mk h0
 have P1 := Aside0.mk h1
 have hu := Tryd.underlying64
 clear hR hp hs hbt hb5 h0 h1
 obtain ⟨nl, hnl⟩ : ∃ nl, p.f2.length = nl := ⟨_, rfl⟩
 rw [hnl] at hmx ⊢
 have HN := Aside0.mk hnl
 clear hnl
 obtain ⟨lab, hlab⟩ : ∃ lab, p.f0 = lab := ⟨_, rfl⟩
 obtain ⟨srt, hsrt⟩ : ∃ srt, p.f1 = srt := ⟨_, rfl⟩
 obtain ⟨cls, hcls⟩ : ∃ cls, p.f3 = cls := ⟨_, rfl⟩
 rw [hlab, hsrt, hcls]
 replace hsrt := Aside0.mk hsrt
 clear hlab hcls
 go_enter Tryd.func79, Tryd.ntmps79
 go_upto_region 1 with fail
 have HZ : Aside0 (Below w.heap.size w (w.alloc (Obj.cells #[.string lab, .int .i64 srt, .slice A nl c, .int .i64 cls] 64))) := ⟨below_alloc (Below.refl _ _) _⟩
 have G1 : (w.alloc (Obj.cells #[.string lab, .int .i64 srt, .slice A nl c, .int .i64 cls] 64)).cell? ⟨w.heap.size, 1, none⟩ = some (.int .i64 srt) := by go_simp
 have G2 : (w.alloc (Obj.cells #[.string lab, .int .i64 srt, .slice A nl c, .int .i64 cls] 64)).cell? ⟨w.heap.size, 2, none⟩ = some (.slice A nl c) := by go_simp
 generalize w.alloc (Obj.cells #[.string lab, .int .i64 srt, .slice A nl c, .int .i64 cls] 64) = wy at *
 replace HR := Aside0.mk (Kd.R_below HR.out HZ.out)
 replace HP := Aside0.mk (Kd.C_below HP.out HZ.out)
 replace Bt := Aside0.mk (pw_cell_below HZ.out Bt.out)
 replace B5 := Aside0.mk (pw_cell_below HZ.out B5.out)
 generalize hg : w.heap.size = gy at G1 G2 ⊢
 clear hg
 go_wp2
 replace G1 := Aside0.mk G1
 clear G2
 go_loopw [11] (fun v wr => ∃ k : Nat, v = .int .i64 k ∧ k ≤ nl ∧ Aside0 ((p.f2.take k).any (badB term xs) = false) ∧ Aside0 (∃ m, wr = wy.drewN m)) (fun v _ => nl - (intOf v).toNat)
 case atStart => exact ⟨0, rfl, Nat.zero_le _, ⟨by simp⟩, ⟨⟨0, rfl⟩⟩⟩
 case round =>
  obtain ⟨k, rfl, hk, HT, ⟨m, rfl⟩⟩ := hrel
  by_cases hlt : k < nl
  ·have hltb : decide (k < nl) = true := decide_eq_true (by omega)
   have hlt' : k < p.f2.length := by rw [HN.out]; exact hlt
   obtain ⟨ad, e1, hx1⟩ := Kd.at_int HP.out (k : Int) (by omega) (by omega)
   rw [Int.toNat_natCast] at hx1
   obtain ⟨s, hsx⟩ : ∃ s, rd p.f2 (k : Int) = s := ⟨_, rfl⟩
   rw [hsx] at hx1
   rw [rd_atS _ _ hlt'] at hsx
   subst e1
   have hmem : s < 0 → 0 ≤ IntKind.i64.wrap (-1 - s) ∧ IntKind.i64.wrap (-1 - s) < n := HS.out s (by rw [← hsx]; exact List.getElem_mem hlt')
   have HSX := Aside0.mk hsx
   have BT := Bt.out
   clear hsx
   by_cases hs0 : 0 ≤ s
   ·have hb0 : decide (0 ≤ s) = true := decide_eq_true hs0
    have hb1 : decide (s < 0) = false := decide_eq_false (by omega)
    cases term
    ·have g1 := G1.out
     have b5 := B5.out
     obtain ⟨hxs, -⟩ := Kd.R_celln false HR.out srt (by rw [← hsrt.out]; exact P0.out) (by rw [← hsrt.out]; exact P1.out)
     have q0 : (0 ≤ srt) = True := eq_true (by rw [← hsrt.out]; exact P0.out)
     have q1 : (srt < (n : Int)) = True := eq_true (by rw [← hsrt.out]; exact P1.out)
     go_wp2
     go_quiet (fail)
     go_wp2
     go_ret2
     exact ⟨by rw [moreB, if_pos (any_here _ _ k hlt' (by rw [HSX.out]; simp [badB, hb0])), hsrt.out]; rfl, pw_below_drewN (pw_below_drewN HZ.out _) _⟩
    ·go_wp2
     go_roundw
     case rel => exact ⟨k + 1, rfl, by omega, ⟨by rw [any_take _ _ k hlt', HT.out, HSX.out]; simp [badB, hb0, hb1]⟩, ⟨⟨_, rfl⟩⟩⟩
     case measure => simp [intOf]; omega
   ·have hb0 : decide (0 ≤ s) = false := decide_eq_false hs0
    have hb1 : decide (s < 0) = true := decide_eq_true (by omega)
    obtain ⟨hj0, hj1⟩ := hmem (by omega)
    obtain ⟨j, hj⟩ : ∃ j, IntKind.i64.wrap (-1 - s) = j := ⟨_, rfl⟩
    rw [hj] at hj0 hj1
    obtain ⟨hxj, -⟩ := Kd.R_celln false HR.out j hj0 hj1
    replace hj0 : (0 ≤ j) = True := eq_true hj0
    replace hj1 : (j < (n : Int)) = True := eq_true hj1
    have b5' := B5.out
    have HJ := Aside0.mk hj
    obtain ⟨o, ho⟩ : ∃ o, rdOf false xs j = o := ⟨_, rfl⟩
    rw [ho] at hxj
    have HO := Aside0.mk ho
    clear ho
    cases o
    ·have g1 := G1.out
     have b5 := B5.out
     obtain ⟨hxs, -⟩ := Kd.R_celln false HR.out srt (by rw [← hsrt.out]; exact P0.out) (by rw [← hsrt.out]; exact P1.out)
     have q0 : (0 ≤ srt) = True := eq_true (by rw [← hsrt.out]; exact P0.out)
     have q1 : (srt < (n : Int)) = True := eq_true (by rw [← hsrt.out]; exact P1.out)
     go_wp2
     go_quiet (fail)
     go_wp2
     go_ret2
     exact ⟨by rw [moreB, if_pos (any_here _ _ k hlt' (by rw [HSX.out]; simp [badB, hb0, hb1, HJ.out, HO.out])), hsrt.out]; rfl, pw_below_drewN (pw_below_drewN HZ.out _) _⟩
    ·go_wp2
     go_roundw
     case rel => exact ⟨k + 1, rfl, by omega, ⟨by rw [any_take _ _ k hlt', HT.out, HSX.out]; simp [badB, hb0, hb1, HJ.out, HO.out]⟩, ⟨⟨_, rfl⟩⟩⟩
     case measure => simp [intOf]; omega
  ·have hltb : decide (k < nl) = false := decide_eq_false (by omega)
   have HA : Aside0 (p.f2.any (badB term xs) = false) := ⟨by have := HT.out; rwa [List.take_of_length_le (by rw [HN.out]; omega)] at this⟩
   replace G1 := G1.out
   go_wp2
   go_ret2
   exact ⟨by simp [moreB, HA.out], pw_below_drewN HZ.out _⟩

end Go.Proofs.YtclollnicbcooaaDoor.P
end

section
namespace Go.Proofs.YtclollnicbcooaaDoor.Base
open Go Classical

theorem Exit.jump_imp {l : Nat} {J J' : Act → World → Prop} {Q : Exit → Act → World → Prop} (h : ∀ a w, J a w → J' a w) : ∀ (e : Exit) (a : Act) (w : World), Exit.jump l J Q e a w → Exit.jump l J' Q e a w := fun e a w hh => by
 unfold Exit.jump at *
 split <;> rename_i h1 <;> simp_all
 all_goals (split <;> simp_all)

theorem exists_least {p : Nat → Prop} (h : ∃ n, p n) : ∃ n, p n ∧ ∀ m, p m → n ≤ m := by
 obtain ⟨n, hn⟩ := h
 induction n using Nat.strongRecOn with
 | _ n ih =>
  by_cases hs : ∃ m, m < n ∧ p m
  ·obtain ⟨m, hm, hp⟩ := hs; exact ih m hm hp
  ·exact ⟨n, hn, fun m hp => Nat.le_of_not_lt fun hm => hs ⟨m, hm, hp⟩⟩
noncomputable def least (J : Nat → Act → World → Prop) (a : Act) (w : World) : Nat := if h : ∃ n, J n a w then Classical.choose (exists_least h) else 0
theorem least_le {J : Nat → Act → World → Prop} {a : Act} {w : World} {n : Nat} (h : J n a w) : least J a w ≤ n := by
 have hx : ∃ n, J n a w := ⟨n, h⟩
 unfold least; rw [dif_pos hx]; exact (Classical.choose_spec (exists_least hx)).2 n h
theorem least_at {J : Nat → Act → World → Prop} {a : Act} {w : World} (h : ∃ n, J n a w) : J (least J a w) a w := by
 unfold least; rw [dif_pos h]; exact (Classical.choose_spec (exists_least h)).1

theorem wp_scope_ghost {P : Program} {Q : Exit → Act → World → Prop} {a : Act} {w : World} {c rest : Code} (l : Nat) (J : Nat → Act → World → Prop) (hf : findLabel c l = some rest)
  (first : c.wp P (Exit.jump l (fun a w => ∃ n, J n a w) Q) a w)
  (pass : ∀ n a w, J n a w → rest.wp P (Exit.jump l (fun a' w' => ∃ m, m < n ∧ J m a' w') Q) a w) : (Code.scope c).wp P Q a w :=
 wp_scope_jumps l (fun a w => ∃ n, J n a w) (least J) hf first fun a w h =>
  Code.wp_mono (Exit.jump_imp fun _ _ ⟨m, hm, hj⟩ => ⟨⟨m, hj⟩, Nat.lt_of_le_of_lt (least_le hj) hm⟩) (pass _ a w (least_at h))

theorem wp_scope_label {P : Program} {Q : Exit → Act → World → Prop} {a : Act} {w : World} {rest : Code} (l k0 : Nat) (J : Nat → Act → World → Prop) 
  (init : J k0 a w) (pass : ∀ n a w, J n a w → rest.wp P (Exit.jump l (fun a' w' => ∃ m, m < n ∧ J m a' w') Q) a w) : (Code.scope ((Code.label l).seq rest)).wp P Q a w :=
 wp_scope_ghost (rest := Code.skip.seq rest) l J (by simp [findLabel]) (wp_seq (wp_label (Code.wp_mono (Exit.jump_imp fun _ _ ⟨m, _, hj⟩ => ⟨m, hj⟩) (pass k0 a w init)))) fun n a w hj => wp_seq (wp_skip (pass n a w hj))

end Go.Proofs.YtclollnicbcooaaDoor.Base
end

section
set_option linter.unusedVariables false
set_option linter.unusedSimpArgs false
namespace Go.Proofs.YtclollnicbcooaaDoor.P
open Go.Proofs.YtclollnicbcooaaDoor.Base Go.RowKit Go.Proofs.YtclollnicbcooaaDoorW.PrintWords Go.Proofs.YtclollnicbcooaaDoorW.PrintLast Go.Proofs.YtclollnicbcooaaDoorW.PrintMore

section
variable {β : Type} [DecidableEq β] (z : β) (more : List β → S64 → β)
/-- One pass: each production's sort gets what the production tells; and whether anything changed. -/
def passG : List S64 → List β × Bool → List β × Bool
 | [], st => st
 | p :: ps, st => passG ps (if rdOf z st.1 p.f1 = more st.1 p then st else (st.1.set p.f1.toNat (more st.1 p), true))
def growG (ps : List S64) : Nat → List β → Option (List β)
 | 0, _ => none
 | k + 1, xs => if (passG z more ps (xs, false)).2 = true then growG ps k (passG z more ps (xs, false)).1 else some (passG z more ps (xs, false)).1
theorem growG_mono (ps : List S64) : ∀ (k : Nat) (xs : List β), LeO (growG z more ps k xs) (growG z more ps (k + 1) xs)
 | 0, xs => by intro r h; cases h
 | k + 1, xs => by
  intro r h
  unfold growG at h ⊢
  split at h
  ·rw [if_pos (by assumption)]; exact growG_mono ps k _ r h
  ·rw [if_neg (by assumption)]; exact h
theorem passG_drop (ps : List S64) (k : Nat) (hk : k < ps.length) (st : List β × Bool) :
  passG z more (ps.drop k) st = passG z more (ps.drop (k + 1)) (if rdOf z st.1 ps[k].f1 = more st.1 ps[k] then st else (st.1.set ps[k].f1.toNat (more st.1 ps[k]), true)) := by
 rw [List.drop_eq_getElem_cons hk]; rfl
end

theorem grown_put {W w : World} {g : Nat} {i : Nat} {u : Value} (h : W.grownBy w (some g)) : W.grownBy (w.setCell ⟨g, i, none⟩ u) (some g) :=
 ⟨h.os, h.tape, h.output, by rw [World.size_setCell]; exact h.size, fun k hk hne => by rw [Below.heap_setCell w _ u k (fun e => hne (by rw [e]))]; exact h.block k hk hne⟩
theorem grown_below {W w w' : World} {g : Nat} (h : W.grownBy w (some g)) (hb : Below w.heap.size w w') : W.grownBy w' (some g) :=
 ⟨hb.os.trans h.os, hb.tape.trans h.tape, hb.output.trans h.output, Nat.le_trans h.size hb.size, fun k hk hne => (hb.block k (Nat.lt_of_lt_of_le hk h.size)).trans (h.block k hk hne)⟩
theorem grown_of {W w w' : World} {g : Nat} (hb : Below W.heap.size W w) (h : w.grownBy w' (some g)) : W.grownBy w' (some g) :=
 ⟨h.os.trans hb.os, h.tape.trans hb.tape, h.output.trans hb.output, Nat.le_trans hb.size h.size, fun k hk hne => (h.block k (Nat.lt_of_lt_of_le hk hb.size) hne).trans (hb.block k hk)⟩
theorem below_grownS {w W w' : World} {g : Nat} (hb : Below w.heap.size w W) (h : W.grownBy w' (some g)) (hg : w.heap.size ≤ g) : Below w.heap.size w w' :=
 ⟨h.os.trans hb.os, h.tape.trans hb.tape, h.output.trans hb.output, Nat.le_trans hb.size h.size, fun k hk => (h.block k (Nat.lt_of_lt_of_le hk hb.size) (fun e => by injection e; omega)).trans (hb.block k hk)⟩

set_option maxHeartbeats 4000000 in
set_option maxRecDepth 100000 in
theorem grow_bool (k0 : Nat) (term : Bool) (A0 : Option Addr) (c0 : Nat) (l0 : List S82) (A1 : Option Addr) (c1 : Nat) (l1 : List S101) (A2 : Option Addr) (c2 : Nat) (l2 : List ByteArray) (A3 : Option Addr) (c3 : Nat) (l3 : List S64) (st : Int)
  (bt b5 G n cap base : Nat) (ok : Nat → Prop) (x0 r : List Bool) (w W : World) (hr3 : Kd.C k64 w A3 l3.length l3) (hbel : Below w.heap.size w W) (hG : w.heap.size ≤ G) (hGW : G < W.heap.size)
  (hbt : W.cell? ⟨bt, 0, none⟩ = some (.bool term)) (hb5 : W.cell? ⟨b5, 0, none⟩ = some (.slice (some ⟨G, 0, none⟩) n cap)) (hbtG : bt ≠ G) (hb5G : b5 ≠ G)
  (hR : Kd.R Kd.bool 4 W base ok (.slice (some ⟨G, 0, none⟩) n cap) x0)
  (hs : ∀ p ∈ l3, (0 ≤ p.f1 ∧ p.f1 < n) ∧ ∀ s ∈ p.f2, s < 0 → 0 ≤ IntKind.i64.wrap (-1 - s) ∧ IntKind.i64.wrap (-1 - s) < n)
  (h : growG false (moreB term) l3 k0 x0 = some r) :
  Calls Tryd.prog 78 #[.agg #[.slice A0 l0.length c0, .slice A1 l1.length c1, .slice A2 l2.length c2, .slice A3 l3.length c3, .int .i64 st], .slice (some ⟨G, 0, none⟩) n cap, .func (.func 79) #[] #[.pointer (some ⟨bt, 0, none⟩), .pointer (some ⟨b5, 0, none⟩)]] W
   fun e w' => e = .returned (.slice (some ⟨G, 0, none⟩) n cap) ∧ Kd.R Kd.bool 4 w' base ok (.slice (some ⟨G, 0, none⟩) n cap) r ∧ W.grownBy w' (some G) := by
 have HR := Aside0.mk hR
 have HR3 := Aside0.mk hr3
 have HS := Aside0.mk hs
 have HBEL := Aside0.mk hbel
 have HG := Aside0.mk hG
 have HGW := Aside0.mk hGW
 have Bt := Aside0.mk hbt
 have B5 := Aside0.mk hb5
 have NB := Aside0.mk (And.intro hbtG hb5G)
 have H := Aside0.mk h
 have hu := Tryd.underlying64
 have hu27 := Tryd.underlying27
 clear hR hr3 hs hbel hG hGW hbt hb5 hbtG hb5G h
 go_enter Tryd.func78, Tryd.ntmps78
 go_wp2
 have HZ : Aside0 (Below W.heap.size W (W.alloc (Obj.cells #[.slice A0 l0.length c0, .slice A1 l1.length c1, .slice A2 l2.length c2, .slice A3 l3.length c3, .int .i64 st] 27))) := ⟨below_alloc (Below.refl _ _) _⟩
 have G3 : Aside0 ((W.alloc (Obj.cells #[.slice A0 l0.length c0, .slice A1 l1.length c1, .slice A2 l2.length c2, .slice A3 l3.length c3, .int .i64 st] 27)).cell? ⟨W.heap.size, 3, none⟩ = some (.slice A3 l3.length c3)) := ⟨by go_simp⟩
 generalize W.alloc (Obj.cells #[.slice A0 l0.length c0, .slice A1 l1.length c1, .slice A2 l2.length c2, .slice A3 l3.length c3, .int .i64 st] 27) = wy at *
 replace HR := Aside0.mk (Kd.R_below HR.out HZ.out)
 replace Bt := Aside0.mk (pw_cell_below HZ.out Bt.out)
 replace B5 := Aside0.mk (pw_cell_below HZ.out B5.out)
 replace HBEL := Aside0.mk (below_step HBEL.out HZ.out)
 have HGN : Aside0 (W.heap.size ≠ G) := ⟨by have := HGW.out; omega⟩
 generalize hg : W.heap.size = gb at G3 HGN ⊢
 clear hg
 obtain ⟨vg, hvg⟩ : ∃ vg : Value, vg = .agg #[.slice A0 l0.length c0, .slice A1 l1.length c1, .slice A2 l2.length c2, .slice A3 l3.length c3, .int .i64 st] := ⟨_, rfl⟩
 rw [← hvg]
 clear hvg
 refine wp_scope_label 0 k0 (fun k a wr => ∃ (xs : List Bool) (u7 u8 u9 u10 u11 u12 u13 u14 u15 u16 u17 u18 u19 u20 u21 u22 u23 u24 u25 u26 u27 u28 u29 u30 u31 u32 u33 u34 u35 u36 u37 : Value), a = { tmps := #[vg, .slice (some ⟨G, 0, none⟩) n cap, .func (.func 79) #[] #[.pointer (some ⟨bt, 0, none⟩), .pointer (some ⟨b5, 0, none⟩)], .pointer (some ⟨gb, 0, none⟩), undef, undef, .slice none 0 0, u7, u8, u9, u10, u11, u12, u13, u14, u15, u16, u17, u18, u19, u20, u21, u22, u23, u24, u25, u26, u27, u28, u29, u30, u31, u32, u33, u34, u35, u36, u37], defers := [] } ∧ Aside0 (growG false (moreB term) l3 k xs = some r) ∧ Aside0 (Kd.R Kd.bool 4 wr base ok (.slice (some ⟨G, 0, none⟩) n cap) xs) ∧ Aside0 (wy.grownBy wr (some G))) ⟨x0, _, _, _, _, _, _, _, _, _, _, _, _, _, _, _, _, _, _, _, _, _, _, _, _, _, _, _, _, _, _, _, rfl, H, HR, ⟨World.grownBy.refl _ _⟩⟩ ?_
 clear HR H
 rintro kk a wq ⟨xs, u7, u8, u9, u10, u11, u12, u13, u14, u15, u16, u17, u18, u19, u20, u21, u22, u23, u24, u25, u26, u27, u28, u29, u30, u31, u32, u33, u34, u35, u36, u37, rfl, H, HR, HY⟩
 go_hide hQ
 replace hQ := Aside0.mk hQ
 have g3 : wq.cell? ⟨gb, 3, none⟩ = some (.slice A3 l3.length c3) := HY.out.cell G3.out (by intro e; injection e with e; exact HGN.out e)
 go_wp2
 clear g3
 go_loopw [7, 15] (fun v7 v15 wr => ∃ (k : Nat) (ch : Bool) (ys : List Bool), v7 = .bool ch ∧ v15 = .int .i64 k ∧ k ≤ l3.length ∧ Aside0 (Kd.R Kd.bool 4 wr base ok (.slice (some ⟨G, 0, none⟩) n cap) ys) ∧ Aside0 (wy.grownBy wr (some G)) ∧ Aside0 (passG false (moreB term) l3 (xs, false) = passG false (moreB term) (l3.drop k) (ys, ch))) (fun _ v15 _ => l3.length - (intOf v15).toNat)
 case atStart => exact ⟨0, false, xs, rfl, rfl, Nat.zero_le _, HR, HY, ⟨rfl⟩⟩
 case round =>
  obtain ⟨k, ch, ys, rfl, rfl, hk, HRR, HYR, HP⟩ := hrel
  have hmx : l3.length ≤ 9223372036854775807 := HR3.out.2.1
  by_cases hlt : k < l3.length
  ·have hltb : decide (k < l3.length) = true := decide_eq_true (by omega)
   have hbw : Aside0 (Below w.heap.size w wr) := ⟨below_grownS HBEL.out HYR.out HG.out⟩
   obtain ⟨ad, A4, c4, e4, hx1, hx2, hx3, hx4, hcap, hr4⟩ := at_T64 (Kd.C_below HR3.out hbw.out) (k : Int) (by omega) (by omega)
   rw [Int.toNat_natCast] at hx1 hx2 hx3 hx4
   obtain ⟨p, hp⟩ : ∃ p, rd_T64 l3 k = p := ⟨_, rfl⟩
   rw [hp] at hx1 hx2 hx3 hx4 hr4
   have hpk : l3[k] = p := by rw [← hp]; unfold rd_T64; simp [List.getD, hlt]
   have hmem : p ∈ l3 := by rw [← hpk]; exact List.getElem_mem hlt
   have HPK := Aside0.mk hpk
   have hsp := Aside0.mk (HS.out p hmem)
   have HR4 := Aside0.mk hr4
   clear hp hpk hr4 hcap hmem
   subst e4
   obtain ⟨m, hm⟩ : ∃ m, moreB term ys p = m := ⟨_, rfl⟩
   obtain ⟨o, ho⟩ : ∃ o, rdOf false ys p.f1 = o := ⟨_, rfl⟩
   have hstep : Aside0 (passG false (moreB term) l3 (xs, false) = passG false (moreB term) (l3.drop (k + 1)) (if o = m then (ys, ch) else (ys.set p.f1.toNat m, true))) := ⟨by rw [HP.out, passG_drop _ _ _ k hlt, HPK.out, ho, hm]⟩
   obtain ⟨nl, hnl⟩ : ∃ nl, p.f2.length = nl := ⟨_, rfl⟩
   obtain ⟨lab, hlab⟩ : ∃ lab, p.f0 = lab := ⟨_, rfl⟩
   obtain ⟨srt, hsrt⟩ : ∃ srt, p.f1 = srt := ⟨_, rfl⟩
   obtain ⟨cls, hcls⟩ : ∃ cls, p.f3 = cls := ⟨_, rfl⟩
   have hcont : Aside0 (∀ wz : World, Below wr.heap.size wr wz → Calls Tryd.prog 79 #[.agg #[.string lab, .int .i64 srt, .slice A4 nl c4, .int .i64 cls], .pointer (some ⟨bt, 0, none⟩), .pointer (some ⟨b5, 0, none⟩)] wz fun e w' => e = .returned (.tuple #[.int .i64 srt, .bool m]) ∧ Below wz.heap.size wz w' ∧ w'.cell? ⟨G, srt.toNat, none⟩ = some (.bool o) ∧ w'.frozen? ⟨G, srt.toNat, none⟩ = false) := ⟨fun wz hz => by
    have hg2 : wy.grownBy wz (some G) := grown_below HYR.out hz
    have hc := all1_calls term bt b5 G n cap ys base ok p A4 c4 wz (hg2.cell Bt.out (by intro e; injection e with e; exact NB.out.1 e)) (hg2.cell B5.out (by intro e; injection e with e; exact NB.out.2 e)) (Kd.R_below HRR.out hz) (Kd.C_below HR4.out hz) hsp.out.2 hsp.out.1.1 hsp.out.1.2
    rw [hnl, hlab, hsrt, hcls, hm] at hc
    refine hc.mono ?_
    rintro e w2 ⟨rfl, hb2⟩
    have hcell := Kd.R_celln false (Kd.R_below (Kd.R_below HRR.out hz) hb2) p.f1 hsp.out.1.1 hsp.out.1.2
    rw [ho, hsrt] at hcell
    exact ⟨rfl, hb2, hcell.1, hcell.2⟩⟩
   rw [hlab] at hx1
   rw [hsrt] at hx2
   rw [hnl] at hx3
   rw [hcls] at hx4
   have hsrt2 := Aside0.mk hsrt
   rw [hsrt] at hsp
   have q0 : (0 ≤ srt) = True := eq_true hsp.out.1.1
   have q1 : (srt < (n : Int)) = True := eq_true hsp.out.1.2
   clear hm ho hlab hnl hcls hsrt
   go_upto_region 5 with fail
   have HZ2 : Aside0 (Below wr.heap.size wr (wr.alloc (Obj.cells #[.string lab, .int .i64 srt, .slice A4 nl c4, .int .i64 cls] 64))) := ⟨below_alloc (Below.refl _ _) _⟩
   have y0 : (wr.alloc (Obj.cells #[.string lab, .int .i64 srt, .slice A4 nl c4, .int .i64 cls] 64)).cell? ⟨wr.heap.size, 0, none⟩ = some (.string lab) := by go_simp
   have y1 : (wr.alloc (Obj.cells #[.string lab, .int .i64 srt, .slice A4 nl c4, .int .i64 cls] 64)).cell? ⟨wr.heap.size, 1, none⟩ = some (.int .i64 srt) := by go_simp
   have y2 : (wr.alloc (Obj.cells #[.string lab, .int .i64 srt, .slice A4 nl c4, .int .i64 cls] 64)).cell? ⟨wr.heap.size, 2, none⟩ = some (.slice A4 nl c4) := by go_simp
   have y3 : (wr.alloc (Obj.cells #[.string lab, .int .i64 srt, .slice A4 nl c4, .int .i64 cls] 64)).cell? ⟨wr.heap.size, 3, none⟩ = some (.int .i64 cls) := by go_simp
   generalize wr.alloc (Obj.cells #[.string lab, .int .i64 srt, .slice A4 nl c4, .int .i64 cls] 64) = wz at *
   clear hx1 hx2 hx3 hx4
   generalize hgy : wr.heap.size = gy at y0 y1 y2 y3 ⊢
   clear hgy
   have hcall := hcont.out wz HZ2.out
   clear hcont
   replace hcall := Aside0.mk hcall
   have HYZ := Aside0.mk (grown_below HYR.out HZ2.out)
   have HRZ := Aside0.mk (Kd.R_below HRR.out HZ2.out)
   cases o <;> cases m
   ·go_wp2_with (go_at_call 79; refine hcall.out.mono ?_; rintro e w2 ⟨rfl, hb2, hc2, hf2⟩; replace hb2 := Aside0.mk hb2)
    have hR2 := Aside0.mk (Kd.R_below HRZ.out hb2.out)
    exact ⟨⟨k + 1, ch, ys, rfl, rfl, by omega, hR2, ⟨grown_below HYZ.out hb2.out⟩, ⟨by rw [hstep.out]; simp⟩⟩, by simp [intOf]; omega⟩
   ·go_wp2_with (go_at_call 79; refine hcall.out.mono ?_; rintro e w2 ⟨rfl, hb2, hc2, hf2⟩; replace hb2 := Aside0.mk hb2)
    have hR2 := Aside0.mk (Kd.R_putn (Kd.R_below HRZ.out hb2.out) srt true)
    exact ⟨⟨k + 1, true, ys.set srt.toNat true, rfl, rfl, by omega, hR2, ⟨grown_put (grown_below HYZ.out hb2.out)⟩, ⟨by rw [hstep.out, if_neg (by decide), hsrt2.out]⟩⟩, by simp [intOf]; omega⟩
   ·go_wp2_with (go_at_call 79; refine hcall.out.mono ?_; rintro e w2 ⟨rfl, hb2, hc2, hf2⟩; replace hb2 := Aside0.mk hb2)
    have hR2 := Aside0.mk (Kd.R_putn (Kd.R_below HRZ.out hb2.out) srt false)
    exact ⟨⟨k + 1, true, ys.set srt.toNat false, rfl, rfl, by omega, hR2, ⟨grown_put (grown_below HYZ.out hb2.out)⟩, ⟨by rw [hstep.out, if_neg (by decide), hsrt2.out]⟩⟩, by simp [intOf]; omega⟩
   ·go_wp2_with (go_at_call 79; refine hcall.out.mono ?_; rintro e w2 ⟨rfl, hb2, hc2, hf2⟩; replace hb2 := Aside0.mk hb2)
    have hR2 := Aside0.mk (Kd.R_below HRZ.out hb2.out)
    exact ⟨⟨k + 1, ch, ys, rfl, rfl, by omega, hR2, ⟨grown_below HYZ.out hb2.out⟩, ⟨by rw [hstep.out]; simp⟩⟩, by simp [intOf]; omega⟩
  ·have hltb : decide (k < l3.length) = false := decide_eq_false (by omega)
   obtain ⟨k', rfl⟩ : ∃ k', kk = k' + 1 := by
    cases kk with
    | zero => have := H.out; cases this
    | succ k' => exact ⟨k', rfl⟩
   have HF : Aside0 (passG false (moreB term) l3 (xs, false) = (ys, ch)) := ⟨by rw [HP.out, List.drop_eq_nil_of_le (by omega)]; rfl⟩
   cases ch
   ·have HE : Aside0 (ys = r) := ⟨by have := H.out; unfold growG at this; rw [HF.out] at this; simpa using this⟩
    go_wp2
    rw [← hQ.out]
    simp only [Exit.jump]
    go_ret
    exact ⟨rfl, by rw [← HE.out]; exact HRR.out, grown_of HZ.out HYR.out⟩
   ·have HE : Aside0 (growG false (moreB term) l3 k' ys = some r) := ⟨by have := H.out; unfold growG at this; rw [HF.out] at this; simpa using this⟩
    go_wp2
    go_step3
    rw [← hQ.out]
    exact ⟨rfl, k', Nat.lt_succ_self _, ys, _, _, _, _, _, _, _, _, _, _, _, _, _, _, _, _, _, _, _, _, _, _, _, _, _, _, _, _, _, _, _, rfl, HE, HRR, HYR⟩

end Go.Proofs.YtclollnicbcooaaDoor.P
end

section
set_option linter.unusedVariables false
set_option linter.unusedSimpArgs false
namespace Go.Proofs.YtclollnicbcooaaDoor.P
open Go.Proofs.YtclollnicbcooaaDoor.Base Go.RowKit Go.Proofs.YtclollnicbcooaaDoorW.PrintWords Go.Proofs.YtclollnicbcooaaDoorW.PrintLast Go.Proofs.YtclollnicbcooaaDoorW.PrintMore

def sets_all.f (k : Nat) (l0 : List S82) (l1 : List S101) (l2 : List ByteArray) (l3 : List S64) (st : Int) (term : Bool) : Option (List Bool) :=
 if validB l0 l1 l2 l3 st = true then growG false (moreB term) l3 k (List.replicate l2.length false) else some []

theorem sets_all.mono (l0 : List S82) (l1 : List S101) (l2 : List ByteArray) (l3 : List S64) (st : Int) (term : Bool) (k : Nat) : LeO (sets_all.f k l0 l1 l2 l3 st term) (sets_all.f (k + 1) l0 l1 l2 l3 st term) := by
 unfold sets_all.f
 split
 ·exact growG_mono _ _ _ _ _
 ·exact fun _ h => h

/-- What a grammar that may be has: sorts in range, symbols too. -/
theorem valid_has {l0 : List S82} {l1 : List S101} {l2 : List ByteArray} {l3 : List S64} {st : Int} (h : validB l0 l1 l2 l3 st = true) :
  l2.length ≤ 60 ∧ (0 ≤ st ∧ st < l2.length) ∧ ∀ p ∈ l3, (0 ≤ p.f1 ∧ p.f1 < l2.length) ∧ ∀ s ∈ p.f2, s < 0 → 0 ≤ IntKind.i64.wrap (-1 - s) ∧ IntKind.i64.wrap (-1 - s) < l2.length := by
 simp only [validB, Bool.and_eq_true, Bool.not_eq_true', decide_eq_false_iff_not, List.all_eq_true] at h
 obtain ⟨⟨⟨⟨⟨⟨⟨⟨h0, h1⟩, h2⟩, h3⟩, h4⟩, h5⟩, -⟩, -⟩, -⟩ := h
 refine ⟨by omega, by simpa [inB] using h3, fun p hp => ?_⟩
 have := h5 p hp
 simp only [prodB, Bool.and_eq_true, Bool.not_eq_true', decide_eq_false_iff_not] at this
 obtain ⟨⟨h6, h7⟩, h8⟩ := this
 refine ⟨by simpa [inB] using h6, fun s hs hneg => ?_⟩
 have h9 : ¬ oddB l0.length l2.length s = true := fun ho => by
  have : p.f2.any (oddB l0.length l2.length) = true := List.any_eq_true.2 ⟨s, hs, ho⟩
  rw [h8] at this; cases this
 have hn : decide (0 ≤ s) = false := decide_eq_false (by omega)
 have hy : decide (s < 0) = true := decide_eq_true hneg
 simp only [oddB, hn, hy, Bool.false_and, Bool.false_or, Bool.true_and, Bool.not_eq_true', Bool.not_eq_true, Bool.not_eq_false] at h9
 simpa [inB] using h9

theorem below_of_grown0 {w w' : World} (h : w.grownBy w' none) : Below w.heap.size w w' := ⟨h.os, h.tape, h.output, h.size, fun k hk => h.block k hk (by simp)⟩

set_option maxHeartbeats 4000000 in
set_option maxRecDepth 100000 in
theorem sets_all.calls (k : Nat) (A0 : Option Addr) (c0 : Nat) (l0 : List S82) (A1 : Option Addr) (c1 : Nat) (l1 : List S101) (A2 : Option Addr) (c2 : Nat) (l2 : List ByteArray) (A3 : Option Addr) (c3 : Nat) (l3 : List S64) (st : Int) (term : Bool) (r : List Bool) (w : World)
  (hr0 : Kd.C k82 w A0 l0.length l0) (hc0 : l0.length ≤ c0) (hr1 : Kd.C k101 w A1 l1.length l1) (hc1 : l1.length ≤ c1) (hr2 : Kd.C Kd.string w A2 l2.length l2) (hc2 : l2.length ≤ c2) (hr3 : Kd.C k64 w A3 l3.length l3) (hc3 : l3.length ≤ c3)
  (h : sets_all.f k l0 l1 l2 l3 st term = some r) :
  Calls Tryd.prog 49 #[.agg #[.slice A0 l0.length c0, .slice A1 l1.length c1, .slice A2 l2.length c2, .slice A3 l3.length c3, .int .i64 st], .bool term] w fun e w' => ∃ v0_ : Value, e = .returned v0_ ∧ Kd.R Kd.bool 4 w' w.heap.size (fun _ => True) v0_ r ∧ Below w.heap.size w w' := by
 have HR0 := Aside0.mk hr0
 have HR1 := Aside0.mk hr1
 have HR2 := Aside0.mk hr2
 have HR3 := Aside0.mk hr3
 clear hr0 hr1 hr2 hr3 hc0 hc1 hc2 hc3
 obtain ⟨vb, hv⟩ : ∃ vb, validB l0 l1 l2 l3 st = vb := ⟨_, rfl⟩
 unfold sets_all.f at h
 rw [hv] at h
 have HV := Aside0.mk hv
 have H := Aside0.mk h
 have hu27 := Tryd.underlying27
 clear hv h
 go_enter Tryd.func49, Tryd.ntmps49
 go_upto_region 1 with fail
 have HB : Aside0 (Below w.heap.size w ((w.alloc (Obj.cells #[.slice A0 l0.length c0, .slice A1 l1.length c1, .slice A2 l2.length c2, .slice A3 l3.length c3, .int .i64 st] 27)).alloc (Obj.cells #[.bool term] 4))) := ⟨below_alloc (below_alloc (Below.refl _ _) _) _⟩
 have f0 : ((w.alloc (Obj.cells #[.slice A0 l0.length c0, .slice A1 l1.length c1, .slice A2 l2.length c2, .slice A3 l3.length c3, .int .i64 st] 27)).alloc (Obj.cells #[.bool term] 4)).cell? ⟨w.heap.size, 0, none⟩ = some (.slice A0 l0.length c0) := by go_simp
 have f1 : ((w.alloc (Obj.cells #[.slice A0 l0.length c0, .slice A1 l1.length c1, .slice A2 l2.length c2, .slice A3 l3.length c3, .int .i64 st] 27)).alloc (Obj.cells #[.bool term] 4)).cell? ⟨w.heap.size, 1, none⟩ = some (.slice A1 l1.length c1) := by go_simp
 have f2 : ((w.alloc (Obj.cells #[.slice A0 l0.length c0, .slice A1 l1.length c1, .slice A2 l2.length c2, .slice A3 l3.length c3, .int .i64 st] 27)).alloc (Obj.cells #[.bool term] 4)).cell? ⟨w.heap.size, 2, none⟩ = some (.slice A2 l2.length c2) := by go_simp
 have f3 : ((w.alloc (Obj.cells #[.slice A0 l0.length c0, .slice A1 l1.length c1, .slice A2 l2.length c2, .slice A3 l3.length c3, .int .i64 st] 27)).alloc (Obj.cells #[.bool term] 4)).cell? ⟨w.heap.size, 3, none⟩ = some (.slice A3 l3.length c3) := by go_simp
 have f4 : ((w.alloc (Obj.cells #[.slice A0 l0.length c0, .slice A1 l1.length c1, .slice A2 l2.length c2, .slice A3 l3.length c3, .int .i64 st] 27)).alloc (Obj.cells #[.bool term] 4)).cell? ⟨w.heap.size, 4, none⟩ = some (.int .i64 st) := by go_simp
 have f5 : ((w.alloc (Obj.cells #[.slice A0 l0.length c0, .slice A1 l1.length c1, .slice A2 l2.length c2, .slice A3 l3.length c3, .int .i64 st] 27)).alloc (Obj.cells #[.bool term] 4)).cell? ⟨w.heap.size + 1, 0, none⟩ = some (.bool term) := by go_simp
 have hsz : Aside0 (((w.alloc (Obj.cells #[.slice A0 l0.length c0, .slice A1 l1.length c1, .slice A2 l2.length c2, .slice A3 l3.length c3, .int .i64 st] 27)).alloc (Obj.cells #[.bool term] 4)).heap.size = w.heap.size + 2) := ⟨by simp⟩
 generalize ((w.alloc (Obj.cells #[.slice A0 l0.length c0, .slice A1 l1.length c1, .slice A2 l2.length c2, .slice A3 l3.length c3, .int .i64 st] 27)).alloc (Obj.cells #[.bool term] 4)) = wy at *
 have E0 := Aside0.mk f0
 have E1 := Aside0.mk f1
 have E2 := Aside0.mk f2
 have E3 := Aside0.mk f3
 have E4 := Aside0.mk f4
 have E5 := Aside0.mk f5
 have HX : Aside0 (∃ gb gt : Nat, gb = w.heap.size ∧ gt = w.heap.size + 1) := ⟨_, _, rfl, rfl⟩
 generalize hgb : w.heap.size = gb at f0 f1 f2 f3 f4 f5 E0 E1 E2 E3 E4 E5 hsz ⊢
 obtain ⟨gt, hgt⟩ : ∃ gt, gb + 1 = gt := ⟨_, rfl⟩
 rw [hgt] at f5 E5 ⊢
 have HGT : Aside0 (gb < wy.heap.size ∧ gt < wy.heap.size) := ⟨by have := hsz.out; omega⟩
 clear hgb hgt hsz HX
 have hval : Aside0 (Calls Tryd.prog 34 #[.agg #[.slice A0 l0.length c0, .slice A1 l1.length c1, .slice A2 l2.length c2, .slice A3 l3.length c3, .int .i64 st]] wy fun e w' => e = .returned (.bool vb) ∧ Below wy.heap.size wy w') := ⟨by
  have := valid_calls A0 c0 l0 A1 c1 l1 A2 c2 l2 A3 c3 l3 st wy (Kd.C_below HR0.out HB.out) (Kd.C_below HR1.out HB.out) (Kd.C_below HR2.out HB.out) (Kd.C_below HR3.out HB.out)
  rwa [HV.out] at this⟩
 cases vb
 ·go_wp2_with (go_at_call 34; refine hval.out.mono ?_; rintro e w3 ⟨rfl, hb3⟩; replace hb3 := Aside0.mk hb3)
  go_ret
  have hr : ([] : List Bool) = r := by have := H.out; simpa using this
  subst hr
  exact ⟨_, rfl, Kd.R_nil _ _ _ _ _, below_step HB.out hb3.out⟩
 ·have HH : Aside0 (growG false (moreB term) l3 k (List.replicate l2.length false) = some r) := ⟨by have := H.out; simpa using this⟩
  have hvh := Aside0.mk (valid_has HV.out)
  have h60 : (l2.length : Int) ≤ 60 := by have := hvh.out.1; omega
  have hpos : Aside0 (0 < l2.length) := ⟨by have := hvh.out.2.1; omega⟩
  clear H
  go_upto_region 4 with (first | (go_at_call 34; refine hval.out.mono ?_; rintro e w3 ⟨rfl, hb3⟩; have F2 := pw_cell_below hb3 E2.out; replace hb3 := Aside0.mk hb3) | ((with_reducible refine gate_dst (N := 12) rfl ?_); refine Kd.R_make (w0 := w) Kd.bool w.heap.size 4 rfl (N := 12) rfl 66 _ _ rfl (l2.length : Int) rfl rfl Tryd.underlying66 (.bool false) 1 info4 rfl (by decide) (by omega) false (ok := fun _ => True) (okp := fun _ => True) rfl (fun _ hk => hk) trivial (by omega) (by omega) (below_step HB.out hb3.out) (below_size (below_step HB.out hb3.out)) ?_; intro v1 w4 ho hb4 hg4 hnew4; rw [Int.toNat_natCast] at ho; obtain ⟨G, cap, hv1, hGb, hGs, hGc⟩ := Kd.R_form ho (by rw [List.length_replicate]; exact hpos.out); rw [List.length_replicate] at hv1; subst hv1; replace ho := Aside0.mk ho; replace hb4 := Aside0.mk hb4; replace hg4 := Aside0.mk hg4; replace hnew4 := Aside0.mk hnew4; replace hGb := Aside0.mk (And.intro hGb hGs); clear hGs hGc))
  have hmf : ∀ (fn : Fn) (first cap : Array Value) (w : World), (Instr.makeFunc fn first cap).run Tryd.prog w = .ok (.func fn first cap) w := fun _ _ _ _ => rfl
  have hG3 : Aside0 (w3.heap.size ≤ G) := ⟨by obtain ⟨b, e, hb⟩ := hnew4.out; simp only [Value.ownBlock] at e; injection e with e; rw [e]; exact hb⟩
  have H34 : Aside0 (Below w3.heap.size w3 (w4.alloc (Obj.cells #[.slice (some ⟨G, 0, none⟩) l2.length cap] 66))) := ⟨below_alloc (below_of_grown0 hg4.out) _⟩
  have Hy5 : Aside0 (Below wy.heap.size wy (w4.alloc (Obj.cells #[.slice (some ⟨G, 0, none⟩) l2.length cap] 66))) := ⟨below_step hb3.out H34.out⟩
  have Hw5 : Aside0 (Below w.heap.size w (w4.alloc (Obj.cells #[.slice (some ⟨G, 0, none⟩) l2.length cap] 66))) := ⟨below_alloc hb4.out _⟩
  have hR5 := Aside0.mk (Kd.R_alloc ho.out (Obj.cells #[.slice (some ⟨G, 0, none⟩) l2.length cap] 66))
  have q5 : (w4.alloc (Obj.cells #[.slice (some ⟨G, 0, none⟩) l2.length cap] 66)).cell? ⟨w4.heap.size, 0, none⟩ = some (.slice (some ⟨G, 0, none⟩) l2.length cap) := by go_simp
  have hs5 : Aside0 (w4.heap.size < (w4.alloc (Obj.cells #[.slice (some ⟨G, 0, none⟩) l2.length cap] 66)).heap.size) := ⟨by simp⟩
  have hb5n : Aside0 (w4.heap.size ≠ G) := ⟨by have := hGb.out.2; omega⟩
  have hgtn : Aside0 (gt ≠ G) := ⟨by have := hG3.out; have := hb3.out.size; have := HGT.out.2; omega⟩
  clear f0 f1 f2 f3 f4 f5 F2
  generalize (w4.alloc (Obj.cells #[.slice (some ⟨G, 0, none⟩) l2.length cap] 66)) = w5 at *
  generalize w4.heap.size = b5 at *
  have f0 := pw_cell_below Hy5.out E0.out
  have f1 := pw_cell_below Hy5.out E1.out
  have f2 := pw_cell_below Hy5.out E2.out
  have f3 := pw_cell_below Hy5.out E3.out
  have f4 := pw_cell_below Hy5.out E4.out
  have hgrow := Aside0.mk (grow_bool k term A0 c0 l0 A1 c1 l1 A2 c2 l2 A3 c3 l3 st gt b5 G l2.length cap w.heap.size (fun _ => True) (List.replicate l2.length false) r w w5 HR3.out Hw5.out hGb.out.1 (Nat.lt_trans hGb.out.2 hs5.out) (pw_cell_below Hy5.out E5.out) q5 hgtn.out hb5n.out hR5.out hvh.out.2.2 HH.out)
  go_wp2_with (go_at_call 78; refine hgrow.out.mono ?_; rintro e w6 ⟨rfl, hr6, hg6⟩; replace hr6 := Aside0.mk hr6; replace hg6 := Aside0.mk hg6)
  go_ret
  exact ⟨_, rfl, hr6.out, below_grownS Hw5.out hg6.out hGb.out.1⟩

end Go.Proofs.YtclollnicbcooaaDoor.P
end

section
namespace Go.Proofs.YtclollnicbcooaaDoor.P
open Go.RowKit Go.Proofs.YtclollnicbcooaaDoorW.PrintWords Go.Proofs.YtclollnicbcooaaDoorW.PrintLast Go.Proofs.YtclollnicbcooaaDoorW.PrintMore
attribute [local go_sem] max2_int min2_int max_two min_two max_three min_three max_four min_four   -- for this text's walks alone
set_option linter.unusedVariables false
set_option linter.unusedSimpArgs false

/-! ### sets_Empty: function 80 -/
def sets_Empty.f (k : Nat) (l0_0 : List (S82)) (l0_1 : List (S101)) (l0_2 : List ByteArray) (l0_3 : List (S64)) (a0_4 : Int) : Option (List Bool) := (sets_all.f k l0_0 l0_1 l0_2 l0_3 a0_4 false).bind fun t170 => (some t170)
theorem sets_Empty.mono : ∀ a0 a1 a2 a3 a4 k, LeO (sets_Empty.f k a0 a1 a2 a3 a4) (sets_Empty.f (k + 1) a0 a1 a2 a3 a4) := by
 intro a0 a1 a2 a3 a4 k
 unfold sets_Empty.f
 repeat' first
   | (with_reducible exact sets_all.mono _ _ _ _ _ _ _)
   | (with_reducible exact LeO.refl _)
   | (with_reducible exact LeO.none _)
   | (with_reducible refine LeO.ite ?_ ?_)
   | (with_reducible refine LeO.bind ?_ (fun _ => ?_))
   | exact sets_all.mono _ _ _ _ _ _ _
   | exact LeO.none _
   | refine LeO.ite ?_ ?_
   | refine LeO.bind ?_ (fun _ => ?_)
set_option maxHeartbeats 8000000 in
set_option maxRecDepth 100000 in
theorem sets_Empty.calls (k : Nat) (A0_0 : Option Addr) (c0_0 : Nat) (l0_0 : List (S82)) (A0_1 : Option Addr) (c0_1 : Nat) (l0_1 : List (S101)) (A0_2 : Option Addr) (c0_2 : Nat) (l0_2 : List ByteArray) (A0_3 : Option Addr) (c0_3 : Nat) (l0_3 : List (S64)) (a0_4 : Int) (r : List Bool) (w : World) (hr0_0 : Kd.C k82 w A0_0 l0_0.length l0_0) (hc0_0 : l0_0.length ≤ c0_0) (hr0_1 : Kd.C k101 w A0_1 l0_1.length l0_1) (hc0_1 : l0_1.length ≤ c0_1) (hr0_2 : Kd.C Kd.string w A0_2 l0_2.length l0_2) (hc0_2 : l0_2.length ≤ c0_2) (hr0_3 : Kd.C k64 w A0_3 l0_3.length l0_3) (hc0_3 : l0_3.length ≤ c0_3) (h : sets_Empty.f k l0_0 l0_1 l0_2 l0_3 a0_4 = some r) :
  Calls Tryd.prog 80 #[.agg #[.slice A0_0 l0_0.length c0_0, .slice A0_1 l0_1.length c0_1, .slice A0_2 l0_2.length c0_2, .slice A0_3 l0_3.length c0_3, .int .i64 a0_4]] w fun e w' => ∃ v0_ : Value, e = .returned (v0_) ∧ Kd.R Kd.bool 4 w' w.heap.size (fun _ => True) v0_ r ∧ Below w.heap.size w w' := by
 have hu27 := Tryd.underlying27
 have HR0_0 := Aside0.mk hr0_0
 have HC0_0 := Aside0.mk hc0_0
 clear hr0_0 hc0_0
 have HR0_1 := Aside0.mk hr0_1
 have HC0_1 := Aside0.mk hc0_1
 clear hr0_1 hc0_1
 have HR0_2 := Aside0.mk hr0_2
 have HC0_2 := Aside0.mk hc0_2
 clear hr0_2 hc0_2
 have HR0_3 := Aside0.mk hr0_3
 have HC0_3 := Aside0.mk hc0_3
 clear hr0_3 hc0_3
 have HB := Aside0.mk (Below.refl w.heap.size w)
 have H : ((sets_all.f k l0_0 l0_1 l0_2 l0_3 a0_4 false).bind fun t170 => (some t170)) = some r := h
 clear h
 replace H := Option.bind_eq_some_iff.mp H
 obtain ⟨t170, A20, H⟩ := H
 replace H : (some t170) = some r := H
 have A2 := Aside0.mk A20
 clear A20
 obtain rfl := Option.some.inj H
 go_enter Tryd.func80, Tryd.ntmps80
 go_wp2_with (first | ((with_reducible refine gate_dst (N := 1) rfl ?_); refine box_event ?hg (N := 1) ?hd (cs := #[.slice A0_0 l0_0.length c0_0, .slice A0_1 l0_1.length c0_1, .slice A0_2 l0_2.length c0_2, .slice A0_3 l0_3.length c0_3, .int .i64 a0_4]) (t := 27) ?hr ?_; (case hd => rfl); (case hg => rfl); (case hr => first | (go_simp; done) | (go_simp; rfl)); intro gb169 hg w3 hbox hb; have n0_ := Aside0.mk (below_step (by repeat (first | (with_reducible first | exact HB.out | apply below_alloc | apply pw_below_drewN | apply below_drew1) | exact HB.out)) hb); have n1_ := Aside0.mk (hbox); have n2_ := Aside0.mk ((by rw [hg]; exact (below_size (by repeat (first | (with_reducible first | exact HB.out | apply below_alloc | apply pw_below_drewN | apply below_drew1) | exact HB.out))) : w.heap.size ≤ gb169)); have n3_ := Aside0.mk ((by rw [hg]; exact (below_size (by repeat (first | (with_reducible first | exact HB.out | apply below_alloc | apply pw_below_drewN | apply below_drew1) | exact HB.out))) : w.heap.size ≤ gb169)); clear HB; have HB := n0_; have BK169 := n1_; have GW169 := n2_; have GE169 := n3_; clear n0_ n1_ n2_ n3_; clear hb hbox hg; have hcz4_0 : w3.cell? ⟨gb169, 0, none⟩ = some (.slice A0_0 l0_0.length c0_0) := (blk_cell BK169.out 0).trans rfl; have hcz4_1 : w3.cell? ⟨gb169, 1, none⟩ = some (.slice A0_1 l0_1.length c0_1) := (blk_cell BK169.out 1).trans rfl; have hcz4_2 : w3.cell? ⟨gb169, 2, none⟩ = some (.slice A0_2 l0_2.length c0_2) := (blk_cell BK169.out 2).trans rfl; have hcz4_3 : w3.cell? ⟨gb169, 3, none⟩ = some (.slice A0_3 l0_3.length c0_3) := (blk_cell BK169.out 3).trans rfl; have hcz4_4 : w3.cell? ⟨gb169, 4, none⟩ = some (.int .i64 a0_4) := (blk_cell BK169.out 4).trans rfl; have hfz4_0 := blk_frozen BK169.out 0; have hfz4_1 := blk_frozen BK169.out 1; have hfz4_2 := blk_frozen BK169.out 2; have hfz4_3 := blk_frozen BK169.out 3; have hfz4_4 := blk_frozen BK169.out 4) | ((with_reducible refine gate_callee (f := 49) rfl ?_); refine goesL_ (some 4) rfl rfl Tryd.func49 (by kernel_rfl) rfl #[.agg #[.slice A0_0 l0_0.length c0_0, .slice A0_1 l0_1.length c0_1, .slice A0_2 l0_2.length c0_2, .slice A0_3 l0_3.length c0_3, .int .i64 a0_4], .bool false] rfl (by (try simp only [List.map_toArray, List.map_cons, List.map_nil]); first | done | rfl | (simp only [List.length_drop, List.length_take]; rfl)) ?_; (with_reducible refine (sets_all.calls k _ _ l0_0 _ _ l0_1 _ _ l0_2 _ _ l0_3 a0_4 false t170 _ ?side1 ?side2 ?side3 ?side4 ?side5 ?side6 ?side7 ?side8 A2.out).mono ?_); (case side1 => repeat (first | exact (Kd.C_below HR0_0.out HB.out) | (with_reducible refine Kd.C_alloc ?_ _) | (with_reducible refine Kd.C_drewN ?_ _) | (with_reducible refine Kd.C_drew ?_))); (case side2 => exact HC0_0.out); (case side3 => repeat (first | exact (Kd.C_below HR0_1.out HB.out) | (with_reducible refine Kd.C_alloc ?_ _) | (with_reducible refine Kd.C_drewN ?_ _) | (with_reducible refine Kd.C_drew ?_))); (case side4 => exact HC0_1.out); (case side5 => repeat (first | exact (Kd.C_below HR0_2.out HB.out) | (with_reducible refine Kd.C_alloc ?_ _) | (with_reducible refine Kd.C_drewN ?_ _) | (with_reducible refine Kd.C_drew ?_))); (case side6 => exact HC0_2.out); (case side7 => repeat (first | exact (Kd.C_below HR0_3.out HB.out) | (with_reducible refine Kd.C_alloc ?_ _) | (with_reducible refine Kd.C_drewN ?_ _) | (with_reducible refine Kd.C_drew ?_))); (case side8 => exact HC0_3.out); rintro e w5 ⟨v171, rfl, ho0, hb⟩; refine ⟨_, rfl, ?_⟩; have n0_ := Aside0.mk (Kd.R_lower ho0 (below_size (by repeat (first | (with_reducible first | exact HB.out | apply below_alloc | apply pw_below_drewN | apply below_drew1 | refine below_set ?_ GE169.out) | exact HB.out)))); have n1_ := Aside0.mk (blk_below (g := gb169) (o := .cells #[.slice A0_0 l0_0.length c0_0, .slice A0_1 l0_1.length c0_1, .slice A0_2 l0_2.length c0_2, .slice A0_3 l0_3.length c0_3, .int .i64 a0_4] 27 (0, 0)) (by (with_reducible repeat (first | refine blk_drewN ?_ _ | refine blk_drew ?_ | refine blk_alloc ?_ _)); exact BK169.out) hb); have n2_ := Aside0.mk (below_step (by repeat (first | (with_reducible first | exact HB.out | apply below_alloc | apply pw_below_drewN | apply below_drew1 | refine below_set ?_ GE169.out) | exact HB.out)) hb); clear BK169; clear HB; have HO172 := n0_; have BK169 := n1_; have HB := n2_; clear n0_ n1_ n2_; (try clear hb); (try clear hb2); (try clear hk); (try clear hi); (try clear ho0)))
 go_ret
 exact ⟨_, by first | rfl | (simp [errW_none, errW_some] <;> rfl) | (simp [*, errW_none, errW_some] <;> rfl), by (with_reducible repeat (first | apply Kd.R_alloc | apply Kd.R_drewN | apply Kd.R_drew)); exact HO172.out, by repeat (first | (with_reducible first | exact HB.out | apply below_alloc | apply pw_below_drewN | apply below_drew1 | refine below_set ?_ GE169.out) | exact HB.out)⟩

-- NOT PRINTED: function 81 (api_Set)

-- NOT PRINTED: function 51 (sets_known)

/-! ### sets_Lives: function 29 -/
def sets_Lives.f (k : Nat) (l0_0 : List (S82)) (l0_1 : List (S101)) (l0_2 : List ByteArray) (l0_3 : List (S64)) (a0_4 : Int) : Option (List Bool) := (sets_all.f k l0_0 l0_1 l0_2 l0_3 a0_4 true).bind fun t252 => (some t252)
end Go.Proofs.YtclollnicbcooaaDoor.P
end

section
set_option linter.unusedVariables false
set_option linter.unusedSimpArgs false
namespace Go.Proofs.YtclollnicbcooaaDoor.P
open Go.RowKit Go.Proofs.YtclollnicbcooaaDoorW.PrintWords Go.Proofs.YtclollnicbcooaaDoorW.PrintLast Go.Proofs.YtclollnicbcooaaDoorW.PrintMore

def rowF (nT nS : Int) (es : List Bool) (fs : List Int) (behind : Int) : List Int → Int → Option Int
 | [], out => bits_Union.f out behind
 | s :: l, out => if nT ≤ s ∨ s < -nS then some out else if 0 ≤ s then bits_With.f out s else
   (bits_Union.f out (rd fs (-1 - s))).bind fun o => if rdOf false es (-1 - s) = true then rowF nT nS es fs behind l o else some o

theorem rowF_drop (nT nS : Int) (es : List Bool) (fs : List Int) (behind : Int) (l : List Int) (k : Nat) (hk : k < l.length) (out : Int) :
  rowF nT nS es fs behind (l.drop k) out = if nT ≤ l[k] ∨ l[k] < -nS then some out else if 0 ≤ l[k] then bits_With.f out l[k] else
   (bits_Union.f out (rd fs (-1 - l[k]))).bind fun o => if rdOf false es (-1 - l[k]) = true then rowF nT nS es fs behind (l.drop (k + 1)) o else some o := by
 rw [List.drop_eq_getElem_cons hk]; rfl

set_option maxHeartbeats 4000000 in
set_option maxRecDepth 100000 in
theorem row_calls (tb nT nS : Nat) (A0 A2 E F : Option Addr) (c0 c2 cE cF : Nat) (es : List Bool) (fs : List Int) (A : Option Addr) (c : Nat) (l : List Int) (behind r : Int) (w : World)
  (hl : Kd.C (Kd.int .i64) w A l.length l) (hnS : nS ≤ 60) (ht0 : w.cell? ⟨tb, 0, none⟩ = some (.slice A0 nT c0)) (ht2 : w.cell? ⟨tb, 2, none⟩ = some (.slice A2 nS c2)) (ht5 : w.cell? ⟨tb, 5, none⟩ = some (.slice E nS cE)) (ht6 : w.cell? ⟨tb, 6, none⟩ = some (.slice F nS cF))
  (hE : Kd.C Kd.bool w E nS es) (hF : Kd.C (Kd.int .u64) w F nS fs) (h : rowF nT nS es fs behind l 0 = some r) :
  Calls Tryd.prog 53 #[.pointer (some ⟨tb, 0, none⟩), .slice A l.length c, .int .u64 behind] w fun e w' => e = .returned (.int .u64 r) ∧ Drawn0 w w' := by
 have HL := Aside0.mk hl
 have HE := Aside0.mk hE
 have HF := Aside0.mk hF
 have H := Aside0.mk h
 have hmx : l.length ≤ 9223372036854775807 := hl.2.1
 have hu138 := Tryd.underlying138
 have hu27 := Tryd.underlying27
 have hneg : IntKind.i64.wrap (-(nS : Int)) = -(nS : Int) := IntWalk.i64_in _ (by omega)
 have HnS := Aside0.mk hnS
 clear hl hE hF h hnS
 go_enter Tryd.func53, Tryd.ntmps53
 go_wp2
 go_loopw [7, 12] (fun v7 v12 wr => ∃ (k : Nat) (out : Int), v7 = .int .u64 out ∧ v12 = .int .i64 k ∧ k ≤ l.length ∧ Aside0 (rowF nT nS es fs behind (l.drop k) out = some r) ∧ Aside0 (∃ m, wr = w.drewN m)) (fun _ v12 _ => l.length - (intOf v12).toNat)
 case atStart => exact ⟨0, 0, rfl, rfl, Nat.zero_le _, ⟨by rw [List.drop_zero]; exact H.out⟩, ⟨⟨0, rfl⟩⟩⟩
 case round =>
  obtain ⟨k, out, rfl, rfl, hk, HT, ⟨m, rfl⟩⟩ := hrel
  by_cases hlt : k < l.length
  ·have hltb : decide (k < l.length) = true := decide_eq_true (by omega)
   obtain ⟨ad, e1, hx1⟩ := Kd.at_int HL.out (k : Int) (by omega) (by omega)
   rw [Int.toNat_natCast] at hx1
   have hrk : rd l (k : Int) = l[k] := by unfold rd; simp [List.getD, hlt]
   obtain ⟨s, hs⟩ : ∃ s, l[k] = s := ⟨_, rfl⟩
   rw [hrk, hs] at hx1
   have HT2 := HT.out
   rw [rowF_drop _ _ _ _ _ l k hlt, hs] at HT2
   clear hrk hs
   subst e1
   by_cases h1 : (nT : Int) ≤ s
   ·rw [if_pos (.inl h1)] at HT2
    replace HT2 := Aside0.mk HT2
    go_wp2
    go_ret
    exact ⟨by have := HT2.out; injection this with this; rw [← this]; rfl, ⟨_, rfl⟩⟩
   ·by_cases h2 : s < -(nS : Int)
    ·rw [if_pos (.inr h2)] at HT2
     replace HT2 := Aside0.mk HT2
     have h2b : decide (s < -(nS : Int)) = true := decide_eq_true h2
     go_wp2
     go_ret
     exact ⟨by have := HT2.out; injection this with this; rw [← this]; rfl, ⟨_, rfl⟩⟩
    ·rw [if_neg (by rintro (h | h) <;> omega)] at HT2
     have h2b : decide (s < -(nS : Int)) = false := decide_eq_false h2
     by_cases h3 : 0 ≤ s
     ·rw [if_pos h3] at HT2
      replace HT2 := Aside0.mk HT2
      have h3b : decide (0 ≤ s) = true := decide_eq_true h3
      go_wp2_with (go_at_call 83; refine (bits_With.calls _ _ _ _ HT2.out).mono ?_; rintro e wx ⟨rfl, m2, rfl⟩)
      go_ret
      exact ⟨rfl, ⟨_, rfl⟩⟩
     ·rw [if_neg h3] at HT2
      have h3b : decide (0 ≤ s) = false := decide_eq_false h3
      obtain ⟨j, hj⟩ : ∃ j, -1 - s = j := ⟨_, rfl⟩
      have hw : IntKind.i64.wrap (-1 - s) = j := by rw [IntWalk.i64_in _ (by have := HnS.out; omega)]; exact hj
      obtain ⟨adf, e2, hx2⟩ := Kd.at_int HF.out j (by omega) (by omega)
      obtain ⟨ade, e3, hx3⟩ := Kd.at_bool HE.out j (by omega) (by omega)
      subst e2
      subst e3
      rw [hj] at HT2
      have q0 : (0 ≤ j) = True := eq_true (by omega)
      have q1 : (j < (nS : Int)) = True := eq_true (by omega)
      obtain ⟨o, ho⟩ : ∃ o, rdOf false es j = o := ⟨_, rfl⟩
      obtain ⟨u, hu⟩ : ∃ u, bits_Union.f out (rd fs j) = some u := ⟨_, rfl⟩
      rw [ho] at HT2 hx3
      rw [hu] at HT2
      have HU := Aside0.mk hu
      clear ho hu hj
      cases o
      ·replace HT2 : Aside0 (some u = some r) := ⟨by simpa using HT2⟩
       go_wp2_with (go_at_call 52; refine (bits_Union.calls _ _ _ _ HU.out).mono ?_; rintro e wx ⟨rfl, m2, rfl⟩)
       go_ret
       exact ⟨by have := HT2.out; injection this with this; rw [← this]; rfl, ⟨_, rfl⟩⟩
      ·replace HT2 : Aside0 (rowF nT nS es fs behind (l.drop (k + 1)) u = some r) := ⟨by simpa using HT2⟩
       go_wp2_with (go_at_call 52; refine (bits_Union.calls _ _ _ _ HU.out).mono ?_; rintro e wx ⟨rfl, m2, rfl⟩)
       exact ⟨⟨k + 1, u, rfl, rfl, by omega, HT2, ⟨⟨_, rfl⟩⟩⟩, by simp [intOf]; omega⟩
  ·have hltb : decide (k < l.length) = false := decide_eq_false (by omega)
   have HU : Aside0 (bits_Union.f out behind = some r) := ⟨by have := HT.out; rwa [List.drop_eq_nil_of_le (by omega)] at this⟩
   go_wp2_with (go_at_call 52; refine (bits_Union.calls _ _ _ _ HU.out).mono ?_; rintro e wx ⟨rfl, m2, rfl⟩)
   go_ret
   exact ⟨rfl, ⟨_, rfl⟩⟩

end Go.Proofs.YtclollnicbcooaaDoor.P
end

section
set_option linter.unusedVariables false
set_option linter.unusedSimpArgs false
namespace Go.Proofs.YtclollnicbcooaaDoor.P
open Go.Proofs.YtclollnicbcooaaDoor.Base Go.RowKit Go.Proofs.YtclollnicbcooaaDoorW.PrintWords Go.Proofs.YtclollnicbcooaaDoorW.PrintLast Go.Proofs.YtclollnicbcooaaDoorW.PrintMore

def moreS (nT nS : Int) (es : List Bool) (xs : List Int) (p : S64) : Int := Go.bits .or .u64 (rdOf 0 xs p.f1) ((rowF nT nS es xs 0 p.f2 0).getD 0)

theorem below_drawn {w w' : World} (h : Drawn0 w w') : Below w.heap.size w w' := by
 obtain ⟨m, rfl⟩ := h; exact pw_below_drewN (Below.refl _ _) m

set_option maxHeartbeats 4000000 in
set_option maxRecDepth 100000 in
theorem known1_calls (b3 tb nT nS G cap : Nat) (A0 A2 E : Option Addr) (c0 c2 cE : Nat) (es : List Bool) (xs : List Int) (base : Nat) (ok : Nat → Prop) (p : S64) (A : Option Addr) (c : Nat) (w : World)
  (hnS : nS ≤ 60) (h3 : w.cell? ⟨b3, 0, none⟩ = some (.pointer (some ⟨tb, 0, none⟩))) (ht0 : w.cell? ⟨tb, 0, none⟩ = some (.slice A0 nT c0)) (ht2 : w.cell? ⟨tb, 2, none⟩ = some (.slice A2 nS c2)) (ht5 : w.cell? ⟨tb, 5, none⟩ = some (.slice E nS cE)) (ht6 : w.cell? ⟨tb, 6, none⟩ = some (.slice (some ⟨G, 0, none⟩) nS cap))
  (hE : Kd.C Kd.bool w E nS es) (hR : Kd.R (Kd.int .u64) 76 w base ok (.slice (some ⟨G, 0, none⟩) nS cap) xs) (hp : Kd.C (Kd.int .i64) w A p.f2.length p.f2) (h0 : 0 ≤ p.f1) (h1 : p.f1 < nS) (hq : ∃ q, rowF nT nS es xs 0 p.f2 0 = some q) :
  Calls Tryd.prog 82 #[.agg #[.string p.f0, .int .i64 p.f1, .slice A p.f2.length c, .int .i64 p.f3], .pointer (some ⟨b3, 0, none⟩)] w fun e w' => e = .returned (.tuple #[.int .i64 p.f1, .int .u64 (moreS nT nS es xs p)]) ∧ Below w.heap.size w w' := by
 obtain ⟨q, hq⟩ := hq
 have hmo : Aside0 (moreS nT nS es xs p = Go.bits .or .u64 (rdOf 0 xs p.f1) q) := ⟨by unfold moreS; rw [hq]; rfl⟩
 have hcell := (Kd.R_celln 0 hR p.f1 h0 h1).1
 have hC := (Kd.R_reads' hR).2.2
 rw [← (Kd.R_reads' hR).1] at hC
 have hrow := fun (w' : World) (hb : Below w.heap.size w w') => row_calls tb nT nS A0 A2 E (some ⟨G, 0, none⟩) c0 c2 cE cap es xs A c p.f2 0 q w' (Kd.C_below hp hb) hnS (pw_cell_below hb ht0) (pw_cell_below hb ht2) (pw_cell_below hb ht5) (pw_cell_below hb ht6) (Kd.C_below hE hb) (Kd.C_below hC hb) hq
 have q0 : (0 ≤ p.f1) = True := eq_true h0
 have q1 : (p.f1 < (nS : Int)) = True := eq_true h1
 obtain ⟨o, ho⟩ : ∃ o, rdOf 0 xs p.f1 = o := ⟨_, rfl⟩
 obtain ⟨nl, hnl⟩ : ∃ nl, p.f2.length = nl := ⟨_, rfl⟩
 obtain ⟨lab, hlab⟩ : ∃ lab, p.f0 = lab := ⟨_, rfl⟩
 obtain ⟨srt, hsrt⟩ : ∃ srt, p.f1 = srt := ⟨_, rfl⟩
 obtain ⟨cls, hcls⟩ : ∃ cls, p.f3 = cls := ⟨_, rfl⟩
 have HMO : Aside0 (moreS nT nS es xs p = Go.bits .or .u64 o q) := ⟨by rw [hmo.out, ho]⟩
 rw [ho] at hcell
 rw [hsrt] at hcell q0 q1
 rw [hnl] at hrow
 rw [hnl, hlab, hsrt, hcls]
 replace hrow := Aside0.mk hrow
 have hu64 := Tryd.underlying64
 have hu138 := Tryd.underlying138
 clear hmo ho hnl hlab hsrt hcls h0 h1 hnS hE hR hp hC hq ht0 ht2 ht5
 go_enter Tryd.func82, Tryd.ntmps82
 go_upto_region 1 with fail
 have HZ : Aside0 (Below w.heap.size w (w.alloc (Obj.cells #[.string lab, .int .i64 srt, .slice A nl c, .int .i64 cls] 64))) := ⟨below_alloc (Below.refl _ _) _⟩
 have g1 : (w.alloc (Obj.cells #[.string lab, .int .i64 srt, .slice A nl c, .int .i64 cls] 64)).cell? ⟨w.heap.size, 1, none⟩ = some (.int .i64 srt) := by go_simp
 have g2 : (w.alloc (Obj.cells #[.string lab, .int .i64 srt, .slice A nl c, .int .i64 cls] 64)).cell? ⟨w.heap.size, 2, none⟩ = some (.slice A nl c) := by go_simp
 generalize w.alloc (Obj.cells #[.string lab, .int .i64 srt, .slice A nl c, .int .i64 cls] 64) = wy at *
 replace h3 := cell_below (pw_cell_below HZ.out h3)
 replace ht6 := cell_below (pw_cell_below HZ.out ht6)
 replace hcell := cell_below (pw_cell_below HZ.out hcell)
 replace g1 := cell_below g1
 replace g2 := cell_below g2
 generalize hg : w.heap.size = gy at g1 g2 ⊢
 clear hg
 refine wp_region_below (by kernel_rfl) (by kernel_rfl) ?_
 repeat (refine wpQuiet_step (fun K hK => ?_); go_simp; (first | (refine hK _ ?_; clear hK K) | (apply Exists.intro; refine ⟨fun wc hwc => ?_, hK _ ?_⟩; (first | exact rfl | (first | (go_at_call 53; exact calls_below hwc hwc.size ((hrow.out _ (below_step HZ.out hwc)).mono fun _ _ h => ⟨h.1, below_drawn h.2⟩)) | (go_at_call 52; exact calls_below hwc hwc.size ((bits_Union.calls _ _ _ _ rfl).mono fun _ _ h => ⟨h.1, below_drawn h.2⟩))) | (go_simp; exact rfl)); clear hK K)))
 refine wpQuiet_nil ?_
 intro wq hwq
 go_wp2
 go_ret2
 exact ⟨by rw [HMO.out]; rfl, below_step HZ.out hwq⟩

end Go.Proofs.YtclollnicbcooaaDoor.P
end

section
set_option linter.unusedVariables false
set_option linter.unusedSimpArgs false
namespace Go.Proofs.YtclollnicbcooaaDoor.P
open Go.Proofs.YtclollnicbcooaaDoor.Base Go.RowKit Go.Proofs.YtclollnicbcooaaDoorW.PrintWords Go.Proofs.YtclollnicbcooaaDoorW.PrintLast Go.Proofs.YtclollnicbcooaaDoorW.PrintMore

set_option maxHeartbeats 4000000 in
set_option maxRecDepth 100000 in
theorem grow_set (k0 tb nT nS : Nat) (B0 B2 E : Option Addr) (d0 d2 dE : Nat) (es : List Bool) (A0 : Option Addr) (c0 : Nat) (l0 : List S82) (A1 : Option Addr) (c1 : Nat) (l1 : List S101) (A2 : Option Addr) (c2 : Nat) (l2 : List ByteArray) (A3 : Option Addr) (c3 : Nat) (l3 : List S64) (st : Int)
  (b3 G cap base : Nat) (ok : Nat → Prop) (x0 r : List Int) (w W : World) (hr3 : Kd.C k64 w A3 l3.length l3) (hbel : Below w.heap.size w W) (hG : w.heap.size ≤ G) (hGW : G < W.heap.size)
  (hnS : nS ≤ 60) (h3 : W.cell? ⟨b3, 0, none⟩ = some (.pointer (some ⟨tb, 0, none⟩))) (ht0 : W.cell? ⟨tb, 0, none⟩ = some (.slice B0 nT d0)) (ht2 : W.cell? ⟨tb, 2, none⟩ = some (.slice B2 nS d2)) (ht5 : W.cell? ⟨tb, 5, none⟩ = some (.slice E nS dE)) (ht6 : W.cell? ⟨tb, 6, none⟩ = some (.slice (some ⟨G, 0, none⟩) nS cap)) (hE : ∀ wz : World, W.grownBy wz (some G) → Kd.C Kd.bool wz E nS es) (h3G : b3 ≠ G) (htG : tb ≠ G)
  (hR : Kd.R (Kd.int .u64) 76 W base ok (.slice (some ⟨G, 0, none⟩) nS cap) x0)
  (hs : ∀ p ∈ l3, (0 ≤ p.f1 ∧ p.f1 < nS) ∧ ∀ xs, ∃ q, rowF nT nS es xs 0 p.f2 0 = some q)
  (h : growG (0 : Int) (moreS nT nS es) l3 k0 x0 = some r) :
  Calls Tryd.prog 81 #[.agg #[.slice A0 l0.length c0, .slice A1 l1.length c1, .slice A2 l2.length c2, .slice A3 l3.length c3, .int .i64 st], .slice (some ⟨G, 0, none⟩) nS cap, .func (.func 82) #[] #[.pointer (some ⟨b3, 0, none⟩)]] W
   fun e w' => e = .returned (.slice (some ⟨G, 0, none⟩) nS cap) ∧ Kd.R (Kd.int .u64) 76 w' base ok (.slice (some ⟨G, 0, none⟩) nS cap) r ∧ W.grownBy w' (some G) := by
 have HR := Aside0.mk hR
 have HR3 := Aside0.mk hr3
 have HS := Aside0.mk hs
 have HBEL := Aside0.mk hbel
 have HG := Aside0.mk hG
 have HGW := Aside0.mk hGW
 have Bt := Aside0.mk (And.intro h3 (And.intro ht0 (And.intro ht2 (And.intro ht5 ht6))))
 have NB := Aside0.mk (And.intro h3G htG)
 have HE0 := Aside0.mk hE
 have HNS := Aside0.mk hnS
 have H := Aside0.mk h
 have hu := Tryd.underlying64
 have hu27 := Tryd.underlying27
 clear hR hr3 hs hbel hG hGW h3 ht0 ht2 ht5 ht6 hE h3G htG hnS h
 go_enter Tryd.func81, Tryd.ntmps81
 go_wp2
 have HZ : Aside0 (Below W.heap.size W (W.alloc (Obj.cells #[.slice A0 l0.length c0, .slice A1 l1.length c1, .slice A2 l2.length c2, .slice A3 l3.length c3, .int .i64 st] 27))) := ⟨below_alloc (Below.refl _ _) _⟩
 have G3 : Aside0 ((W.alloc (Obj.cells #[.slice A0 l0.length c0, .slice A1 l1.length c1, .slice A2 l2.length c2, .slice A3 l3.length c3, .int .i64 st] 27)).cell? ⟨W.heap.size, 3, none⟩ = some (.slice A3 l3.length c3)) := ⟨by go_simp⟩
 generalize W.alloc (Obj.cells #[.slice A0 l0.length c0, .slice A1 l1.length c1, .slice A2 l2.length c2, .slice A3 l3.length c3, .int .i64 st] 27) = wy at *
 replace HR := Aside0.mk (Kd.R_below HR.out HZ.out)
 have HEE : Aside0 (∀ wz : World, wy.grownBy wz (some G) → Kd.C Kd.bool wz E nS es) := ⟨fun wz hz => HE0.out wz (grown_of HZ.out hz)⟩
 clear HE0
 replace Bt := Aside0.mk (And.intro (pw_cell_below HZ.out Bt.out.1) (And.intro (pw_cell_below HZ.out Bt.out.2.1) (And.intro (pw_cell_below HZ.out Bt.out.2.2.1) (And.intro (pw_cell_below HZ.out Bt.out.2.2.2.1) (pw_cell_below HZ.out Bt.out.2.2.2.2)))))
 replace HBEL := Aside0.mk (below_step HBEL.out HZ.out)
 have HGN : Aside0 (W.heap.size ≠ G) := ⟨by have := HGW.out; omega⟩
 generalize hg : W.heap.size = gb at G3 HGN ⊢
 clear hg
 obtain ⟨vg, hvg⟩ : ∃ vg : Value, vg = .agg #[.slice A0 l0.length c0, .slice A1 l1.length c1, .slice A2 l2.length c2, .slice A3 l3.length c3, .int .i64 st] := ⟨_, rfl⟩
 rw [← hvg]
 clear hvg
 refine wp_scope_label 0 k0 (fun k a wr => ∃ (xs : List Int) (u7 u8 u9 u10 u11 u12 u13 u14 u15 u16 u17 u18 u19 u20 u21 u22 u23 u24 u25 u26 u27 u28 u29 u30 u31 u32 u33 u34 u35 u36 u37 : Value), a = { tmps := #[vg, .slice (some ⟨G, 0, none⟩) nS cap, .func (.func 82) #[] #[.pointer (some ⟨b3, 0, none⟩)], .pointer (some ⟨gb, 0, none⟩), undef, undef, .slice none 0 0, u7, u8, u9, u10, u11, u12, u13, u14, u15, u16, u17, u18, u19, u20, u21, u22, u23, u24, u25, u26, u27, u28, u29, u30, u31, u32, u33, u34, u35, u36, u37], defers := [] } ∧ Aside0 (growG (0 : Int) (moreS nT nS es) l3 k xs = some r) ∧ Aside0 (Kd.R (Kd.int .u64) 76 wr base ok (.slice (some ⟨G, 0, none⟩) nS cap) xs) ∧ Aside0 (wy.grownBy wr (some G))) ⟨x0, _, _, _, _, _, _, _, _, _, _, _, _, _, _, _, _, _, _, _, _, _, _, _, _, _, _, _, _, _, _, _, rfl, H, HR, ⟨World.grownBy.refl _ _⟩⟩ ?_
 clear HR H
 rintro kk a wq ⟨xs, u7, u8, u9, u10, u11, u12, u13, u14, u15, u16, u17, u18, u19, u20, u21, u22, u23, u24, u25, u26, u27, u28, u29, u30, u31, u32, u33, u34, u35, u36, u37, rfl, H, HR, HY⟩
 go_hide hQ
 replace hQ := Aside0.mk hQ
 have g3 : wq.cell? ⟨gb, 3, none⟩ = some (.slice A3 l3.length c3) := HY.out.cell G3.out (by intro e; injection e with e; exact HGN.out e)
 go_wp2
 clear g3
 go_loopw [7, 15] (fun v7 v15 wr => ∃ (k : Nat) (ch : Bool) (ys : List Int), v7 = .bool ch ∧ v15 = .int .i64 k ∧ k ≤ l3.length ∧ Aside0 (Kd.R (Kd.int .u64) 76 wr base ok (.slice (some ⟨G, 0, none⟩) nS cap) ys) ∧ Aside0 (wy.grownBy wr (some G)) ∧ Aside0 (passG (0 : Int) (moreS nT nS es) l3 (xs, false) = passG (0 : Int) (moreS nT nS es) (l3.drop k) (ys, ch))) (fun _ v15 _ => l3.length - (intOf v15).toNat)
 case atStart => exact ⟨0, false, xs, rfl, rfl, Nat.zero_le _, HR, HY, ⟨rfl⟩⟩
 case round =>
  obtain ⟨k, ch, ys, rfl, rfl, hk, HRR, HYR, HP⟩ := hrel
  have hmx : l3.length ≤ 9223372036854775807 := HR3.out.2.1
  by_cases hlt : k < l3.length
  ·have hltb : decide (k < l3.length) = true := decide_eq_true (by omega)
   have hbw : Aside0 (Below w.heap.size w wr) := ⟨below_grownS HBEL.out HYR.out HG.out⟩
   obtain ⟨ad, A4, c4, e4, hx1, hx2, hx3, hx4, hcap, hr4⟩ := at_T64 (Kd.C_below HR3.out hbw.out) (k : Int) (by omega) (by omega)
   rw [Int.toNat_natCast] at hx1 hx2 hx3 hx4
   obtain ⟨p, hp⟩ : ∃ p, rd_T64 l3 k = p := ⟨_, rfl⟩
   rw [hp] at hx1 hx2 hx3 hx4 hr4
   have hpk : l3[k] = p := by rw [← hp]; unfold rd_T64; simp [List.getD, hlt]
   have hmem : p ∈ l3 := by rw [← hpk]; exact List.getElem_mem hlt
   have HPK := Aside0.mk hpk
   have hsp := Aside0.mk (HS.out p hmem)
   have HR4 := Aside0.mk hr4
   clear hp hpk hr4 hcap hmem
   subst e4
   obtain ⟨m, hm⟩ : ∃ m, moreS nT nS es ys p = m := ⟨_, rfl⟩
   obtain ⟨o, ho⟩ : ∃ o, rdOf 0 ys p.f1 = o := ⟨_, rfl⟩
   have hstep : Aside0 (passG (0 : Int) (moreS nT nS es) l3 (xs, false) = passG (0 : Int) (moreS nT nS es) (l3.drop (k + 1)) (if o = m then (ys, ch) else (ys.set p.f1.toNat m, true))) := ⟨by rw [HP.out, passG_drop _ _ _ k hlt, HPK.out, ho, hm]⟩
   obtain ⟨nl, hnl⟩ : ∃ nl, p.f2.length = nl := ⟨_, rfl⟩
   obtain ⟨lab, hlab⟩ : ∃ lab, p.f0 = lab := ⟨_, rfl⟩
   obtain ⟨srt, hsrt⟩ : ∃ srt, p.f1 = srt := ⟨_, rfl⟩
   obtain ⟨cls, hcls⟩ : ∃ cls, p.f3 = cls := ⟨_, rfl⟩
   have hcont : Aside0 (∀ wz : World, Below wr.heap.size wr wz → Calls Tryd.prog 82 #[.agg #[.string lab, .int .i64 srt, .slice A4 nl c4, .int .i64 cls], .pointer (some ⟨b3, 0, none⟩)] wz fun e w' => e = .returned (.tuple #[.int .i64 srt, .int .u64 m]) ∧ Below wz.heap.size wz w' ∧ w'.cell? ⟨G, srt.toNat, none⟩ = some (.int .u64 o) ∧ w'.frozen? ⟨G, srt.toNat, none⟩ = false) := ⟨fun wz hz => by
    have hg2 : wy.grownBy wz (some G) := grown_below HYR.out hz
    have hc := known1_calls b3 tb nT nS G cap B0 B2 E d0 d2 dE es ys base ok p A4 c4 wz HNS.out (hg2.cell Bt.out.1 (by intro e; injection e with e; exact NB.out.1 e)) (hg2.cell Bt.out.2.1 (by intro e; injection e with e; exact NB.out.2 e)) (hg2.cell Bt.out.2.2.1 (by intro e; injection e with e; exact NB.out.2 e)) (hg2.cell Bt.out.2.2.2.1 (by intro e; injection e with e; exact NB.out.2 e)) (hg2.cell Bt.out.2.2.2.2 (by intro e; injection e with e; exact NB.out.2 e)) (HEE.out wz hg2) (Kd.R_below HRR.out hz) (Kd.C_below HR4.out hz) hsp.out.1.1 hsp.out.1.2 (hsp.out.2 ys)
    rw [hnl, hlab, hsrt, hcls, hm] at hc
    refine hc.mono ?_
    rintro e w2 ⟨rfl, hb2⟩
    have hcell := Kd.R_celln 0 (Kd.R_below (Kd.R_below HRR.out hz) hb2) p.f1 hsp.out.1.1 hsp.out.1.2
    rw [ho, hsrt] at hcell
    exact ⟨rfl, hb2, hcell.1, hcell.2⟩⟩
   rw [hlab] at hx1
   rw [hsrt] at hx2
   rw [hnl] at hx3
   rw [hcls] at hx4
   have hsrt2 := Aside0.mk hsrt
   rw [hsrt] at hsp
   have q0 : (0 ≤ srt) = True := eq_true hsp.out.1.1
   have q1 : (srt < (nS : Int)) = True := eq_true hsp.out.1.2
   clear hm ho hlab hnl hcls hsrt
   go_upto_region 5 with fail
   have HZ2 : Aside0 (Below wr.heap.size wr (wr.alloc (Obj.cells #[.string lab, .int .i64 srt, .slice A4 nl c4, .int .i64 cls] 64))) := ⟨below_alloc (Below.refl _ _) _⟩
   have y0 : (wr.alloc (Obj.cells #[.string lab, .int .i64 srt, .slice A4 nl c4, .int .i64 cls] 64)).cell? ⟨wr.heap.size, 0, none⟩ = some (.string lab) := by go_simp
   have y1 : (wr.alloc (Obj.cells #[.string lab, .int .i64 srt, .slice A4 nl c4, .int .i64 cls] 64)).cell? ⟨wr.heap.size, 1, none⟩ = some (.int .i64 srt) := by go_simp
   have y2 : (wr.alloc (Obj.cells #[.string lab, .int .i64 srt, .slice A4 nl c4, .int .i64 cls] 64)).cell? ⟨wr.heap.size, 2, none⟩ = some (.slice A4 nl c4) := by go_simp
   have y3 : (wr.alloc (Obj.cells #[.string lab, .int .i64 srt, .slice A4 nl c4, .int .i64 cls] 64)).cell? ⟨wr.heap.size, 3, none⟩ = some (.int .i64 cls) := by go_simp
   generalize wr.alloc (Obj.cells #[.string lab, .int .i64 srt, .slice A4 nl c4, .int .i64 cls] 64) = wz at *
   clear hx1 hx2 hx3 hx4
   generalize hgy : wr.heap.size = gy at y0 y1 y2 y3 ⊢
   clear hgy
   have hcall := hcont.out wz HZ2.out
   clear hcont
   replace hcall := Aside0.mk hcall
   have HYZ := Aside0.mk (grown_below HYR.out HZ2.out)
   have HRZ := Aside0.mk (Kd.R_below HRR.out HZ2.out)
   by_cases hom : o = m
   ·subst hom
    go_wp2_with (go_at_call 82; refine hcall.out.mono ?_; rintro e w2 ⟨rfl, hb2, hc2, hf2⟩; replace hb2 := Aside0.mk hb2)
    have hR2 := Aside0.mk (Kd.R_below HRZ.out hb2.out)
    exact ⟨⟨k + 1, ch, ys, rfl, rfl, by omega, hR2, ⟨grown_below HYZ.out hb2.out⟩, ⟨by rw [hstep.out]; simp⟩⟩, by simp [intOf]; omega⟩
   ·have hom1 : decide (o = m) = false := decide_eq_false hom
    have hom2 : (o != m) = true := by simp [hom]
    go_wp2_with (go_at_call 82; refine hcall.out.mono ?_; rintro e w2 ⟨rfl, hb2, hc2, hf2⟩; replace hb2 := Aside0.mk hb2)
    have hR2 := Aside0.mk (Kd.R_putn (Kd.R_below HRZ.out hb2.out) srt m)
    exact ⟨⟨k + 1, true, ys.set srt.toNat m, rfl, rfl, by omega, hR2, ⟨grown_put (grown_below HYZ.out hb2.out)⟩, ⟨by rw [hstep.out, if_neg hom, hsrt2.out]⟩⟩, by simp [intOf]; omega⟩
  ·have hltb : decide (k < l3.length) = false := decide_eq_false (by omega)
   obtain ⟨k', rfl⟩ : ∃ k', kk = k' + 1 := by
    cases kk with
    | zero => have := H.out; cases this
    | succ k' => exact ⟨k', rfl⟩
   have HF : Aside0 (passG (0 : Int) (moreS nT nS es) l3 (xs, false) = (ys, ch)) := ⟨by rw [HP.out, List.drop_eq_nil_of_le (by omega)]; rfl⟩
   cases ch
   ·have HE : Aside0 (ys = r) := ⟨by have := H.out; unfold growG at this; rw [HF.out] at this; simpa using this⟩
    go_wp2
    rw [← hQ.out]
    simp only [Exit.jump]
    go_ret
    exact ⟨rfl, by rw [← HE.out]; exact HRR.out, grown_of HZ.out HYR.out⟩
   ·have HE : Aside0 (growG (0 : Int) (moreS nT nS es) l3 k' ys = some r) := ⟨by have := H.out; unfold growG at this; rw [HF.out] at this; simpa using this⟩
    go_wp2
    go_step3
    rw [← hQ.out]
    exact ⟨rfl, k', Nat.lt_succ_self _, ys, _, _, _, _, _, _, _, _, _, _, _, _, _, _, _, _, _, _, _, _, _, _, _, _, _, _, _, _, _, _, _, rfl, HE, HRR, HYR⟩

end Go.Proofs.YtclollnicbcooaaDoor.P
end

section
set_option linter.unusedVariables false
set_option linter.unusedSimpArgs false
namespace Go.Proofs.YtclollnicbcooaaDoor.P
open Go.Proofs.YtclollnicbcooaaDoor.Base Go.RowKit Go.Proofs.YtclollnicbcooaaDoorW.PrintWords Go.Proofs.YtclollnicbcooaaDoorW.PrintLast Go.Proofs.YtclollnicbcooaaDoorW.PrintMore

theorem made_sets (n : Nat) : madeCells #[.int .u64 0] n = Array.replicate n (Value.int .u64 0) := by
 apply Array.ext
 ·simp [madeCells]
 ·intro i h1 h2
  simp [madeCells, Nat.mod_one]

theorem make_sets (n : Nat) (h : n ≤ 60) (w : World) : (Instr.makeSlice 72 (.int .i64 n) (.int .i64 n)).run Tryd.prog w = .ok (.slice (some ⟨w.heap.size, 0, none⟩) n n) (w.alloc (.cells (Array.replicate n (.int .u64 0)) 76)) := by
 obtain ⟨i0, hi, hzz⟩ := Option.map_eq_some_iff.1 info76
 simp only [Prod.mk.injEq] at hzz
 obtain ⟨hz0, hz1, hz2⟩ := hzz
 have hr := run_make (P := Tryd.prog) w 72 76 i0 (.int .u64 0) Tryd.underlying72 hi hz0 .i64 .i64 (n : Int) (n : Int) (by omega) (by omega) (by rw [hz2]; omega) (by omega)
 simp only [Int.toNat_natCast] at hr
 rw [hz1, Nat.mul_one] at hr
 rw [hr, show (Value.int .u64 0).cells = #[.int .u64 0] from rfl, made_sets]

theorem blk_new (w : World) (o : Obj) : (w.alloc o).heap[w.heap.size]? = some o := by
 show (w.heap.push o)[w.heap.size]? = some o
 simp

theorem R_fresh (n base : Nat) (h : n ≤ 60) (w : World) (hb : base ≤ w.heap.size) : Kd.R (Kd.int .u64) 76 (w.alloc (.cells (Array.replicate n (.int .u64 0)) 76)) base (fun k => k = w.heap.size) (.slice (some ⟨w.heap.size, 0, none⟩) n n) (List.replicate n (0 : Int)) := by
 refine Kd.R_of_own (enc := fun x => Value.int .u64 x) ⟨by simp [encs], .inr ⟨w.heap.size, n, Array.replicate n (.int .u64 0), by simp, hb, blk_new w _, by simp, by simp [maxLen]; omega, by simp, by simp [encs]⟩⟩ (fun k hk => ?_)
 simp only [Value.ownBlock] at hk
 injection hk with hk
 exact hk.symm

theorem R_fresh_at (n base g : Nat) (h : n ≤ 60) (w : World) (hg : w.heap.size = g) (hb : base ≤ g) : Kd.R (Kd.int .u64) 76 (w.alloc (.cells (Array.replicate n (.int .u64 0)) 76)) base (fun k => k = g) (.slice (some ⟨g, 0, none⟩) n n) (List.replicate n (0 : Int)) := by
 subst hg; exact R_fresh n base h w hb

theorem R_kept {w3 w4 : World} {B G b3 : Nat} {v : Value} {es : List Bool} (hR : Kd.R Kd.bool 4 w4 B (fun _ => True) v es) (hB : w3.heap.size ≤ B) (hG : ∀ k, B ≤ k → k < w4.heap.size → k ≠ G ∧ k ≠ b3) : Kd.R Kd.bool 4 w4 w3.heap.size (fun k => k ≠ G ∧ k ≠ b3) v es :=
 Kd.R_lower (Kd.R_mono (Kd.R_bound hR) fun k hk => hG k hk.2.1 hk.2.2.1) hB

theorem growG_length {β : Type} [DecidableEq β] (z : β) (more : List β → S64 → β) (ps : List S64) : ∀ (k : Nat) (xs r : List β), growG z more ps k xs = some r → r.length = xs.length := by
 have hp : ∀ (ps : List S64) (st : List β × Bool), (passG z more ps st).1.length = st.1.length := by
  intro ps
  induction ps with
  | nil => intro st; rfl
  | cons p ps ih =>
   intro st
   unfold passG
   rw [ih]
   split <;> simp
 intro k
 induction k with
 | zero => intro xs r h; cases h
 | succ k ih =>
  intro xs r h
  unfold growG at h
  split at h
  ·rw [ih _ _ h, hp]
  ·injection h with h; rw [← h, hp]

theorem known_nil (A0 : Option Addr) (c0 : Nat) (l0 : List S82) (A1 : Option Addr) (c1 : Nat) (l1 : List S101) (A2 : Option Addr) (c2 : Nat) (l2 : List ByteArray) (A3 : Option Addr) (c3 : Nat) (l3 : List S64) (st : Int) (w : World)
  (hr0 : Kd.C k82 w A0 l0.length l0) (hr1 : Kd.C k101 w A1 l1.length l1) (hr2 : Kd.C Kd.string w A2 l2.length l2) (hr3 : Kd.C k64 w A3 l3.length l3) (hv : validB l0 l1 l2 l3 st = false) :
  Calls Tryd.prog 51 #[.agg #[.slice A0 l0.length c0, .slice A1 l1.length c1, .slice A2 l2.length c2, .slice A3 l3.length c3, .int .i64 st]] w fun e w' => e = .returned (.pointer none) ∧ Below w.heap.size w w' := by
 have HB : Aside0 (Below w.heap.size w (w.alloc (Obj.cells #[.slice A0 l0.length c0, .slice A1 l1.length c1, .slice A2 l2.length c2, .slice A3 l3.length c3, .int .i64 st] 27))) := ⟨below_alloc (Below.refl _ _) _⟩
 have hval : Aside0 (Calls Tryd.prog 34 #[.agg #[.slice A0 l0.length c0, .slice A1 l1.length c1, .slice A2 l2.length c2, .slice A3 l3.length c3, .int .i64 st]] (w.alloc (Obj.cells #[.slice A0 l0.length c0, .slice A1 l1.length c1, .slice A2 l2.length c2, .slice A3 l3.length c3, .int .i64 st] 27)) fun e w' => e = .returned (.bool false) ∧ Below (w.alloc (Obj.cells #[.slice A0 l0.length c0, .slice A1 l1.length c1, .slice A2 l2.length c2, .slice A3 l3.length c3, .int .i64 st] 27)).heap.size (w.alloc (Obj.cells #[.slice A0 l0.length c0, .slice A1 l1.length c1, .slice A2 l2.length c2, .slice A3 l3.length c3, .int .i64 st] 27)) w') := ⟨by
  have := valid_calls A0 c0 l0 A1 c1 l1 A2 c2 l2 A3 c3 l3 st (w.alloc (Obj.cells #[.slice A0 l0.length c0, .slice A1 l1.length c1, .slice A2 l2.length c2, .slice A3 l3.length c3, .int .i64 st] 27)) (Kd.C_below hr0 HB.out) (Kd.C_below hr1 HB.out) (Kd.C_below hr2 HB.out) (Kd.C_below hr3 HB.out)
  rwa [hv] at this⟩
 have hu27 := Tryd.underlying27
 clear hr0 hr1 hr2 hr3 hv
 go_enter Tryd.func51, Tryd.ntmps51
 go_wp2_with (go_at_call 34; refine hval.out.mono ?_; rintro e w3 ⟨rfl, hb3⟩; replace hb3 := Aside0.mk hb3)
 go_ret
 exact ⟨rfl, below_step HB.out hb3.out⟩

set_option maxHeartbeats 8000000 in
set_option maxRecDepth 100000 in
theorem known_calls (k : Nat) (A0 : Option Addr) (c0 : Nat) (l0 : List S82) (A1 : Option Addr) (c1 : Nat) (l1 : List S101) (A2 : Option Addr) (c2 : Nat) (l2 : List ByteArray) (A3 : Option Addr) (c3 : Nat) (l3 : List S64) (st : Int) (es : List Bool) (fs : List Int) (w : World)
  (hr0 : Kd.C k82 w A0 l0.length l0) (hc0 : l0.length ≤ c0) (hr1 : Kd.C k101 w A1 l1.length l1) (hc1 : l1.length ≤ c1) (hr2 : Kd.C Kd.string w A2 l2.length l2) (hc2 : l2.length ≤ c2) (hr3 : Kd.C k64 w A3 l3.length l3) (hc3 : l3.length ≤ c3)
  (hv : validB l0 l1 l2 l3 st = true) (he : sets_Empty.f k l0 l1 l2 l3 st = some es) (hen : es.length = l2.length) (hf : growG (0 : Int) (moreS l0.length l2.length es) l3 k (List.replicate l2.length 0) = some fs)
  (hs : ∀ p ∈ l3, (0 ≤ p.f1 ∧ p.f1 < l2.length) ∧ ∀ xs, ∃ q, rowF l0.length l2.length es xs 0 p.f2 0 = some q) :
  Calls Tryd.prog 51 #[.agg #[.slice A0 l0.length c0, .slice A1 l1.length c1, .slice A2 l2.length c2, .slice A3 l3.length c3, .int .i64 st]] w fun e w' => ∃ (tb G cap dE : Nat) (E : Option Addr), e = .returned (.pointer (some ⟨tb, 0, none⟩)) ∧
   w'.cell? ⟨tb, 0, none⟩ = some (.slice A0 l0.length c0) ∧ w'.cell? ⟨tb, 2, none⟩ = some (.slice A2 l2.length c2) ∧ w'.cell? ⟨tb, 5, none⟩ = some (.slice E l2.length dE) ∧ w'.cell? ⟨tb, 6, none⟩ = some (.slice (some ⟨G, 0, none⟩) l2.length cap) ∧
   Kd.C Kd.bool w' E l2.length es ∧ Kd.R (Kd.int .u64) 76 w' w.heap.size (fun _ => True) (.slice (some ⟨G, 0, none⟩) l2.length cap) fs ∧ Below w.heap.size w w' := by
 have HR0 := Aside0.mk hr0
 have HR1 := Aside0.mk hr1
 have HR2 := Aside0.mk hr2
 have HR3 := Aside0.mk hr3
 have HC := Aside0.mk (And.intro hc0 (And.intro hc1 (And.intro hc2 hc3)))
 have HE := Aside0.mk he
 have HF := Aside0.mk hf
 have HS := Aside0.mk hs
 have hvh := Aside0.mk (valid_has hv)
 have HEN := Aside0.mk hen
 have HB : Aside0 (Below w.heap.size w (w.alloc (Obj.cells #[.slice A0 l0.length c0, .slice A1 l1.length c1, .slice A2 l2.length c2, .slice A3 l3.length c3, .int .i64 st] 27))) := ⟨below_alloc (Below.refl _ _) _⟩
 have hval : Aside0 (Calls Tryd.prog 34 #[.agg #[.slice A0 l0.length c0, .slice A1 l1.length c1, .slice A2 l2.length c2, .slice A3 l3.length c3, .int .i64 st]] (w.alloc (Obj.cells #[.slice A0 l0.length c0, .slice A1 l1.length c1, .slice A2 l2.length c2, .slice A3 l3.length c3, .int .i64 st] 27)) fun e w' => e = .returned (.bool true) ∧ Below (w.alloc (Obj.cells #[.slice A0 l0.length c0, .slice A1 l1.length c1, .slice A2 l2.length c2, .slice A3 l3.length c3, .int .i64 st] 27)).heap.size (w.alloc (Obj.cells #[.slice A0 l0.length c0, .slice A1 l1.length c1, .slice A2 l2.length c2, .slice A3 l3.length c3, .int .i64 st] 27)) w') := ⟨by
  have := valid_calls A0 c0 l0 A1 c1 l1 A2 c2 l2 A3 c3 l3 st (w.alloc (Obj.cells #[.slice A0 l0.length c0, .slice A1 l1.length c1, .slice A2 l2.length c2, .slice A3 l3.length c3, .int .i64 st] 27)) (Kd.C_below hr0 HB.out) (Kd.C_below hr1 HB.out) (Kd.C_below hr2 HB.out) (Kd.C_below hr3 HB.out)
  rwa [hv] at this⟩
 have hu27 := Tryd.underlying27
 have hu138 := Tryd.underlying138
 have f0 : (w.alloc (Obj.cells #[.slice A0 l0.length c0, .slice A1 l1.length c1, .slice A2 l2.length c2, .slice A3 l3.length c3, .int .i64 st] 27)).cell? ⟨w.heap.size, 0, none⟩ = some (.slice A0 l0.length c0) := by go_simp
 have f1 : (w.alloc (Obj.cells #[.slice A0 l0.length c0, .slice A1 l1.length c1, .slice A2 l2.length c2, .slice A3 l3.length c3, .int .i64 st] 27)).cell? ⟨w.heap.size, 1, none⟩ = some (.slice A1 l1.length c1) := by go_simp
 have f2 : (w.alloc (Obj.cells #[.slice A0 l0.length c0, .slice A1 l1.length c1, .slice A2 l2.length c2, .slice A3 l3.length c3, .int .i64 st] 27)).cell? ⟨w.heap.size, 2, none⟩ = some (.slice A2 l2.length c2) := by go_simp
 have f3 : (w.alloc (Obj.cells #[.slice A0 l0.length c0, .slice A1 l1.length c1, .slice A2 l2.length c2, .slice A3 l3.length c3, .int .i64 st] 27)).cell? ⟨w.heap.size, 3, none⟩ = some (.slice A3 l3.length c3) := by go_simp
 have f4 : (w.alloc (Obj.cells #[.slice A0 l0.length c0, .slice A1 l1.length c1, .slice A2 l2.length c2, .slice A3 l3.length c3, .int .i64 st] 27)).cell? ⟨w.heap.size, 4, none⟩ = some (.int .i64 st) := by go_simp
 replace f0 := Aside0.mk f0
 replace f1 := Aside0.mk f1
 replace f2 := Aside0.mk f2
 replace f3 := Aside0.mk f3
 replace f4 := Aside0.mk f4
 clear hr0 hr1 hr2 hr3 hv hc0 hc1 hc2 hc3 he hf hs hen
 go_enter Tryd.func51, Tryd.ntmps51
 go_upto_region 3 with (go_at_call 34; refine hval.out.mono ?_; rintro e w3 ⟨rfl, hb3⟩; replace hb3 := Aside0.mk hb3)
 have F0 := pw_cell_below hb3.out f0.out
 have F1 := pw_cell_below hb3.out f1.out
 have F2 := pw_cell_below hb3.out f2.out
 have F3 := pw_cell_below hb3.out f3.out
 have F4 := pw_cell_below hb3.out f4.out
 have HW3 : Aside0 (Below w.heap.size w w3) := ⟨below_step HB.out hb3.out⟩
 have hgb : Aside0 (w.heap.size < w3.heap.size) := ⟨Nat.lt_of_lt_of_le (by simp) hb3.out.size⟩
 clear f0 f1 f2 f3 f4 hb3 hval HB
 generalize hg : w.heap.size = gb at F0 F1 F2 F3 F4 hgb ⊢
 have HGB := Aside0.mk hg
 clear hg
 have E0 := Aside0.mk F0
 have E1 := Aside0.mk F1
 have E2 := Aside0.mk F2
 have E3 := Aside0.mk F3
 have E4 := Aside0.mk F4
 go_cut [3] from 7 to 15 (fun s3 wr => ∃ (b3 tb G cap dE : Nat) (E : Option Addr), s3 = .pointer (some ⟨b3, 0, none⟩) ∧ Aside0 (wr.cell? ⟨b3, 0, none⟩ = some (.pointer (some ⟨tb, 0, none⟩)) ∧
   wr.cell? ⟨tb, 0, none⟩ = some (.slice A0 l0.length c0) ∧ wr.cell? ⟨tb, 2, none⟩ = some (.slice A2 l2.length c2) ∧ wr.cell? ⟨tb, 5, none⟩ = some (.slice E l2.length dE) ∧ wr.cell? ⟨tb, 6, none⟩ = some (.slice (some ⟨G, 0, none⟩) l2.length cap)) ∧
   Aside0 (Kd.R Kd.bool 4 wr w3.heap.size (fun k => k ≠ G) (.slice E l2.length dE) es) ∧ Aside0 (Kd.R (Kd.int .u64) 76 wr w3.heap.size (fun _ => True) (.slice (some ⟨G, 0, none⟩) l2.length cap) (List.replicate l2.length 0)) ∧ Aside0 (b3 ≠ G ∧ tb ≠ G ∧ w3.heap.size ≤ G ∧ G < wr.heap.size ∧ Below w3.heap.size w3 wr))
 case first =>
  have hmk := make_sets l2.length hvh.out.1
  have X0 := Aside0.mk (Kd.C_below HR0.out HW3.out)
  have X1 := Aside0.mk (Kd.C_below HR1.out HW3.out)
  have X2 := Aside0.mk (Kd.C_below HR2.out HW3.out)
  have X3 := Aside0.mk (Kd.C_below HR3.out HW3.out)
  have n0 := World.new_ne w3 _ F0
  have n1 : ¬ w3.heap.size + 1 = gb := by have := hgb.out; omega
  have n2 : ¬ gb = w3.heap.size := by have := hgb.out; omega
  have n3 : ¬ gb = w3.heap.size + 1 := by have := hgb.out; omega
  go_region_held3 (fun w' => w'.cell? ⟨gb, 0, none⟩ = some (.slice A0 l0.length c0) ∧ w'.cell? ⟨gb, 1, none⟩ = some (.slice A1 l1.length c1) ∧ w'.cell? ⟨gb, 2, none⟩ = some (.slice A2 l2.length c2) ∧ w'.cell? ⟨gb, 3, none⟩ = some (.slice A3 l3.length c3) ∧ w'.cell? ⟨gb, 4, none⟩ = some (.int .i64 st)) (first | (go_keep; done) | (have hb34' := hb34; exact ⟨pw_cell_below (w := w3) (by repeat (first | exact hb34.out | exact Below.refl _ _ | apply below_alloc | apply below_drew | refine Below.setCell ?_ (by first | exact Nat.le_refl _ | exact Nat.le_succ _) _)) F0, pw_cell_below (w := w3) (by repeat (first | exact hb34.out | exact Below.refl _ _ | apply below_alloc | apply below_drew | refine Below.setCell ?_ (by first | exact Nat.le_refl _ | exact Nat.le_succ _) _)) F1, pw_cell_below (w := w3) (by repeat (first | exact hb34.out | exact Below.refl _ _ | apply below_alloc | apply below_drew | refine Below.setCell ?_ (by first | exact Nat.le_refl _ | exact Nat.le_succ _) _)) F2, pw_cell_below (w := w3) (by repeat (first | exact hb34.out | exact Below.refl _ _ | apply below_alloc | apply below_drew | refine Below.setCell ?_ (by first | exact Nat.le_refl _ | exact Nat.le_succ _) _)) F3, pw_cell_below (w := w3) (by repeat (first | exact hb34.out | exact Below.refl _ _ | apply below_alloc | apply below_drew | refine Below.setCell ?_ (by first | exact Nat.le_refl _ | exact Nat.le_succ _) _)) F4⟩) | exact ⟨pw_cell_below (w := w3) (by repeat (first | exact Below.refl _ _ | apply below_alloc | apply below_drew | refine Below.setCell ?_ (by first | exact Nat.le_refl _ | exact Nat.le_succ _) _)) F0, pw_cell_below (w := w3) (by repeat (first | exact Below.refl _ _ | apply below_alloc | apply below_drew | refine Below.setCell ?_ (by first | exact Nat.le_refl _ | exact Nat.le_succ _) _)) F1, pw_cell_below (w := w3) (by repeat (first | exact Below.refl _ _ | apply below_alloc | apply below_drew | refine Below.setCell ?_ (by first | exact Nat.le_refl _ | exact Nat.le_succ _) _)) F2, pw_cell_below (w := w3) (by repeat (first | exact Below.refl _ _ | apply below_alloc | apply below_drew | refine Below.setCell ?_ (by first | exact Nat.le_refl _ | exact Nat.le_succ _) _)) F3, pw_cell_below (w := w3) (by repeat (first | exact Below.refl _ _ | apply below_alloc | apply below_drew | refine Below.setCell ?_ (by first | exact Nat.le_refl _ | exact Nat.le_succ _) _)) F4⟩)
   (first | (go_at_call 80; refine (sets_Empty.calls k _ _ l0 _ _ l1 _ _ l2 _ _ l3 st es _ ?_ HC.out.1 ?_ HC.out.2.1 ?_ HC.out.2.2.1 ?_ HC.out.2.2.2 HE.out).mono ?_; exact Kd.C_below X0.out (by repeat (first | exact Below.refl _ _ | apply below_alloc | apply below_drew)); exact Kd.C_below X1.out (by repeat (first | exact Below.refl _ _ | apply below_alloc | apply below_drew)); exact Kd.C_below X2.out (by repeat (first | exact Below.refl _ _ | apply below_alloc | apply below_drew)); exact Kd.C_below X3.out (by repeat (first | exact Below.refl _ _ | apply below_alloc | apply below_drew)); rintro e w4 ⟨v0, rfl, hR4, hB4⟩; obtain ⟨EA, dE, rfl⟩ := Kd.R_slice hR4; have hb34 := below_step (w := w3) (by repeat (first | exact Below.refl _ _ | apply below_alloc | apply below_drew)) hB4; have y0 := pw_cell_below hb34 E0.out; have y1 := pw_cell_below hb34 E1.out; have y2 := pw_cell_below hb34 E2.out; have y3 := pw_cell_below hb34 E3.out; have y4 := pw_cell_below hb34 E4.out; replace hb34 := Aside0.mk hb34; replace hR4 := Aside0.mk hR4; replace hB4 := Aside0.mk hB4; have n4 := World.new_ne w4 _ y0; (first | (by_cases t0 : w4.cell? ⟨w3.heap.size, 0, none⟩ = some (.pointer none); rotate_left; (focus (exfalso; refine t0 (pw_cell_below hB4.out ?_); go_simp; done)); (by_cases z0 : w4.frozen? ⟨w3.heap.size, 0, none⟩ = false; rotate_left; (focus (exfalso; refine z0 ((hB4.out.frozen ?_).trans ?_); (focus (first | (simp; done) | (simp; omega) | (simp only [World.size_alloc, World.size_drew]; omega))); (focus (go_simp; done))))); have m0 := World.new_ne w4 _ t0; have l0_ : w3.heap.size < w4.heap.size := World.block_lt_of_cell? w4 _ t0; have l0b : w3.heap.size < w4.heap.size + 1 := Nat.lt_succ_of_lt l0_; have l0c : w3.heap.size < w4.heap.size + 1 + 1 := Nat.lt_succ_of_lt l0b) | skip); (first | (by_cases t1 : w4.cell? ⟨w3.heap.size + 1, 0, none⟩ = some (.pointer none); rotate_left; (focus (exfalso; refine t1 (pw_cell_below hB4.out ?_); go_simp; done)); (by_cases z1 : w4.frozen? ⟨w3.heap.size + 1, 0, none⟩ = false; rotate_left; (focus (exfalso; refine z1 ((hB4.out.frozen ?_).trans ?_); (focus (first | (simp; done) | (simp; omega) | (simp only [World.size_alloc, World.size_drew]; omega))); (focus (go_simp; done))))); have m1 := World.new_ne w4 _ t1; have l1_ : w3.heap.size + 1 < w4.heap.size := World.block_lt_of_cell? w4 _ t1; have l1b : w3.heap.size < w4.heap.size := Nat.lt_of_succ_lt l1_; have l1c : w3.heap.size < w4.heap.size + 1 := Nat.lt_succ_of_lt l1b) | skip)))
  ·have hs := hB4.out.size
   simp at hs
   go_wp2_with fail
   go_meet
   exact ⟨w4.heap.size + 1 + 1, w4.heap.size + 1, w4.heap.size, l2.length, dE, EA, rfl, ⟨by go_simp, by go_simp, by go_simp, by rw [← HEN.out]; go_simp, by go_simp⟩,
    ⟨by rw [← HEN.out]; exact Kd.R_mono (ok := fun k => k ≠ w4.heap.size ∧ k ≠ w4.heap.size + 1 + 1) (by (repeat (with_reducible first | apply Kd.R_alloc | refine Kd.R_far ?_ (fun k hk => hk.2) _)); exact R_kept hR4.out (by first | omega | (simp; done) | (simp; omega)) (by intro k h1 h2; simp at h1; omega)) (fun k hk => hk.1)⟩,
    ⟨Kd.R_mono (ok := fun k => k = w4.heap.size) (by (repeat (with_reducible first | refine R_fresh_at _ _ _ hvh.out.1 _ ?_ ?_ | apply Kd.R_drew | apply Kd.R_alloc)); all_goals (first | omega | (simp; done) | (simp; omega))) (fun _ _ => trivial)⟩,
    ⟨by omega, by omega, by omega, by simp; try omega, by repeat (first | exact hb34.out | apply below_alloc | refine Below.setCell ?_ (by first | exact Nat.le_refl _ | exact Nat.le_succ _) _)⟩⟩
  ·have hs := hB4.out.size
   simp at hs
   go_wp2_with fail
   go_meet
   exact ⟨w4.heap.size + 1, w4.heap.size + 1 + 1, w4.heap.size, l2.length, dE, EA, rfl, ⟨by go_simp, by go_simp, by go_simp, by rw [← HEN.out]; go_simp, by go_simp⟩,
    ⟨by rw [← HEN.out]; exact Kd.R_mono (ok := fun k => k ≠ w4.heap.size ∧ k ≠ w4.heap.size + 1) (by (repeat (with_reducible first | apply Kd.R_alloc | refine Kd.R_far ?_ (fun k hk => hk.2) _)); exact R_kept hR4.out (by first | omega | (simp; done) | (simp; omega)) (by intro k h1 h2; simp at h1; omega)) (fun k hk => hk.1)⟩,
    ⟨Kd.R_mono (ok := fun k => k = w4.heap.size) (by (repeat (with_reducible first | refine R_fresh_at _ _ _ hvh.out.1 _ ?_ ?_ | apply Kd.R_drew | apply Kd.R_alloc)); all_goals (first | omega | (simp; done) | (simp; omega))) (fun _ _ => trivial)⟩,
    ⟨by omega, by omega, by omega, by simp; try omega, by repeat (first | exact hb34.out | apply below_alloc | refine Below.setCell ?_ (by first | exact Nat.le_refl _ | exact Nat.le_succ _) _)⟩⟩
  ·have hs := hB4.out.size
   simp at hs
   go_wp2_with fail
   go_meet
   exact ⟨w4.heap.size, w4.heap.size + 1 + 1, w4.heap.size + 1, l2.length, dE, EA, rfl, ⟨by go_simp, by go_simp, by go_simp, by rw [← HEN.out]; go_simp, by go_simp⟩,
    ⟨by rw [← HEN.out]; exact Kd.R_mono (ok := fun k => k ≠ w4.heap.size + 1 ∧ k ≠ w4.heap.size) (by (repeat (with_reducible first | apply Kd.R_alloc | refine Kd.R_far ?_ (fun k hk => hk.2) _)); exact R_kept hR4.out (by first | omega | (simp; done) | (simp; omega)) (by intro k h1 h2; simp at h1; omega)) (fun k hk => hk.1)⟩,
    ⟨Kd.R_mono (ok := fun k => k = w4.heap.size + 1) (by (repeat (with_reducible first | refine R_fresh_at _ _ _ hvh.out.1 _ ?_ ?_ | apply Kd.R_drew | apply Kd.R_alloc)); all_goals (first | omega | (simp; done) | (simp; omega))) (fun _ _ => trivial)⟩,
    ⟨by omega, by omega, by omega, by simp; try omega, by repeat (first | exact hb34.out | apply below_alloc | refine Below.setCell ?_ (by first | exact Nat.le_refl _ | exact Nat.le_succ _) _)⟩⟩
  ·have hs := hB4.out.size
   simp at hs
   go_wp2_with fail
   go_meet
   exact ⟨w4.heap.size + 1, w4.heap.size, w3.heap.size, l2.length, dE, EA, rfl, ⟨by go_simp, by go_simp, by go_simp, by rw [← HEN.out]; go_simp, by go_simp⟩,
    ⟨by rw [← HEN.out]; exact Kd.R_mono (ok := fun k => k ≠ w3.heap.size ∧ k ≠ w4.heap.size + 1) (by (repeat (with_reducible first | apply Kd.R_alloc | refine Kd.R_far ?_ (fun k hk => hk.2) _)); exact R_kept hR4.out (by first | omega | (simp; done) | (simp; omega)) (by intro k h1 h2; simp at h1; omega)) (fun k hk => hk.1)⟩,
    ⟨Kd.R_mono (ok := fun k => k = w3.heap.size) (by (repeat (with_reducible first | apply Kd.R_alloc | refine Kd.R_far ?_ (fun k hk => by rw [hk]; simp) _)); refine Kd.R_below ?_ hB4.out; (repeat (with_reducible first | refine R_fresh_at _ _ _ hvh.out.1 _ ?_ ?_ | apply Kd.R_drew | apply Kd.R_alloc)); all_goals (first | omega | (simp; done) | (simp; omega))) (fun _ _ => trivial)⟩,
    ⟨by omega, by omega, by omega, by simp; try omega, by repeat (first | exact hb34.out | apply below_alloc | refine Below.setCell ?_ (by first | exact Nat.le_refl _ | exact Nat.le_succ _) _)⟩⟩
  ·have hs := hB4.out.size
   simp at hs
   go_wp2_with fail
   go_meet
   exact ⟨w4.heap.size, w4.heap.size + 1, w3.heap.size, l2.length, dE, EA, rfl, ⟨by go_simp, by go_simp, by go_simp, by rw [← HEN.out]; go_simp, by go_simp⟩,
    ⟨by rw [← HEN.out]; exact Kd.R_mono (ok := fun k => k ≠ w3.heap.size ∧ k ≠ w4.heap.size) (by (repeat (with_reducible first | apply Kd.R_alloc | refine Kd.R_far ?_ (fun k hk => hk.2) _)); exact R_kept hR4.out (by first | omega | (simp; done) | (simp; omega)) (by intro k h1 h2; simp at h1; omega)) (fun k hk => hk.1)⟩,
    ⟨Kd.R_mono (ok := fun k => k = w3.heap.size) (by (repeat (with_reducible first | apply Kd.R_alloc | refine Kd.R_far ?_ (fun k hk => by rw [hk]; simp) _)); refine Kd.R_below ?_ hB4.out; (repeat (with_reducible first | refine R_fresh_at _ _ _ hvh.out.1 _ ?_ ?_ | apply Kd.R_drew | apply Kd.R_alloc)); all_goals (first | omega | (simp; done) | (simp; omega))) (fun _ _ => trivial)⟩,
    ⟨by omega, by omega, by omega, by simp; try omega, by repeat (first | exact hb34.out | apply below_alloc | refine Below.setCell ?_ (by first | exact Nat.le_refl _ | exact Nat.le_succ _) _)⟩⟩
  ·have hs := hB4.out.size
   simp at hs
   go_wp2_with fail
   go_meet
   exact ⟨w3.heap.size + 1, w4.heap.size, w3.heap.size, l2.length, dE, EA, rfl, ⟨by go_simp, by go_simp, by go_simp, by rw [← HEN.out]; go_simp, by go_simp⟩,
    ⟨by rw [← HEN.out]; exact Kd.R_mono (ok := fun k => k ≠ w3.heap.size ∧ k ≠ w3.heap.size + 1) (by (repeat (with_reducible first | apply Kd.R_alloc | refine Kd.R_far ?_ (fun k hk => hk.2) _)); exact R_kept hR4.out (by first | omega | (simp; done) | (simp; omega)) (by intro k h1 h2; simp at h1; omega)) (fun k hk => hk.1)⟩,
    ⟨Kd.R_mono (ok := fun k => k = w3.heap.size) (by (repeat (with_reducible first | apply Kd.R_alloc | refine Kd.R_far ?_ (fun k hk => by rw [hk]; simp) _)); refine Kd.R_below ?_ hB4.out; (repeat (with_reducible first | refine R_fresh_at _ _ _ hvh.out.1 _ ?_ ?_ | apply Kd.R_drew | apply Kd.R_alloc)); all_goals (first | omega | (simp; done) | (simp; omega))) (fun _ _ => trivial)⟩,
    ⟨by omega, by omega, by omega, by simp; try omega, by repeat (first | exact hb34.out | apply below_alloc | refine Below.setCell ?_ (by first | exact Nat.le_refl _ | exact Nat.le_succ _) _)⟩⟩
  ·have hs := hB4.out.size
   simp at hs
   go_wp2_with fail
   go_meet
   exact ⟨w3.heap.size, w4.heap.size + 1, w4.heap.size, l2.length, dE, EA, rfl, ⟨by go_simp, by go_simp, by go_simp, by rw [← HEN.out]; go_simp, by go_simp⟩,
    ⟨by rw [← HEN.out]; exact Kd.R_mono (ok := fun k => k ≠ w4.heap.size ∧ k ≠ w3.heap.size) (by (repeat (with_reducible first | apply Kd.R_alloc | refine Kd.R_far ?_ (fun k hk => hk.2) _)); exact R_kept hR4.out (by first | omega | (simp; done) | (simp; omega)) (by intro k h1 h2; simp at h1; omega)) (fun k hk => hk.1)⟩,
    ⟨Kd.R_mono (ok := fun k => k = w4.heap.size) (by (repeat (with_reducible first | refine R_fresh_at _ _ _ hvh.out.1 _ ?_ ?_ | apply Kd.R_drew | apply Kd.R_alloc)); all_goals (first | omega | (simp; done) | (simp; omega))) (fun _ _ => trivial)⟩,
    ⟨by omega, by omega, by omega, by simp; try omega, by repeat (first | exact hb34.out | apply below_alloc | refine Below.setCell ?_ (by first | exact Nat.le_refl _ | exact Nat.le_succ _) _)⟩⟩
  ·have hs := hB4.out.size
   simp at hs
   go_wp2_with fail
   go_meet
   exact ⟨w3.heap.size, w4.heap.size, w3.heap.size + 1, l2.length, dE, EA, rfl, ⟨by go_simp, by go_simp, by go_simp, by rw [← HEN.out]; go_simp, by go_simp⟩,
    ⟨by rw [← HEN.out]; exact Kd.R_mono (ok := fun k => k ≠ w3.heap.size + 1 ∧ k ≠ w3.heap.size) (by (repeat (with_reducible first | apply Kd.R_alloc | refine Kd.R_far ?_ (fun k hk => hk.2) _)); exact R_kept hR4.out (by first | omega | (simp; done) | (simp; omega)) (by intro k h1 h2; simp at h1; omega)) (fun k hk => hk.1)⟩,
    ⟨Kd.R_mono (ok := fun k => k = w3.heap.size + 1) (by (repeat (with_reducible first | apply Kd.R_alloc | refine Kd.R_far ?_ (fun k hk => by rw [hk]; simp) _)); refine Kd.R_below ?_ hB4.out; (repeat (with_reducible first | refine R_fresh_at _ _ _ hvh.out.1 _ ?_ ?_ | apply Kd.R_drew | apply Kd.R_alloc)); all_goals (first | omega | (simp; done) | (simp; omega))) (fun _ _ => trivial)⟩,
    ⟨by omega, by omega, by omega, by simp; try omega, by repeat (first | exact hb34.out | apply below_alloc | refine Below.setCell ?_ (by first | exact Nat.le_refl _ | exact Nat.le_succ _) _)⟩⟩
 case rest =>
  obtain ⟨b3, tb, G, cap, dE, E, rfl, hcell, hE, hF, hN⟩ := hcut
  have hNB := Aside0.mk hN.out.2.2.2.2
  have hsz : Aside0 (b3 ≠ G ∧ tb ≠ G ∧ gb < G ∧ w3.heap.size ≤ G ∧ G < wc.heap.size) := ⟨hN.out.1, hN.out.2.1, Nat.lt_of_lt_of_le hgb.out hN.out.2.2.1, hN.out.2.2.1, hN.out.2.2.2.1⟩
  clear F0 F1 F2 F3 F4
  have F0 := pw_cell_below hNB.out E0.out
  have F1 := pw_cell_below hNB.out E1.out
  have F2 := pw_cell_below hNB.out E2.out
  have F3 := pw_cell_below hNB.out E3.out
  have F4 := pw_cell_below hNB.out E4.out
  have F5 := hcell.out.1
  have F6 := hcell.out.2.2.2.2
  have hmf : ∀ (fn : Fn) (first cap : Array Value) (w : World), (Instr.makeFunc fn first cap).run Tryd.prog w = .ok (.func fn first cap) w := fun _ _ _ _ => rfl
  have hEE : Aside0 (∀ wz wy : World, Below wc.heap.size wc wz → wz.grownBy wy (some G) → Kd.C Kd.bool wy E l2.length es) := ⟨fun wz wy hz hy => by
   have h1 := Kd.R_grown (Kd.R_below hE.out hz) hy (fun k hk e => hk (by injection e))
   have h2 := (Kd.R_reads' h1).2.2
   rwa [← (Kd.R_reads' h1).1] at h2⟩
  have hgrow : Aside0 (∀ wz : World, Below wc.heap.size wc wz → Calls Tryd.prog 81 #[.agg #[.slice A0 l0.length c0, .slice A1 l1.length c1, .slice A2 l2.length c2, .slice A3 l3.length c3, .int .i64 st], .slice (some ⟨G, 0, none⟩) l2.length cap, .func (.func 82) #[] #[.pointer (some ⟨b3, 0, none⟩)]] wz
    fun e w' => e = .returned (.slice (some ⟨G, 0, none⟩) l2.length cap) ∧ Kd.R (Kd.int .u64) 76 w' w3.heap.size (fun _ => True) (.slice (some ⟨G, 0, none⟩) l2.length cap) fs ∧ wz.grownBy w' (some G)) := ⟨fun wz hz =>
   grow_set k tb l0.length l2.length A0 A2 E c0 c2 dE es A0 c0 l0 A1 c1 l1 A2 c2 l2 A3 c3 l3 st b3 G cap w3.heap.size (fun _ => True) (List.replicate l2.length 0) fs w3 wz (Kd.C_below HR3.out HW3.out) (below_step hNB.out hz) hsz.out.2.2.2.1 (Nat.lt_of_lt_of_le hsz.out.2.2.2.2 hz.size) hvh.out.1
    (pw_cell_below hz hcell.out.1) (pw_cell_below hz hcell.out.2.1) (pw_cell_below hz hcell.out.2.2.1) (pw_cell_below hz hcell.out.2.2.2.1) (pw_cell_below hz hcell.out.2.2.2.2) (fun wy hy => hEE.out wz wy hz hy) hsz.out.1 hsz.out.2.1 (Kd.R_below hF.out hz) HS.out HF.out⟩
  have X0 := Aside0.mk F0
  have X1 := Aside0.mk F1
  have X2 := Aside0.mk F2
  have X3 := Aside0.mk F3
  have X4 := Aside0.mk F4
  have X5 := Aside0.mk F5
  have X6 := Aside0.mk F6
  clear E0 E1 E2 E3 E4
  go_upto_region 4 with fail
  go_region_held3 (fun w' => w'.cell? ⟨gb, 0, none⟩ = some (.slice A0 l0.length c0) ∧ w'.cell? ⟨gb, 1, none⟩ = some (.slice A1 l1.length c1) ∧ w'.cell? ⟨gb, 2, none⟩ = some (.slice A2 l2.length c2) ∧ w'.cell? ⟨gb, 3, none⟩ = some (.slice A3 l3.length c3) ∧ w'.cell? ⟨gb, 4, none⟩ = some (.int .i64 st) ∧ w'.cell? ⟨b3, 0, none⟩ = some (.pointer (some ⟨tb, 0, none⟩)) ∧ w'.cell? ⟨tb, 6, none⟩ = some (.slice (some ⟨G, 0, none⟩) l2.length cap)) (go_keep)
   (first | (go_at_call 81; refine (hgrow.out _ (by repeat (first | exact Below.refl _ _ | apply below_drew))).mono ?_; rintro e w6 ⟨rfl, hr6, hg6⟩; have hk := fun {a : Addr} {v : Value} (h : wc.cell? a = some v) (hn : a.block ≠ G) => World.grownBy.cell hg6 (a := a) (v := v) (pw_cell_below (by repeat (first | exact Below.refl _ _ | apply below_drew)) h) (fun e => hn (by injection e)); have y0 := hk X0.out (Nat.ne_of_lt hsz.out.2.2.1); have y1 := hk X1.out (Nat.ne_of_lt hsz.out.2.2.1); have y2 := hk X2.out (Nat.ne_of_lt hsz.out.2.2.1); have y3 := hk X3.out (Nat.ne_of_lt hsz.out.2.2.1); have y4 := hk X4.out (Nat.ne_of_lt hsz.out.2.2.1); have y5 := hk X5.out hsz.out.1; have y6 := hk X6.out hsz.out.2.1; have y7 := Aside0.mk (hk hcell.out.2.1 hsz.out.2.1); have y8 := Aside0.mk (hk hcell.out.2.2.1 hsz.out.2.1); have y9 := Aside0.mk (hk hcell.out.2.2.2.1 hsz.out.2.1); clear hk; replace hr6 := Aside0.mk hr6; replace hg6 := Aside0.mk hg6))
  go_wp2
  go_ret
  exact ⟨tb, G, cap, dE, E, rfl, y7.out, y8.out, y9.out, y6, hEE.out _ _ (by repeat (first | exact Below.refl _ _ | apply below_drew)) hg6.out, Kd.R_lower hr6.out (by first | exact HW3.out.size | (rw [← HGB.out]; exact HW3.out.size)), below_grownS (below_drew (below_step HW3.out hNB.out)) hg6.out (by rw [HGB.out]; exact Nat.le_of_lt hsz.out.2.2.1)⟩

end Go.Proofs.YtclollnicbcooaaDoor.P
end

section
set_option linter.unusedVariables false
set_option linter.unusedSimpArgs false
namespace Go.Proofs.YtclollnicbcooaaDoor.P
open Go.Proofs.YtclollnicbcooaaDoor.Base Go.RowKit Go.Proofs.YtclollnicbcooaaDoorW.PrintWords Go.Proofs.YtclollnicbcooaaDoorW.PrintLast Go.Proofs.YtclollnicbcooaaDoorW.PrintMore

theorem With_some (out s : Int) (h0 : 0 ≤ s) (h1 : s < 64) : ∃ q, bits_With.f out s = some q := by
 unfold bits_With.f bits_bit.f
 rw [if_neg (by omega), if_neg (by omega), if_pos h0]
 exact ⟨_, rfl⟩

theorem rowF_total (nT nS : Int) (hT : nT ≤ 60) (es : List Bool) (fs : List Int) (behind : Int) : ∀ (l : List Int) (out : Int), ∃ q, rowF nT nS es fs behind l out = some q
 | [], out => ⟨_, rfl⟩
 | s :: l, out => by
  unfold rowF
  split
  ·exact ⟨_, rfl⟩
  ·rename_i hn
   split
   ·exact With_some _ _ (by assumption) (by omega)
   ·have hu : bits_Union.f out (rd fs (-1 - s)) = some (Go.bits .or .u64 out (rd fs (-1 - s))) := rfl
    rw [hu]
    simp only [Option.bind_some]
    split
    ·exact rowF_total nT nS hT es fs behind l _
    ·exact ⟨_, rfl⟩

theorem Empty_len {k : Nat} {l0 : List S82} {l1 : List S101} {l2 : List ByteArray} {l3 : List S64} {st : Int} {es : List Bool} (hv : validB l0 l1 l2 l3 st = true) (h : sets_Empty.f k l0 l1 l2 l3 st = some es) : es.length = l2.length := by
 unfold sets_Empty.f sets_all.f at h
 rw [if_pos hv] at h
 have h' : growG false (moreB false) l3 k (List.replicate l2.length false) = some es := by simpa using h
 rw [growG_length _ _ _ _ _ _ h', List.length_replicate]

theorem valid_terms {l0 : List S82} {l1 : List S101} {l2 : List ByteArray} {l3 : List S64} {st : Int} (h : validB l0 l1 l2 l3 st = true) : (l0.length : Int) ≤ 60 := by
 simp only [validB, Bool.and_eq_true, Bool.not_eq_true', decide_eq_false_iff_not, List.all_eq_true] at h
 obtain ⟨⟨⟨⟨⟨⟨⟨⟨h0, -⟩, -⟩, -⟩, -⟩, -⟩, -⟩, -⟩, -⟩ := h
 omega

def sets_First.f (k : Nat) (l0 : List S82) (l1 : List S101) (l2 : List ByteArray) (l3 : List S64) (st : Int) : Option (List Int) :=
 if validB l0 l1 l2 l3 st = true then (sets_Empty.f k l0 l1 l2 l3 st).bind fun es => growG (0 : Int) (moreS l0.length l2.length es) l3 k (List.replicate l2.length 0) else some []

end Go.Proofs.YtclollnicbcooaaDoor.P
end

section
set_option linter.unusedVariables false
set_option linter.unusedSimpArgs false
namespace Go.Proofs.YtclollnicbcooaaDoor.P
open Go.Proofs.YtclollnicbcooaaDoor.Base Go.RowKit Go.Proofs.YtclollnicbcooaaDoorW.PrintWords Go.Proofs.YtclollnicbcooaaDoorW.PrintLast Go.Proofs.YtclollnicbcooaaDoorW.PrintMore

def sets_Of.f (k : Nat) (l0 : List S82) (l1 : List S101) (l2 : List ByteArray) (l3 : List S64) (st : Int) (l : List Int) (behind : Int) : Option Int :=
 if validB l0 l1 l2 l3 st = true then (sets_Empty.f k l0 l1 l2 l3 st).bind fun es => (growG (0 : Int) (moreS l0.length l2.length es) l3 k (List.replicate l2.length 0)).bind fun fs => rowF l0.length l2.length es fs behind l 0 else some 0

theorem sets_Of.mono (l0 : List S82) (l1 : List S101) (l2 : List ByteArray) (l3 : List S64) (st : Int) (l : List Int) (behind : Int) (k : Nat) : LeO (sets_Of.f k l0 l1 l2 l3 st l behind) (sets_Of.f (k + 1) l0 l1 l2 l3 st l behind) := by
 unfold sets_Of.f
 split
 ·intro r h
  obtain ⟨es, he, h⟩ := Option.bind_eq_some_iff.1 h
  obtain ⟨fs, hf, h⟩ := Option.bind_eq_some_iff.1 h
  exact Option.bind_eq_some_iff.2 ⟨es, sets_Empty.mono _ _ _ _ _ _ _ he, Option.bind_eq_some_iff.2 ⟨fs, growG_mono _ _ _ _ _ _ hf, h⟩⟩
 ·exact fun _ h => h

set_option maxHeartbeats 4000000 in
set_option maxRecDepth 100000 in
theorem sets_Of.calls (k : Nat) (A0 : Option Addr) (c0 : Nat) (l0 : List S82) (A1 : Option Addr) (c1 : Nat) (l1 : List S101) (A2 : Option Addr) (c2 : Nat) (l2 : List ByteArray) (A3 : Option Addr) (c3 : Nat) (l3 : List S64) (st : Int) (A : Option Addr) (c : Nat) (l : List Int) (behind : Int) (r : Int) (w : World)
  (hr0 : Kd.C k82 w A0 l0.length l0) (hc0 : l0.length ≤ c0) (hr1 : Kd.C k101 w A1 l1.length l1) (hc1 : l1.length ≤ c1) (hr2 : Kd.C Kd.string w A2 l2.length l2) (hc2 : l2.length ≤ c2) (hr3 : Kd.C k64 w A3 l3.length l3) (hc3 : l3.length ≤ c3) (hr : Kd.C (Kd.int .i64) w A l.length l) (hc : l.length ≤ c)
  (h : sets_Of.f k l0 l1 l2 l3 st l behind = some r) :
  Calls Tryd.prog 77 #[.agg #[.slice A0 l0.length c0, .slice A1 l1.length c1, .slice A2 l2.length c2, .slice A3 l3.length c3, .int .i64 st], .slice A l.length c, .int .u64 behind] w fun e w' => e = .returned (.int .u64 r) ∧ Below w.heap.size w w' := by
 have HB : Aside0 (Below w.heap.size w (w.alloc (Obj.cells #[.slice A0 l0.length c0, .slice A1 l1.length c1, .slice A2 l2.length c2, .slice A3 l3.length c3, .int .i64 st] 27))) := ⟨below_alloc (Below.refl _ _) _⟩
 have hsz : Aside0 (w.heap.size ≤ (w.alloc (Obj.cells #[.slice A0 l0.length c0, .slice A1 l1.length c1, .slice A2 l2.length c2, .slice A3 l3.length c3, .int .i64 st] 27)).heap.size) := ⟨HB.out.size⟩
 have r0 := Kd.C_below hr0 HB.out
 have r1 := Kd.C_below hr1 HB.out
 have r2 := Kd.C_below hr2 HB.out
 have r3 := Kd.C_below hr3 HB.out
 have hu27 := Tryd.underlying27
 have hu138 := Tryd.underlying138
 unfold sets_Of.f at h
 cases hv : validB l0 l1 l2 l3 st
 ·have hkn := Aside0.mk (known_nil A0 c0 l0 A1 c1 l1 A2 c2 l2 A3 c3 l3 st (w.alloc (Obj.cells #[.slice A0 l0.length c0, .slice A1 l1.length c1, .slice A2 l2.length c2, .slice A3 l3.length c3, .int .i64 st] 27)) r0 r1 r2 r3 hv)
  have hrr : Aside0 ((0 : Int) = r) := ⟨by rw [hv] at h; simpa using h⟩
  clear hr hr0 hr1 hr2 hr3 r0 r1 r2 r3 hv h
  go_enter Tryd.func77, Tryd.ntmps77
  go_wp2_with (go_at_call 51; refine hkn.out.mono ?_; rintro e w3 ⟨rfl, hb3⟩; replace hb3 := Aside0.mk hb3)
  go_ret
  exact ⟨by rw [← hrr.out]; rfl, below_step HB.out hb3.out⟩
 ·rw [if_pos hv] at h
  obtain ⟨es, he, h⟩ := Option.bind_eq_some_iff.1 h
  obtain ⟨fs, hf, h⟩ := Option.bind_eq_some_iff.1 h
  have HH := Aside0.mk h
  have HL := Aside0.mk (Kd.C_below hr HB.out)
  have h60 := Aside0.mk (valid_has hv).1
  have hkn := Aside0.mk (known_calls k A0 c0 l0 A1 c1 l1 A2 c2 l2 A3 c3 l3 st es fs (w.alloc (Obj.cells #[.slice A0 l0.length c0, .slice A1 l1.length c1, .slice A2 l2.length c2, .slice A3 l3.length c3, .int .i64 st] 27)) r0 hc0 r1 hc1 r2 hc2 r3 hc3 hv he (Empty_len hv he) hf (fun p hp => ⟨((valid_has hv).2.2 p hp).1, fun xs => rowF_total _ _ (valid_terms hv) _ _ _ _ _⟩))
  clear hr hr0 hr1 hr2 hr3 r0 r1 r2 r3 hv h he hf
  go_enter Tryd.func77, Tryd.ntmps77
  go_wp2_with (first | (go_at_call 51; refine hkn.out.mono ?_; rintro e w3 ⟨tb, G, cap, dE, E, rfl, y0, y2, y5, y6, hE, hR, hb3⟩; have hrow := row_calls tb l0.length l2.length A0 A2 E (some ⟨G, 0, none⟩) c0 c2 dE cap es fs A c l behind r w3 (Kd.C_below HL.out hb3) h60.out y0 y2 y5 y6 hE (by have := (Kd.R_reads' hR).2.2; rwa [← (Kd.R_reads' hR).1] at this) HH.out; replace hb3 := Aside0.mk hb3; replace hR := Aside0.mk hR; replace hrow := Aside0.mk hrow; clear hE) | (go_at_call 53; refine hrow.out.mono ?_; rintro e w4 ⟨rfl, m, rfl⟩))
  go_ret
  exact ⟨rfl, pw_below_drewN (below_step HB.out hb3.out) _⟩

end Go.Proofs.YtclollnicbcooaaDoor.P
end

section
set_option linter.unusedVariables false
set_option linter.unusedSimpArgs false
namespace Go.Proofs.YtclollnicbcooaaDoor.P
open Go.RowKit Go.Lib Go.Sort Go.Proofs.YtclollnicbcooaaDoorW.PrintWords Go.Proofs.YtclollnicbcooaaDoorW.PrintLast Go.Proofs.YtclollnicbcooaaDoorW.PrintMore St Base

instance (s : Spt) : Decidable (rngS s) := by unfold rngS rngN rngI; infer_instance
def foldE (ofF : List Int → Int → Option Int) (s : Spt) : List Edg → (Spt → Int) × List Spt → Option ((Spt → Int) × List Spt)
 | [], Z => some Z
 | e :: es, Z => if rngS e.1 ∧ Z.2.length ≤ 1000000000 then (ofF e.2 (Z.1 s)).bind fun t => foldE ofF s es (moreL Z.1 Z.2 e.1 t) else none
def queueF (ofF : List Int → Int → Option Int) (ed : Spt → Option (List Edg)) : Nat → (Spt → Int) × List Spt → Option (Spt → Int)
 | 0, _ => none
 | k + 1, (F, q) => match q with
  | [] => some F
  | s :: q => (ed s).bind fun es => if rngS s ∧ es.length ≤ 1000000 then (foldE ofF s es (F, q)).bind (queueF ofF ed k) else none
def outF (cl : List S37 → Option (List S37)) (F : Spt → Int) : Nat → List (List S37) → Option (List S74)
 | _, [] => some []
 | i, c :: K => (cl c).bind fun items => if (∀ x ∈ items, rngS ((i : Int), toI x)) ∧ items.length ≤ 1000000 then (outF cl F (i + 1) K).map fun r => ⟨items, items.map fun x => F ((i : Int), toI x)⟩ :: r else none
def beg0 : Spt := (0, (-1, 0))
def look_rows.f (k : Nat) (l0 : List S82) (l1 : List S101) (l2 : List ByteArray) (l3 : List S64) (st : Int) (K : List (List S37)) (N : List (List Int)) : Option (List S74) :=
 if K.length ≤ 1000000 ∧ l3.length ≤ 100000 then (bits_Of.f k [63]).bind fun t0 => (queueF (sets_Of.f k l0 l1 l2 l3 st) (edgesF l0 l1 l2 l3 st K N) k (moreL (fun _ => 0) [] beg0 t0)).bind fun F => outF (states_Close.f l0 l1 l2 l3 st) F 0 K else none
def look_All.f (k : Nat) (l0 : List S82) (l1 : List S101) (l2 : List ByteArray) (l3 : List S64) (st : Int) : Option (List S74 × Int) :=
 (states_Build.f l0 l1 l2 l3 st).bind fun b => if b.2.2 = 0 then (look_rows.f k l0 l1 l2 l3 st b.1 b.2.1).map fun r => (r, 0) else some ([], b.2.2)

theorem foldE_mono {f g : List Int → Int → Option Int} (h : ∀ l b, LeO (f l b) (g l b)) (s : Spt) : ∀ (es : List Edg) (Z : (Spt → Int) × List Spt), LeO (foldE f s es Z) (foldE g s es Z)
 | [], Z => LeO.refl _
 | e :: es, Z => by
  unfold foldE
  split
  ·intro r hr
   obtain ⟨t, ht, hr⟩ := Option.bind_eq_some_iff.1 hr
   exact Option.bind_eq_some_iff.2 ⟨t, h _ _ _ ht, foldE_mono h s es _ _ hr⟩
  ·exact LeO.refl _
theorem queueF_mono {f g : List Int → Int → Option Int} (h : ∀ l b, LeO (f l b) (g l b)) (ed : Spt → Option (List Edg)) : ∀ (k : Nat) (Z : (Spt → Int) × List Spt), LeO (queueF f ed k Z) (queueF g ed (k + 1) Z)
 | 0, Z => fun r hr => by simp [queueF] at hr
 | k + 1, (F, []) => fun r hr => hr
 | k + 1, (F, s :: q) => fun r hr => by
  rw [queueF] at hr ⊢
  obtain ⟨es, he, hr⟩ := Option.bind_eq_some_iff.1 hr
  refine Option.bind_eq_some_iff.2 ⟨es, he, ?_⟩
  split at hr
  ·rename_i hg
   rw [if_pos hg]
   obtain ⟨Z, hZ, hr⟩ := Option.bind_eq_some_iff.1 hr
   exact Option.bind_eq_some_iff.2 ⟨Z, foldE_mono h s es _ _ hZ, queueF_mono h ed k Z _ hr⟩
  ·cases hr
theorem look_rows.mono (l0 : List S82) (l1 : List S101) (l2 : List ByteArray) (l3 : List S64) (st : Int) (K : List (List S37)) (N : List (List Int)) (k : Nat) : LeO (look_rows.f k l0 l1 l2 l3 st K N) (look_rows.f (k + 1) l0 l1 l2 l3 st K N) := by
 unfold look_rows.f
 split
 ·intro r h
  obtain ⟨t, ht, h⟩ := Option.bind_eq_some_iff.1 h
  obtain ⟨F, hF, h⟩ := Option.bind_eq_some_iff.1 h
  exact Option.bind_eq_some_iff.2 ⟨t, bits_Of.mono _ _ _ ht, Option.bind_eq_some_iff.2 ⟨F, queueF_mono (fun l b => sets_Of.mono _ _ _ _ _ _ _ _) _ _ _ _ hF, h⟩⟩
 ·exact LeO.refl _
end Go.Proofs.YtclollnicbcooaaDoor.P
end

section
set_option linter.unusedVariables false
set_option linter.unusedSimpArgs false
namespace Go.Proofs.YtclollnicbcooaaDoor.P
open Go.RowKit Go.Lib Go.Sort Go.Proofs.YtclollnicbcooaaDoorW.PrintWords Go.Proofs.YtclollnicbcooaaDoorW.PrintLast Go.Proofs.YtclollnicbcooaaDoorW.PrintMore St Base

theorem Lk.start (w : World) (g0 g1 g2 g3 g4 Kv Nv : Value) : Lk w w.heap.size g0 g1 g2 g3 g4 Kv Nv (fun _ => 0) [] (.slice none 0 0) (fun k => w.heap.size + 4 ≤ k) ((((w.alloc (Obj.cells #[g0, g1, g2, g3, g4] 27)).alloc (Obj.cells #[Kv, Nv] 49)).alloc (Obj.map #[] 0)).alloc (Obj.cells #[g0, g1, g2, g3, g4, Kv, Nv, .map (some (w.heap.size + 2)), .slice none 0 0] 126)) where
 hb := below_alloc (below_alloc (below_alloc (below_alloc (RowKit.Below.refl _ _) _) _) _) _
 hB := Nat.le_refl _
 bg := blk_alloc (blk_alloc (blk_alloc (blk_new w _) _) _) _
 ba := by
  have h := blk_new (w.alloc (Obj.cells #[g0, g1, g2, g3, g4] 27)) (Obj.cells #[Kv, Nv] 49)
  rw [World.size_alloc] at h
  exact blk_alloc (blk_alloc h _) _
 mp := by
  have h := Ah.new ((w.alloc (Obj.cells #[g0, g1, g2, g3, g4] 27)).alloc (Obj.cells #[Kv, Nv] 49))
  rw [World.size_alloc, World.size_alloc] at h
  exact h.same (Below.block (below_alloc (RowKit.Below.refl _ _) _) _ h.lt)
 bx := by
  have h := blk_new (((w.alloc (Obj.cells #[g0, g1, g2, g3, g4] 27)).alloc (Obj.cells #[Kv, Nv] 49)).alloc (Obj.map #[] 0)) (Obj.cells #[g0, g1, g2, g3, g4, Kv, Nv, .map (some (w.heap.size + 2)), .slice none 0 0] 126)
  rw [World.size_alloc, World.size_alloc, World.size_alloc] at h
  exact h
 hq := Kd.Q_nil _ _ _ _ _
 ge := fun k hk => hk
section
variable {w : World} {B : Nat} {g0 g1 g2 g3 g4 Kv Nv : Value} {F : Spt → Int} {q : List Spt} {vq : Value} {ok : Nat → Prop} {W : World} {s : Spt}
theorem Lk.head (h : Lk w B g0 g1 g2 g3 g4 Kv Nv F (s :: q) vq ok W) : ∃ (ad : Addr) (c : Nat), vq = .slice (some ad) (q.length + 1) c ∧ 1 ≤ c ∧ W.cell? ad = some (.int .i64 s.1) ∧ W.cell? ⟨ad.block, ad.off + 1, none⟩ = some (.int .i64 s.2.1) ∧ W.cell? ⟨ad.block, ad.off + 2, none⟩ = some (.int .i64 s.2.2) := by
 obtain ⟨A, c, e, hc, hC⟩ := Kd.Q_reads h.hq
 rw [List.length_map, List.length_cons] at e hc hC
 obtain ⟨ad, cs, e1, hl, hK, hcell⟩ := Kd.C_get hC [] (0 : Int) (by omega) (by omega)
 have e2 : cs = encS s := by
  have := hK.1
  simp at this
  exact this
 subst e2
 have e0 : ad.add ((0 : Int).toNat * 3) = ad := add_none ad
 refine ⟨ad, c, by rw [e, e1], by omega, ?_, ?_, ?_⟩
 ·have := hcell 0 _ rfl
  rw [← e0]
  exact this
 ·have := hcell 1 _ rfl
  have h1 : W.cell? ⟨(ad.add ((0 : Int).toNat * 3)).block, (ad.add ((0 : Int).toNat * 3)).off + 1, none⟩ = some (.int .i64 s.2.1) := by
   rw [← add_field _ _ 1 (by omega)]; exact this
  rw [e0] at h1
  exact h1
 ·have := hcell 2 _ rfl
  have h1 : W.cell? ⟨(ad.add ((0 : Int).toNat * 3)).block, (ad.add ((0 : Int).toNat * 3)).off + 2, none⟩ = some (.int .i64 s.2.2) := by
   rw [← add_field _ _ 2 (by omega)]; exact this
  rw [e0] at h1
  exact h1
theorem Lk.pop {A : Option Addr} {c : Nat} (h : Lk w B g0 g1 g2 g3 g4 Kv Nv F (s :: q) (.slice A (q.length + 1) c) ok W) : Lk w B g0 g1 g2 g3 g4 Kv Nv F q (.slice (if c = 1 then A else A.map (·.add (1 * 3))) q.length (c - 1)) ok (W.setCell ⟨B + 3, 8, none⟩ (.slice (if c = 1 then A else A.map (·.add (1 * 3))) q.length (c - 1))) := by
 have hd := Kd.Q_drop h.hq (k := 1) (by simp)
 have hd' : (Kd.raw 3).Q 129 W (B + 4) ok (.slice (if c = 1 then A else A.map (·.add (1 * 3))) q.length (c - 1)) (q.map encS) := hd
 exact h.push hd' ⟨rfl, rfl, rfl, Nat.le_refl _, fun _ _ _ => rfl⟩
theorem Lk.qlt (h : Lk w B g0 g1 g2 g3 g4 Kv Nv F q vq ok W) : ∀ k, vq.ownBlock = some k → k < W.heap.size ∧ ∃ cells, W.heap[k]? = some (.cells cells 129 (0, 0)) := fun k hk => by
 obtain ⟨_, _, h2, p, hp, cells, hc⟩ := (Kd.Q_bound h.hq).1 k hk
 refine ⟨h2, cells, ?_⟩
 have : p = 129 := by
  rcases List.mem_cons.1 hp with e | e
  ·exact e
  ·cases e
 rw [← this]
 exact hc
end
theorem Er.typed {w : World} {b : Nat} {ok : Nat → Prop} {v : Value} {es : List Edg} {W : World} (h : Er w b ok v es W) : ∀ k, v.ownBlock = some k → b ≤ k ∧ k < W.heap.size ∧ ∃ cells, W.heap[k]? = some (.cells cells 133 (0, 0)) := fun k hk => by
 obtain ⟨rows, h1, h2, h3⟩ := h.ex
 obtain ⟨_, hb, hlt, p, hp, cells, hc⟩ := (Kd.R_bound h3).1 k hk
 refine ⟨hb, hlt, cells, ?_⟩
 have : p = 133 := by
  rcases List.mem_cons.1 hp with e | e
  ·exact e
  ·cases e
 rw [← this]
 exact hc
/-- A row of edges, over a step of the queue. -/
theorem Er.over {w w' : World} {B b : Nat} {g0 g1 g2 g3 g4 Kv Nv : Value} {F : Spt → Int} {q : List Spt} {vq v : Value} {ok ok' : Nat → Prop} {es : List Edg} {W W1 : World} (h : Er w b ok' v es W) (hL : Lk w' B g0 g1 g2 g3 g4 Kv Nv F q vq ok W) (hb : B + 4 ≤ b) (hk : ∀ k, k < W.heap.size → k ≠ B + 2 → k ≠ B + 3 → some k ≠ vq.ownBlock → W1.heap[k]? = W.heap[k]?) : Er w b ok' v es W1 :=
 h.step fun k hkv hlt => by
  obtain ⟨h1, _, cells, h3⟩ := h.typed k hkv.symm
  refine hk k hlt (by omega) (by omega) fun e => ?_
  obtain ⟨_, cells', h4⟩ := hL.qlt k e.symm
  rw [h3] at h4
  injection h4 with h4
  injection h4 with _ h4
  cases h4
end Go.Proofs.YtclollnicbcooaaDoor.P
end

section
set_option linter.unusedVariables false
set_option linter.unusedSimpArgs false
namespace Go.Proofs.YtclollnicbcooaaDoor.P
open Go.RowKit Go.Lib Go.Sort Go.Proofs.YtclollnicbcooaaDoorW.PrintWords Go.Proofs.YtclollnicbcooaaDoorW.PrintLast Go.Proofs.YtclollnicbcooaaDoorW.PrintMore St Base

structure Lz (w : World) (B : Nat) (g0 g1 g2 g3 g4 Kv Nv : Value) (F : Spt → Int) (vq : Value) (W : World) : Prop where
 hb : RowKit.Below w.heap.size w W
 hB : w.heap.size ≤ B
 bg : W.heap[B]? = some (.cells #[g0, g1, g2, g3, g4] 27 (0, 0))
 ba : W.heap[B + 1]? = some (.cells #[Kv, Nv] 49 (0, 0))
 mp : Ah W (B + 2) F
 bx : W.heap[B + 3]? = some (.cells #[g0, g1, g2, g3, g4, Kv, Nv, .map (some (B + 2)), vq] 126 (0, 0))
section
variable {w : World} {B : Nat} {g0 g1 g2 g3 g4 Kv Nv : Value} {F : Spt → Int} {q : List Spt} {vq : Value} {ok : Nat → Prop} {W W1 : World}
theorem Lk.lz (h : Lk w B g0 g1 g2 g3 g4 Kv Nv F q vq ok W) : Lz w B g0 g1 g2 g3 g4 Kv Nv F vq W := ⟨h.hb, h.hB, h.bg, h.ba, h.mp, h.bx⟩
theorem Lz.size (h : Lz w B g0 g1 g2 g3 g4 Kv Nv F vq W) : B + 4 ≤ W.heap.size := by have := blk_lt h.bx; omega
theorem Lz.below {g : Nat} (h : Lz w B g0 g1 g2 g3 g4 Kv Nv F vq W) (hg : B + 4 ≤ g) (hb : RowKit.Below g W W1) : Lz w B g0 g1 g2 g3 g4 Kv Nv F vq W1 where
 hb := ⟨hb.os.trans h.hb.os, hb.tape.trans h.hb.tape, hb.output.trans h.hb.output, Nat.le_trans h.hb.size hb.size, fun i hi => (hb.block i (by have := h.hB; omega)).trans (h.hb.block i hi)⟩
 hB := h.hB
 bg := (hb.block _ (by omega)).trans h.bg
 ba := (hb.block _ (by omega)).trans h.ba
 mp := h.mp.same (hb.block _ (by omega))
 bx := (hb.block _ (by omega)).trans h.bx
theorem below_grow {g : Nat} {W2 : World} {row : Option Nat} (h : RowKit.Below g W W1) (hg : W1.grownBy W2 row) (hs : g ≤ W1.heap.size) (hr : ∀ k, row = some k → g ≤ k) : RowKit.Below g W W2 :=
 ⟨hg.os.trans h.os, hg.tape.trans h.tape, hg.output.trans h.output, Nat.le_trans h.size hg.size, fun i hi => (hg.block i (Nat.lt_of_lt_of_le hi hs) (fun e => by have := hr i e.symm; omega)).trans (h.block i hi)⟩
end
theorem info74 : (Tryd.prog.info? 74).map (fun i => (i.zero, i.size, i.bytes)) = some (some (.agg #[.slice none 0 0, .slice none 0 0]), 2, 48) := by kernel_rfl
/-- A set laid to a row of sets, as an operation. -/
theorem append_set {b : Nat} {v : Value} {xs : List Int} {W : World} (h : Kd.R (Kd.int .u64) 76 W b (fun k => b ≤ k) v xs) (x : Int) (hb : b ≤ W.heap.size) (hl : xs.length ≤ 1000000)
  (ops : Array Oper) (o : Oper) (ac : Act) (Q : Exit → Act → World → Prop) (Kc : Act → World → Prop) (hw : Region.wanted o (yielded ops ac.tmps) = true)
  (ho : o.op = .call { callee := .builtin .append, args := #[.tmp 89, .tmp 98], argTypes := #[72, 72] }) (hs : ac.eval (.tmp 89) = v) (hx : ac.eval (.tmp 98) = .slice (some ⟨W.heap.size, 0, none⟩) 1 1)
  (hkc : ∀ v1 w1, Kd.R (Kd.int .u64) 76 w1 b (fun k => b ≤ k) v1 (xs ++ [x]) → W.grownBy w1 v.ownBlock → Kc (ac.put o.dst v1) w1) :
  if Region.wanted o (yielded ops ac.tmps) = true then Oper.wp Tryd.prog o ac (W.alloc (.cells #[.int .u64 x] 76)) Kc Q else Kc (ac.put o.dst undef) (W.alloc (.cells #[.int .u64 x] 76)) := by
 refine Kd.R_append_step (Kd.int .u64) (w0 := W) b hw (.tmp 89) (.tmp 98) 72 76 _ 8 ho Tryd.underlying72 info76 rfl (by decide) (by decide) v xs x [.int .u64 x] (fun k => b ≤ k) (fun _ => False) hs hx rfl (fun _ h => h.elim) (fun k hk => by omega) h (RowKit.Below.refl _ _) hb (by omega) ?_
 intro v1 w1 hR hB hg hat
 exact hkc v1 w1 hR hg
end Go.Proofs.YtclollnicbcooaaDoor.P
end

section
set_option linter.unusedVariables false
set_option linter.unusedSimpArgs false
namespace Go.Proofs.YtclollnicbcooaaDoor.P
open Go.RowKit Go.Lib Go.Sort Go.Proofs.YtclollnicbcooaaDoorW.PrintWords Go.Proofs.YtclollnicbcooaaDoorW.PrintLast Go.Proofs.YtclollnicbcooaaDoorW.PrintMore St Base
attribute [local go_sem] Oper.semAt_some
section
set_option maxHeartbeats 8000000 in
set_option maxRecDepth 100000 in
theorem look_rows.calls (k : Nat) (A0 : Option Addr) (c0 : Nat) (l0 : List S82) (A1 : Option Addr) (c1 : Nat) (l1 : List S101) (A2 : Option Addr) (c2 : Nat) (l2 : List ByteArray) (A3 : Option Addr) (c3 : Nat) (l3 : List S64) (st : Int) (AK : Option Addr) (cK : Nat) (K : List (List S37)) (AN : Option Addr) (cN : Nat) (N : List (List Int)) (r : List S74) (w : World)
  (hr0 : Kd.C k82 w A0 l0.length l0) (hc0 : l0.length ≤ c0) (hr1 : Kd.C k101 w A1 l1.length l1) (hc1 : l1.length ≤ c1) (hr2 : Kd.C Kd.string w A2 l2.length l2) (hc2 : l2.length ≤ c2) (hr3 : Kd.C k64 w A3 l3.length l3) (hc3 : l3.length ≤ c3)
  (hrK : Kd.C (Kd.slice 37 k37) w AK K.length K) (hcK : K.length ≤ cK) (hrN : Kd.C (Kd.slice 3 (Kd.int .i64)) w AN N.length N) (hcN : N.length ≤ cN) (h : look_rows.f k l0 l1 l2 l3 st K N = some r) :
  Calls Tryd.prog 48 #[.agg #[.slice A0 l0.length c0, .slice A1 l1.length c1, .slice A2 l2.length c2, .slice A3 l3.length c3, .int .i64 st], .agg #[.slice AK K.length cK, .slice AN N.length cN]] w fun e w' => ∃ v0_ : Value, e = .returned v0_ ∧ Kd.S k74 74 w' w.heap.size (fun _ => True) v0_ r ∧ RowKit.Below w.heap.size w w' := by
 have HR0 := Aside0.mk hr0
 have HR1 := Aside0.mk hr1
 have HR2 := Aside0.mk hr2
 have HR3 := Aside0.mk hr3
 have HRK := Aside0.mk hrK
 have HRN := Aside0.mk hrN
 have HC0 := Aside0.mk hc0
 have HC1 := Aside0.mk hc1
 have HC2 := Aside0.mk hc2
 have HC3 := Aside0.mk hc3
 have HCK := Aside0.mk hcK
 have HCN := Aside0.mk hcN
 unfold look_rows.f at h
 split at h
 case isFalse => cases h
 rename_i hKl
 obtain ⟨t0, ht0, h⟩ := Option.bind_eq_some_iff.1 h
 obtain ⟨F, hQ, hO⟩ := Option.bind_eq_some_iff.1 h
 have HOF := Aside0.mk fun (W' : World) (hb : RowKit.Below w.heap.size w W') (A : Option Addr) (c : Nat) (l : List Int) (v t : Int) (hr : Kd.C (Kd.int .i64) W' A l.length l) (hc : l.length ≤ c) (ht : sets_Of.f k l0 l1 l2 l3 st l v = some t) => sets_Of.calls k A0 c0 l0 A1 c1 l1 A2 c2 l2 A3 c3 l3 st A c l v t W' (Kd.C_below HR0.out hb) HC0.out (Kd.C_below HR1.out hb) HC1.out (Kd.C_below HR2.out hb) HC2.out (Kd.C_below HR3.out hb) HC3.out hr hc ht
 have HKL := Aside0.mk hKl.1
 have HL3 := Aside0.mk hKl.2
 have HT0 := Aside0.mk ht0
 have HQ := Aside0.mk hQ
 have HO := Aside0.mk hO
 clear h hKl ht0 hQ hO hr0 hr1 hr2 hr3 hrK hrN hc0 hc1 hc2 hc3 hcK hcN
 have hu129 := Tryd.underlying129
 have hu126 := Tryd.underlying126
 have hu124 := Tryd.underlying124
 have hu133 := Tryd.underlying133
 have hu130 := Tryd.underlying130
 have hu37 := Tryd.underlying37
 have hu27 := Tryd.underlying27
 have hu49 := Tryd.underlying49
 have hu74 := Tryd.underlying74
 have hu68 := Tryd.underlying68
 have hmm := @run_makeMap Tryd.prog
 go_enter Tryd.func48, Tryd.ntmps48
 go_upto_region 2 with fail
 have H0 := Aside0.mk (Lk.start w (.slice A0 l0.length c0) (.slice A1 l1.length c1) (.slice A2 l2.length c2) (.slice A3 l3.length c3) (.int .i64 st) (.slice AK K.length cK) (.slice AN N.length cN))
 rw [show w.heap.size + 1 + 1 + 1 = w.heap.size + 3 from rfl, show w.heap.size + 1 + 1 = w.heap.size + 2 from rfl]
 generalize ((((w.alloc (Obj.cells #[.slice A0 l0.length c0, .slice A1 l1.length c1, .slice A2 l2.length c2, .slice A3 l3.length c3, .int .i64 st] 27)).alloc (Obj.cells #[.slice AK K.length cK, .slice AN N.length cN] 49)).alloc (Obj.map #[] 0)).alloc (Obj.cells #[.slice A0 l0.length c0, .slice A1 l1.length c1, .slice A2 l2.length c2, .slice A3 l3.length c3, .int .i64 st, .slice AK K.length cK, .slice AN N.length cN, .map (some (w.heap.size + 2)), .slice none 0 0] 126)) = W1 at *
 have HBA := Aside0.mk (below_alloc (RowKit.Below.refl W1.heap.size W1) (Obj.cells #[.int .i64 63] 3))
 have HMO := Aside0.mk fun (W' : World) (hb : RowKit.Below W1.heap.size W1 W') => more_calls (H0.out.below hb) (s := beg0) (by unfold rngS rngN rngI beg0; simp) t0 (fun k hk => Nat.le_trans (Lk.size (H0.out.below hb)) hk) (Nat.zero_le _)
 go_upto_region 3 with (first | (go_at_call 31; refine (bits_Of.calls k _ _ [63] t0 _ (C_one (blk_new W1 _) rfl) (Nat.le_refl _) HT0.out).mono ?_; rintro e w2 ⟨rfl, ⟨n2, rfl⟩⟩) | (go_at_call 75; refine (HMO.out _ (by repeat (first | exact HBA.out | apply pw_below_drewN | apply below_drew1))).mono ?_; rintro e w3 ⟨rfl, vq, hL, -, -, -⟩; have HL := Aside0.mk hL; clear hL))
 clear h H0 HBA HMO HT0
 go_loopg [] k (fun kq wr => ∃ (F1 : Spt → Int) (q : List Spt) (vq : Value), Aside0 (Lk w w.heap.size (.slice A0 l0.length c0) (.slice A1 l1.length c1) (.slice A2 l2.length c2) (.slice A3 l3.length c3) (.int .i64 st) (.slice AK K.length cK) (.slice AN N.length cN) F1 q vq (fun k => w.heap.size + 4 ≤ k) wr) ∧ Aside0 (queueF (sets_Of.f k l0 l1 l2 l3 st) (edgesF l0 l1 l2 l3 st K N) kq (F1, q) = some F))
 case atStart => exact ⟨_, _, vq, HL, HQ⟩
 case round =>
  clear HL HQ
  obtain ⟨F1, q, vq1, HI, HX⟩ := hrel
  cases gk with
  | zero => have := HX.out; rw [queueF] at this; cases this
  | succ k1 =>
  cases q with
  | nil =>
   have HFE : F1 = F := by have := HX.out; rw [queueF] at this; exact Option.some.inj this
   subst HFE
   clear HX
   obtain ⟨A8, c8, e8, hc8⟩ := Kd.Q_slice HI.out.hq
   subst e8
   rw [List.length_map, List.length_nil] at HI
   have y8 : wr.cell? ⟨w.heap.size + 3, 8, none⟩ = some (.slice A8 0 c8) := blk_cell HI.out.bx 8
   have hk0 : wr.cell? ⟨w.heap.size + 1, 0, none⟩ = some (.slice AK K.length cK) := blk_cell HI.out.ba 0
   have HZ := Aside0.mk HI.out.lz
   clear HI hc8
   go_upto_region 13 with fail
   clear y8 hk0
   have HOS : Aside0 (∃ rest, outF (states_Close.f l0 l1 l2 l3 st) F1 0 (K.drop 0) = some rest ∧ [] ++ rest = r) := ⟨r, by rw [List.drop_zero]; exact HO.out, rfl⟩
   go_loopw [9, 72] (fun v9 v72 W' => ∃ (i : Nat) (outs : List S74), v72 = .int .i64 i ∧ i ≤ K.length ∧ Aside0 (outs.length = i) ∧ Aside0 (∃ rest, outF (states_Close.f l0 l1 l2 l3 st) F1 i (K.drop i) = some rest ∧ outs ++ rest = r) ∧ Aside0 (Kd.S k74 74 W' (w.heap.size + 4) (fun k => w.heap.size + 4 ≤ k) v9 outs) ∧ Aside0 (Lz w w.heap.size (.slice A0 l0.length c0) (.slice A1 l1.length c1) (.slice A2 l2.length c2) (.slice A3 l3.length c3) (.int .i64 st) (.slice AK K.length cK) (.slice AN N.length cN) F1 (.slice A8 0 c8) W')) (fun _ v72 _ => K.length - (intOf v72).toNat)
   case atStart => exact ⟨0, [], rfl, Nat.zero_le _, ⟨rfl⟩, HOS, ⟨Kd.S_nil _ _ _ _ _⟩, HZ⟩
   case round =>
    clear HZ HOS
    obtain ⟨i, outs, rfl, hi, HLEN, HOS, HS, HZ⟩ := hrel
    by_cases hlt : i < K.length
    ·have hib : decide (i < K.length) = true := decide_eq_true hlt
     have hiw : IntKind.i64.wrap ((i : Int) + 1) = ((i + 1 : Nat) : Int) := by
      have := HKL.out
      rw [IntWalk.i64_in _ (by omega)]
      rfl
     obtain ⟨rest, hrest, hall⟩ := HOS.out
     obtain ⟨kn, hkn⟩ : ∃ kn, kn = K[i] := ⟨_, rfl⟩
     rw [List.drop_eq_getElem_cons hlt, ← hkn, outF] at hrest
     obtain ⟨items, hit, hrest⟩ := Option.bind_eq_some_iff.1 hrest
     split at hrest
     case isFalse => cases hrest
     rename_i hg
     obtain ⟨rest2, hr2, hrr⟩ := Option.map_eq_some_iff.1 hrest
     have HOS2 := Aside0.mk hr2
     have HALL := Aside0.mk (show (outs ++ [⟨items, items.map fun x => F1 ((i : Int), toI x)⟩]) ++ rest2 = r by rw [← hall, ← hrr]; simp)
     have HRG := Aside0.mk hg.1
     have HIL := Aside0.mk hg.2
     have hrd : rd_L15 K (i : Int) = kn := by
      unfold rd_L15
      rw [hkn, Int.toNat_natCast, List.getD_eq_getElem?_getD, List.getElem?_eq_getElem hlt]
      rfl
     obtain ⟨adK, A1', c1', eK, hx, hl, hC⟩ := at_L15 (Kd.C_below HRK.out HZ.out.hb) (i : Int) (by omega) (by omega)
     rw [Int.toNat_natCast] at hx
     rw [hrd] at hx hl hC
     subst eK
     have HCLO := Aside0.mk fun (W' : World) (hb : RowKit.Below w.heap.size w W') (hC' : Kd.C k37 W' A1' kn.length kn) => states_Close.calls A0 c0 l0 A1 c1 l1 A2 c2 l2 A3 c3 l3 st A1' c1' kn items W' (Kd.C_below HR0.out hb) HC0.out (Kd.C_below HR1.out hb) HC1.out (Kd.C_below HR2.out hb) HC2.out (Kd.C_below HR3.out hb) HC3.out hC' hl hit
     have HCK1 := Aside0.mk hC
     clear hrest hit hg hr2 hrr hall hrd hl hC hkn HOS
     go_upto_region 15 with fail
     clear hx
     obtain ⟨z0, z1, z2, z3, z4⟩ := five5 HZ.out.bg
     go_upto_region 16 with (go_at_call 18; refine (HCLO.out wr HZ.out.hb HCK1.out).mono ?_; rintro e5 V5 ⟨v0, rfl, hR5, hb5⟩; obtain ⟨Ai, ci, ei, hci, hCi⟩ := Kd.R_reads hR5; subst ei; have HR5 := Aside0.mk hR5; have HB5 := Aside0.mk hb5; have HCI := Aside0.mk hci; have HC5 := Aside0.mk hCi; clear hR5 hb5 hCi hci)
     clear z0 z1 z2 z3 z4
     have B12 := Aside0.mk (blk_new V5 (Obj.cells #[.slice Ai items.length ci, .slice none 0 0] 74))
     have HA := Aside0.mk (below_alloc (RowKit.Below.refl V5.heap.size V5) (Obj.cells #[.slice Ai items.length ci, .slice none 0 0] 74))
     have HZ5 := Aside0.mk (HZ.out.below (Lz.size HZ.out) HB5.out)
     have HS5 := Aside0.mk (Kd.S_old HS.out HB5.out)
     have HSZ := Aside0.mk (show w.heap.size + 4 ≤ wr.heap.size ∧ wr.heap.size ≤ V5.heap.size ∧ V5.heap.size < (V5.alloc (Obj.cells #[.slice Ai items.length ci, .slice none 0 0] 74)).heap.size from ⟨Lz.size HZ.out, HB5.out.size, by rw [World.size_alloc]; exact Nat.lt_succ_self _⟩)
     have HRA := Aside0.mk (show Kd.R (Kd.int .u64) 76 (V5.alloc (Obj.cells #[.slice Ai items.length ci, .slice none 0 0] 74)) (V5.heap.size + 1) (fun k => V5.heap.size + 1 ≤ k) (.slice none 0 0) (((items.take 0).map fun x => F1 ((i : Int), toI x))) from Kd.R_nil _ _ _ _ _)
     have ys : (V5.alloc (Obj.cells #[.slice Ai items.length ci, .slice none 0 0] 74)).cell? ⟨V5.heap.size, 0, none⟩ = some (.slice Ai items.length ci) := blk_cell B12.out 0
     clear HZ HS HB5 HCLO HCK1
     generalize wr.heap.size = b0 at *
     generalize V5.alloc (Obj.cells #[.slice Ai items.length ci, .slice none 0 0] 74) = W16 at *
     obtain ⟨bb, hbb⟩ : ∃ bb, bb = V5.heap.size := ⟨_, rfl⟩
     rw [← hbb] at B12 HRA ys ⊢
     have HBBX := Aside0.mk hbb
     clear hbb
     go_upto_region 17 with fail
     clear ys
     go_loopw [84] (fun v84 W' => ∃ (j : Nat) (va : Value), v84 = .int .i64 j ∧ j ≤ items.length ∧ Aside0 (RowKit.Below V5.heap.size V5 W') ∧ Aside0 (W'.heap[bb]? = some (.cells #[.slice Ai items.length ci, va] 74 (0, 0))) ∧ Aside0 (Kd.R (Kd.int .u64) 76 W' (bb + 1) (fun k => bb + 1 ≤ k) va (((items.take j).map fun x => F1 ((i : Int), toI x))))) (fun v84 _ => items.length - (intOf v84).toNat)
     case atStart => exact ⟨0, _, rfl, Nat.zero_le _, HA, B12, HRA⟩
     case round =>
      clear HA B12 HRA
      obtain ⟨j, va, rfl, hj, HBj, B12, HRA⟩ := hrel
      by_cases hjl : j < items.length
      ·have hjb : decide (j < items.length) = true := decide_eq_true hjl
       have hjw : IntKind.i64.wrap ((j : Int) + 1) = ((j + 1 : Nat) : Int) := by
        have := HIL.out
        rw [IntWalk.i64_in _ (by omega)]
        rfl
       obtain ⟨it, hit⟩ : ∃ it, it = items[j] := ⟨_, rfl⟩
       have hrd : rd_T37 items (j : Int) = it := by
        unfold rd_T37
        rw [hit, Int.toNat_natCast, List.getD_eq_getElem?_getD, List.getElem?_eq_getElem hjl]
        rfl
       obtain ⟨adi, ei, hx0, hx1⟩ := at_T37 (Kd.C_below HC5.out HBj.out) (j : Int) (by omega) (by omega)
       rw [Int.toNat_natCast, hrd] at hx0 hx1
       subst ei
       have HRI := Aside0.mk (HRG.out it (by rw [hit]; exact List.getElem_mem hjl))
       have HTK := Aside0.mk (show (items.take (j + 1)).map (fun x => F1 ((i : Int), toI x)) = (items.take j).map (fun x => F1 ((i : Int), toI x)) ++ [F1 ((i : Int), toI it)] by
        rw [List.take_add_one, List.getElem?_eq_getElem hjl, List.map_append, hit]; rfl)
       clear hrd hit
       go_upto_region 19 with fail
       have B14 := Aside0.mk (blk_new wr (Obj.cells #[.int .i64 it.f0, .int .i64 it.f1] 37))
       have HAj := Aside0.mk (below_alloc (RowKit.Below.refl wr.heap.size wr) (Obj.cells #[.int .i64 it.f0, .int .i64 it.f1] 37))
       have HBJ2 := Aside0.mk (below_step HBj.out HAj.out)
       have B12b := Aside0.mk (blk_below B12.out HAj.out)
       have HRAb := Aside0.mk (Kd.R_below HRA.out HAj.out)
       have HW2 := Aside0.mk (show bb + 1 ≤ (wr.alloc (Obj.cells #[.int .i64 it.f0, .int .i64 it.f1] 37)).heap.size from Nat.le_trans (blk_lt B12.out) HAj.out.size)
       clear hx0 hx1 HBj B12 HRA
       generalize wr.alloc (Obj.cells #[.int .i64 it.f0, .int .i64 it.f1] 37) = W9 at *
       generalize wr.heap.size = b14 at *
       have HZ9 := Aside0.mk (HZ5.out.below (Nat.le_trans HSZ.out.1 HSZ.out.2.1) HBJ2.out)
       have ya : W9.cell? ⟨bb, 1, none⟩ = some va := blk_cell B12b.out 1
       have fa := blk_frozen B12b.out 1
       have ym : W9.cell? ⟨w.heap.size + 3, 7, none⟩ = some (.map (some (w.heap.size + 2))) := blk_cell HZ9.out.bx 7
       have i0 : W9.cell? ⟨b14, 0, none⟩ = some (.int .i64 it.f0) := blk_cell B14.out 0
       have i1 : W9.cell? ⟨b14, 1, none⟩ = some (.int .i64 it.f1) := blk_cell B14.out 1
       have hlk0 := HZ9.out.mp.look HRI.out W9 rfl
       have hlk1 := HZ9.out.mp.look HRI.out W9.drew rfl
       unfold valS toI at hlk0 hlk1
       have HAP := Aside0.mk (append_set (Kd.R_drew HRAb.out) (F1 ((i : Int), toI it)) HW2.out (by rw [List.length_map, List.length_take]; have := HIL.out; omega))
       have hlt12 : bb < W9.heap.size := blk_lt B12b.out
       have HFX := Aside0.mk (show ∀ (v1 : Value) (w1 : World), Kd.R (Kd.int .u64) 76 w1 (bb + 1) (fun k => bb + 1 ≤ k) v1 ((items.take j).map (fun x => F1 ((i : Int), toI x)) ++ [F1 ((i : Int), toI it)]) → W9.drew.grownBy w1 va.ownBlock → RowKit.Below V5.heap.size V5 (w1.setCell ⟨bb, 1, none⟩ v1) ∧ (w1.setCell ⟨bb, 1, none⟩ v1).heap[bb]? = some (.cells #[(.slice (some adi) items.length ci), v1] 74 (0, 0)) ∧ Kd.R (Kd.int .u64) 76 (w1.setCell ⟨bb, 1, none⟩ v1) (bb + 1) (fun k => bb + 1 ≤ k) v1 ((items.take j).map (fun x => F1 ((i : Int), toI x)) ++ [F1 ((i : Int), toI it)]) from fun v1 w1 hR hg => by
        have hb1 := (hg.block bb (blk_lt B12b.out) (fun e => by have := Kd.R_base HRAb.out _ e.symm; omega)).trans B12b.out
        refine ⟨below_set (below_grow (below_drew1 HBJ2.out) hg HBJ2.out.size (fun k hk => by have := Kd.R_base HRAb.out _ hk; have := HBBX.out; omega)) (Nat.le_of_eq HBBX.out.symm), blk_put hb1 1 v1 rfl, Kd.R_far hR (p := ⟨bb, 1, none⟩) (fun k hk => by show k ≠ bb; omega) v1⟩)
       go_region_law (refine HAP.out _ _ _ _ _ (by rfl) rfl (by simp [Act.eval, Act.put]) (by simp [Act.eval, Act.put]) ?_; intro v1 w1 hR hg; obtain ⟨Av, cv, ev⟩ := Kd.R_slice hR; have hb1 := (hg.block bb (blk_lt B12b.out) (fun e => by have := Kd.R_base HRAb.out _ e.symm; omega)).trans B12b.out; have d1 := blk_cell hb1 1; have f1 := blk_frozen hb1 1; have HFIN := Aside0.mk (HFX.out v1 w1 hR hg); subst ev; clear hR hg hb1)
       all_goals go_wp2_with fail
       all_goals rw [← HTK.out, show ((items.take (j + 1)).map (fun x => F1 ((i : Int), toI x))).length = j + 1 by rw [List.length_map, List.length_take]; omega] at HFIN
       all_goals go_roundw
       all_goals first
        | exact ⟨j + 1, _, rfl, hjl, ⟨HFIN.out.1⟩, ⟨HFIN.out.2.1⟩, ⟨HFIN.out.2.2⟩⟩
        | (simp [intOf]; omega)
      ·have hjb : decide (j < items.length) = false := decide_eq_false hjl
       have hje : j = items.length := by omega
       subst hje
       rw [List.take_length] at HRA
       obtain ⟨Av, cv, ev⟩ := Kd.R_slice HRA.out
       rw [List.length_map] at ev
       subst ev
       obtain ⟨A9, c9, e9⟩ := Kd.S_slice HS5.out
       subst e9
       have y0 : wr.cell? ⟨bb, 0, none⟩ = some (.slice Ai items.length ci) := blk_cell B12.out 0
       have y1 : wr.cell? ⟨bb, 1, none⟩ = some (.slice Av items.length cv) := blk_cell B12.out 1
       have hle0 : w.heap.size + 4 ≤ b0 := HSZ.out.1
       have hbb0 : b0 ≤ bb := by have := HSZ.out.2.1; have := HBBX.out; omega
       have HWS := Aside0.mk (show w.heap.size + 4 ≤ wr.heap.size from Nat.le_trans hle0 (Nat.le_trans HSZ.out.2.1 HBj.out.size))
       have HPM := Aside0.mk (k74_mkM wr (w.heap.size + 4) (fun k => b0 ≤ k) ⟨items, items.map fun x => F1 ((i : Int), toI x)⟩ (Kd.R_lower (Kd.R_mono (Kd.R_bound (Kd.R_below HR5.out HBj.out)) (fun k hk => hk.2.1)) hle0) (Kd.R_lower (Kd.R_mono HRA.out (fun k hk => by omega)) (by omega)))
       have HS6 := Aside0.mk (Kd.S_mono (Kd.S_below HS5.out HBj.out) (ok' := fun k => w.heap.size + 4 ≤ k ∧ ¬ (b0 ≤ k)) (fun k hk => ⟨hk.1, by omega⟩))
       have HOKP := Aside0.mk (show ∀ k, b0 ≤ k → w.heap.size + 4 ≤ k ∧ some k ≠ (Value.slice A9 outs.length c9).ownBlock from fun k hk => ⟨Nat.le_trans hle0 hk, fun e => by obtain ⟨f, hf⟩ := HS6.out; exact (hf.1 k e.symm).2 hk⟩)
       have HZj := Aside0.mk (HZ5.out.below (Nat.le_trans HSZ.out.1 HSZ.out.2.1) HBj.out)
       have HLN := Aside0.mk (show outs.length ≤ 1000000 by have := HLEN.out; have := HKL.out; omega)
       clear hle0 hbb0
       go_upto_region 22 with (first | ((with_reducible refine gate_builtin (b := .append) (xs := #[.tmp 102, .tmp 104]) rfl ?_); at_builtin; refine Kd.S_append k74 (w0 := wr) (w.heap.size + 4) rfl (.tmp 102) (.tmp 104) 68 74 (.agg #[.slice none 0 0, .slice none 0 0]) 48 rfl Tryd.underlying68 info74 rfl (by decide) (by omega) (.slice A9 outs.length c9) outs ⟨items, items.map fun x => F1 ((i : Int), toI x)⟩ [.slice Ai items.length ci, .slice Av items.length cv] (fun k => w.heap.size + 4 ≤ k) (fun k => b0 ≤ k) rfl rfl HPM.out HOKP.out (fun k hk => Nat.le_trans HWS.out hk) HS6.out (RowKit.Below.refl _ _) HWS.out ?aL ?_; (case aL => have := HLN.out; omega); intro v14 w14 ho hb hg hat; have HS14 := Aside0.mk ho; have HZ14 := Aside0.mk (HZj.out.below (Nat.le_refl _) hb); clear ho hb hg hat))
       go_wp2_with fail
       go_roundw
       all_goals first
        | exact ⟨i + 1, outs ++ [⟨items, items.map fun x => F1 ((i : Int), toI x)⟩], rfl, hlt, ⟨by rw [List.length_append, HLEN.out]; rfl⟩, ⟨⟨rest2, HOS2.out, HALL.out⟩⟩, HS14, HZ14⟩
        | (simp [intOf]; omega)
    ·have hib : decide (i < K.length) = false := decide_eq_false hlt
     have hie : i = K.length := by omega
     obtain ⟨rest, hrest, hall⟩ := HOS.out
     rw [hie, List.drop_length, outF] at hrest
     have HRO := Aside0.mk (show outs = r by have := Option.some.inj hrest; rw [← this, List.append_nil] at hall; exact hall)
     clear hrest hall HOS hie
     go_wp2_with fail
     go_ret
     exact ⟨_, rfl, by rw [← HRO.out]; exact Kd.S_mono (Kd.S_lower HS.out (Nat.le_add_right _ _)) (fun _ _ => trivial), HZ.out.hb⟩
  | cons s q =>
   have hx := HX.out
   rw [queueF] at hx
   obtain ⟨es, hes, hx⟩ := Option.bind_eq_some_iff.1 hx
   split at hx
   case isFalse => cases hx
   rename_i hrs
   obtain ⟨Z, hZ, hx⟩ := Option.bind_eq_some_iff.1 hx
   have HES := Aside0.mk hes
   have HRS := Aside0.mk hrs.1
   have HEL := Aside0.mk hrs.2
   have HZ := Aside0.mk hZ
   have HN := Aside0.mk hx
   clear hes hrs hZ hx HX
   obtain ⟨ad, c, rfl, hc1, x0, x1, x2⟩ := HI.out.head
   have y8 : wr.cell? ⟨w.heap.size + 3, 8, none⟩ = some (.slice (some ad) (q.length + 1) c) := blk_cell HI.out.bx 8
   have hpos : decide (0 < q.length + 1) = true := decide_eq_true (Nat.succ_pos _)
   have hpos2 : decide ((0 : Int) < ((q.length + 1 : Nat) : Int)) = true := decide_eq_true (by omega)
   have hne0 : w.heap.size + 3 < wr.heap.size := by have := HI.out.size; omega
   obtain ⟨i129, hi129, hsz129⟩ := Option.map_eq_some_iff.1 info129
   have hsl := cut_from (P := Tryd.prog) 124 129 .i64 Tryd.underlying124 hi129 3 (congrArg (fun z => z.2.1) hsz129) (some ad) (q.length + 1) c 1 (by omega) (by omega)
   rw [show (1 : Int).toNat = 1 from rfl, Nat.add_sub_cancel] at hsl
   clear hi129 hsz129
   have HIb := Aside0.mk (Lk.pop (Lk.below HI.out (below_alloc (RowKit.Below.refl _ wr) (Obj.cells #[.int .i64 s.1, .int .i64 s.2.1, .int .i64 s.2.2] 129))))
   have BXb := Aside0.mk (blk_new wr (Obj.cells #[.int .i64 s.1, .int .i64 s.2.1, .int .i64 s.2.2] 129))
   have HQL := Aside0.mk (show some wr.heap.size ≠ (Value.slice (if c = 1 then some ad else (some ad).map (·.add (1 * 3))) q.length (c - 1)).ownBlock from fun e => by have := ((Lk.pop HI.out).qlt _ e.symm).1; rw [World.size_setCell] at this; exact Nat.lt_irrefl _ this)
   have f8 := blk_frozen HI.out.bx 8
   generalize hT : (if c = 1 then some ad else (some ad).map (·.add (1 * 3))) = T at *
   have HT := Aside0.mk hT
   clear hT
   go_upto_region 5 with fail
   have HI1 := Aside0.mk (Lk.below HI.out (below_alloc (RowKit.Below.refl _ wr) (Obj.cells #[.int .i64 s.1, .int .i64 s.2.1, .int .i64 s.2.2] 129)))
   have HSZ := Aside0.mk HI.out.size
   clear HI x0 x1 x2 y8 f8 hne0 hpos hpos2
   generalize wr.alloc (Obj.cells #[.int .i64 s.1, .int .i64 s.2.1, .int .i64 s.2.2] 129) = V1 at *
   generalize wr.heap.size = xb at *
   have y8 : V1.cell? ⟨w.heap.size + 3, 8, none⟩ = some (.slice (some ad) (q.length + 1) c) := blk_cell HI1.out.bx 8
   have f8 := blk_frozen HI1.out.bx 8
   go_upto_region 6 with fail
   have BX2 := Aside0.mk (blk_far BXb.out (show xb ≠ (⟨w.heap.size + 3, 8, none⟩ : Addr).block by have := HSZ.out; show xb ≠ w.heap.size + 3; omega) (.slice T q.length (c - 1)))
   clear BXb HI1 y8 f8 hsl
   generalize V1.setCell ⟨w.heap.size + 3, 8, none⟩ (.slice T q.length (c - 1)) = V2 at *
   have t0 : V2.cell? ⟨xb, 0, none⟩ = some (.int .i64 s.1) := blk_cell BX2.out 0
   have t1 : V2.cell? ⟨xb, 1, none⟩ = some (.int .i64 s.2.1) := blk_cell BX2.out 1
   have t2 : V2.cell? ⟨xb, 2, none⟩ = some (.int .i64 s.2.2) := blk_cell BX2.out 2
   have HED := Aside0.mk (edges_calls HR0.out HC0.out HR1.out HC1.out HR2.out HC2.out HR3.out HC3.out HRK.out HCK.out HRN.out HCN.out HIb.out s es HES.out HL3.out)
   go_upto_region 7 with (go_at_call 76; refine HED.out.mono ?_; rintro e V3 ⟨AE, cE, rfl, hE, hb3⟩; have HE3 := Aside0.mk hE; have HI3 := Aside0.mk (HIb.out.below hb3); have BX3 := Aside0.mk (blk_below BX2.out hb3); have HB3 := Aside0.mk hb3; clear hE hb3)
   have HXL := Aside0.mk (show xb < V3.heap.size from blk_lt BX3.out)
   have HS2 := Aside0.mk (show w.heap.size + 4 ≤ V2.heap.size from Lk.size HIb.out)
   clear t0 t1 t2 HED BX2 HIb
   have HZ0 : Aside0 (foldE (sets_Of.f k l0 l1 l2 l3 st) s (es.drop 0) (F1, q) = some Z) := ⟨by rw [List.drop_zero]; exact HZ.out⟩
   obtain ⟨vq2, hvq2⟩ : ∃ v, v = Value.slice T q.length (c - 1) := ⟨_, rfl⟩
   rw [← hvq2] at HI3 HQL
   clear hvq2
   go_loopw [50] (fun v50 wr2 => ∃ (j : Nat) (F2 : Spt → Int) (q2 : List Spt) (vq3 : Value), v50 = .int .i64 j ∧ j ≤ es.length ∧ Aside0 (foldE (sets_Of.f k l0 l1 l2 l3 st) s (es.drop j) (F2, q2) = some Z) ∧ Aside0 (Lk w w.heap.size (.slice A0 l0.length c0) (.slice A1 l1.length c1) (.slice A2 l2.length c2) (.slice A3 l3.length c3) (.int .i64 st) (.slice AK K.length cK) (.slice AN N.length cN) F2 q2 vq3 (fun k => w.heap.size + 4 ≤ k) wr2) ∧ Aside0 (Er w V2.heap.size (fun k => V2.heap.size ≤ k) (.slice AE es.length cE) es wr2) ∧ Aside0 (wr2.heap[xb]? = some (.cells #[.int .i64 s.1, .int .i64 s.2.1, .int .i64 s.2.2] 129 (0, 0))) ∧ Aside0 (some xb ≠ vq3.ownBlock) ∧ Aside0 (V3.heap.size ≤ wr2.heap.size)) (fun v50 _ => es.length - (intOf v50).toNat)
   case atStart => exact ⟨0, F1, q, vq2, rfl, Nat.zero_le _, HZ0, HI3, HE3, BX3, HQL, ⟨Nat.le_refl _⟩⟩
   case round =>
    clear HZ0 HI3 HE3 BX3 HQL
    obtain ⟨j, F2, q2, vq3, rfl, hj, HZ2, HI4, HE4, BX4, HQ4, HS4⟩ := hrel
    by_cases hlt : j < es.length
    ·have hjb : decide (j < es.length) = true := decide_eq_true hlt
     have hjw : IntKind.i64.wrap ((j : Int) + 1) = ((j + 1 : Nat) : Int) := by
      have := HEL.out
      rw [IntWalk.i64_in _ (by omega)]
      rfl
     obtain ⟨e, hee⟩ : ∃ e, e = es[j] := ⟨_, rfl⟩
     have hz := HZ2.out
     rw [List.drop_eq_getElem_cons hlt, ← hee, foldE] at hz
     split at hz
     case isFalse => cases hz
     rename_i hg
     obtain ⟨t, ht, hz⟩ := Option.bind_eq_some_iff.1 hz
     have HRE := Aside0.mk hg.1
     have HQL2 := Aside0.mk hg.2
     have HT2 := Aside0.mk ht
     have HZ3 := Aside0.mk hz
     clear hg ht hz HZ2
     obtain ⟨ad4, cap4, A4, k4, ev4, q0, q1, q2', q3, hle4, hr4⟩ := HE4.out.at_ j (e := e) (by rw [hee]; exact List.getElem?_eq_getElem hlt)
     injection ev4 with ev4a ev4b ev4c
     subst ev4a
     subst ev4c
     have p0 : wr.cell? (ad4.add (j * 4)) = some (.int .i64 e.1.1) := q0
     have p1 : wr.cell? ⟨(ad4.add (j * 4)).block, (ad4.add (j * 4)).off + 1, none⟩ = some (.int .i64 e.1.2.1) := by rw [← add_field _ _ 1 (by omega)]; exact q1
     have p2 : wr.cell? ⟨(ad4.add (j * 4)).block, (ad4.add (j * 4)).off + 2, none⟩ = some (.int .i64 e.1.2.2) := by rw [← add_field _ _ 2 (by omega)]; exact q2'
     have p3 : wr.cell? ⟨(ad4.add (j * 4)).block, (ad4.add (j * 4)).off + 3, none⟩ = some (.slice A4 e.2.length k4) := by rw [← add_field _ _ 3 (by omega)]; exact q3
     have HR4 := Aside0.mk hr4
     have HL4 := Aside0.mk hle4
     have HEE := Aside0.mk hee
     clear q0 q1 q2' q3 hle4 hr4 ev4b hee
     have HRC := Aside0.mk (show Kd.C (Kd.int .i64) w A4 e.2.length e.2 by
      rcases HR4.out with h | h
      ·rw [h]; exact ⟨rfl, by simp, fun h => absurd h (Nat.lt_irrefl _)⟩
      ·exact h)
     clear HR4
     go_upto_region 9 with fail
     have BE := Aside0.mk (blk_new wr (Obj.cells #[.int .i64 e.1.1, .int .i64 e.1.2.1, .int .i64 e.1.2.2, .slice A4 e.2.length k4] 133))
     have HA := Aside0.mk (below_alloc (RowKit.Below.refl wr.heap.size wr) (Obj.cells #[.int .i64 e.1.1, .int .i64 e.1.2.1, .int .i64 e.1.2.2, .slice A4 e.2.length k4] 133))
     have HI5 := Aside0.mk (HI4.out.below HA.out)
     have HE5 := Aside0.mk (HE4.out.below HA.out)
     have BX5 := Aside0.mk (blk_below BX4.out HA.out)
     have HEQ := Aside0.mk (show some wr.heap.size ≠ vq3.ownBlock from fun h => absurd (HI4.out.qlt _ h.symm).1 (Nat.lt_irrefl _))
     have HSE := Aside0.mk (show V3.heap.size ≤ wr.heap.size ∧ w.heap.size + 4 ≤ wr.heap.size ∧ xb < wr.heap.size from ⟨HS4.out, Lk.size HI4.out, blk_lt BX4.out⟩)
     have HSV := Aside0.mk (show wr.heap.size < (wr.alloc (Obj.cells #[.int .i64 e.1.1, .int .i64 e.1.2.1, .int .i64 e.1.2.2, .slice A4 e.2.length k4] 133)).heap.size by rw [World.size_alloc]; exact Nat.lt_succ_self _)
     clear HA HI4 HE4 BX4 p0 p1 p2 p3 HS4
     generalize wr.alloc (Obj.cells #[.int .i64 e.1.1, .int .i64 e.1.2.1, .int .i64 e.1.2.2, .slice A4 e.2.length k4] 133) = V5 at *
     generalize wr.heap.size = eb at *
     have hcells : ∀ W' : World, W'.heap[eb]? = some (.cells #[.int .i64 e.1.1, .int .i64 e.1.2.1, .int .i64 e.1.2.2, .slice A4 e.2.length k4] 133 (0, 0)) → W'.heap[xb]? = some (.cells #[.int .i64 s.1, .int .i64 s.2.1, .int .i64 s.2.2] 129 (0, 0)) → W'.heap[w.heap.size]? = some (.cells #[.slice A0 l0.length c0, .slice A1 l1.length c1, .slice A2 l2.length c2, .slice A3 l3.length c3, .int .i64 st] 27 (0, 0)) → W'.cell? ⟨w.heap.size + 3, 7, none⟩ = some (.map (some (w.heap.size + 2))) →
       W'.cell? ⟨eb, 0, none⟩ = some (.int .i64 e.1.1) ∧ W'.cell? ⟨eb, 1, none⟩ = some (.int .i64 e.1.2.1) ∧ W'.cell? ⟨eb, 2, none⟩ = some (.int .i64 e.1.2.2) ∧ W'.cell? ⟨eb, 3, none⟩ = some (.slice A4 e.2.length k4) ∧ W'.cell? ⟨xb, 0, none⟩ = some (.int .i64 s.1) ∧ W'.cell? ⟨xb, 1, none⟩ = some (.int .i64 s.2.1) ∧ W'.cell? ⟨xb, 2, none⟩ = some (.int .i64 s.2.2) ∧
       W'.cell? ⟨w.heap.size, 0, none⟩ = some (.slice A0 l0.length c0) ∧ W'.cell? ⟨w.heap.size, 1, none⟩ = some (.slice A1 l1.length c1) ∧ W'.cell? ⟨w.heap.size, 2, none⟩ = some (.slice A2 l2.length c2) ∧ W'.cell? ⟨w.heap.size, 3, none⟩ = some (.slice A3 l3.length c3) ∧ W'.cell? ⟨w.heap.size, 4, none⟩ = some (.int .i64 st) ∧ W'.cell? ⟨w.heap.size + 3, 7, none⟩ = some (.map (some (w.heap.size + 2))) := fun W' h1 h2 h3 h4 =>
      ⟨blk_cell h1 0, blk_cell h1 1, blk_cell h1 2, blk_cell h1 3, blk_cell h2 0, blk_cell h2 1, blk_cell h2 2, blk_cell h3 0, blk_cell h3 1, blk_cell h3 2, blk_cell h3 3, blk_cell h3 4, h4⟩
     have HCL := Aside0.mk hcells
     clear hcells
     obtain ⟨z0, z1, z2, z3, x0, x1, x2, g0, g1, g2, g3, g4, y7⟩ := HCL.out V5 BE.out BX5.out HI5.out.bg (blk_cell HI5.out.bx 7)
     have hlk0 := HI5.out.mp.look HRS.out V5 rfl
     have hlk1 := HI5.out.mp.look HRS.out V5.drew rfl
     unfold valS at hlk0 hlk1
     have HOF5 := Aside0.mk fun (W' : World) (hb : RowKit.Below V5.heap.size V5 W') => HOF.out W' (below_step HI5.out.hb hb) A4 k4 e.2 (F2 s) t (Kd.C_below HRC.out (below_step HI5.out.hb hb)) HL4.out HT2.out
     have HMO5 := Aside0.mk fun (W' : World) (hb : RowKit.Below V5.heap.size V5 W') => more_calls (HI5.out.below hb) HRE.out t (fun k hk => Nat.le_trans (Lk.size (HI5.out.below hb)) hk) HQL2.out
     unfold valS at HMO5
     have HNE := Aside0.mk (show xb ≠ w.heap.size + 2 ∧ xb ≠ w.heap.size + 3 ∧ eb ≠ w.heap.size + 2 ∧ eb ≠ w.heap.size + 3 ∧ w.heap.size ≠ w.heap.size + 2 ∧ w.heap.size ≠ w.heap.size + 3 ∧ some w.heap.size ≠ vq3.ownBlock from ⟨by have := HSZ.out; omega, by have := HSZ.out; omega, by have := HSE.out.2.1; omega, by have := HSE.out.2.1; omega, by omega, by omega, fun h => by have := HI5.out.ge _ (HI5.out.hq.1 _ h.symm); omega⟩)
     go_region_held3 (fun w' => w'.cell? ⟨eb, 0, none⟩ = some (.int .i64 e.1.1) ∧ w'.cell? ⟨eb, 1, none⟩ = some (.int .i64 e.1.2.1) ∧ w'.cell? ⟨eb, 2, none⟩ = some (.int .i64 e.1.2.2) ∧ w'.cell? ⟨eb, 3, none⟩ = some (.slice A4 e.2.length k4) ∧ w'.cell? ⟨xb, 0, none⟩ = some (.int .i64 s.1) ∧ w'.cell? ⟨xb, 1, none⟩ = some (.int .i64 s.2.1) ∧ w'.cell? ⟨xb, 2, none⟩ = some (.int .i64 s.2.2) ∧ w'.cell? ⟨w.heap.size, 0, none⟩ = some (.slice A0 l0.length c0) ∧ w'.cell? ⟨w.heap.size, 1, none⟩ = some (.slice A1 l1.length c1) ∧ w'.cell? ⟨w.heap.size, 2, none⟩ = some (.slice A2 l2.length c2) ∧ w'.cell? ⟨w.heap.size, 3, none⟩ = some (.slice A3 l3.length c3) ∧ w'.cell? ⟨w.heap.size, 4, none⟩ = some (.int .i64 st) ∧ w'.cell? ⟨w.heap.size + 3, 7, none⟩ = some (.map (some (w.heap.size + 2)))) (go_keep)
      (first | (go_at_call 77; refine (HOF5.out _ (by repeat (first | exact RowKit.Below.refl _ _ | apply below_drew1))).mono ?_; rintro e6 V6 ⟨rfl, hb6⟩; have hbb := below_step (w := V5) (by repeat (first | exact RowKit.Below.refl _ _ | apply below_drew1)) hb6; obtain ⟨z0, z1, z2, z3, x0, x1, x2, g0, g1, g2, g3, g4, y7⟩ := HCL.out V6 (blk_below BE.out hbb) (blk_below BX5.out hbb) (blk_below HI5.out.bg hbb) (blk_cell (blk_below HI5.out.bx hbb) 7); have HBB := Aside0.mk hbb; have BE6 := Aside0.mk (blk_below BE.out hbb); have BX6 := Aside0.mk (blk_below BX5.out hbb); have HI6 := Aside0.mk (HI5.out.below hbb); have HE6 := Aside0.mk (HE5.out.below hbb); clear hb6 hbb) | (go_at_call 75; refine (HMO5.out _ (by repeat (first | exact HBB.out | exact RowKit.Below.refl _ _ | apply below_drew1))).mono ?_; rintro e7 V7 ⟨rfl, vq4, hL7, hsz7, hk7, hown7⟩; have hE7 := (hk7 eb (blk_lt BE6.out) HNE.out.2.2.1 HNE.out.2.2.2.1 HEQ.out).trans BE6.out; have hX7 := (hk7 xb (blk_lt BX6.out) HNE.out.1 HNE.out.2.1 HQ4.out).trans BX6.out; have hG7 := (hk7 w.heap.size (blk_lt HI6.out.bg) HNE.out.2.2.2.2.1 HNE.out.2.2.2.2.2.1 HNE.out.2.2.2.2.2.2).trans HI6.out.bg; obtain ⟨z0, z1, z2, z3, x0, x1, x2, g0, g1, g2, g3, g4, y7⟩ := HCL.out V7 hE7 hX7 hG7 (blk_cell hL7.bx 7); have HX7 := Aside0.mk hX7; clear hE7 hX7 hG7; have HL7 := Aside0.mk hL7; have HK7 := Aside0.mk (And.intro hsz7 hk7); have HW7 := Aside0.mk hown7; clear hL7 hsz7 hk7 hown7))
     go_wp2_with fail
     go_roundw
     all_goals first
      | exact ⟨j + 1, (moreL F2 q2 e.1 t).1, (moreL F2 q2 e.1 t).2, vq4, rfl, hlt, HZ3, HL7, ⟨HE6.out.over HI6.out HS2.out HK7.out.2⟩, HX7, ⟨fun h => by
        rcases HW7.out with h1 | ⟨b, h1, h2⟩
        ·rw [h1] at h; exact HQ4.out h
        ·rw [h1] at h
         injection h with h
         subst h
         exact absurd (blk_lt BX6.out) (Nat.not_lt.2 h2)⟩, ⟨Nat.le_trans HSE.out.1 (Nat.le_trans (Nat.le_of_lt (blk_lt BE6.out)) HK7.out.1)⟩⟩
      | (simp [intOf]; omega)
    ·have hjb : decide (j < es.length) = false := decide_eq_false hlt
     have hje : j = es.length := by omega
     subst hje
     have HZE := Aside0.mk (show some (F2, q2) = some Z by have := HZ2.out; rw [List.drop_length] at this; exact this)
     go_wp2_with fail
     go_roundg k1
     case measure => exact Nat.lt_succ_self _
     case rel => exact ⟨F2, q2, vq3, HI4, ⟨by have := Option.some.inj HZE.out; rw [this]; exact HN.out⟩⟩
end
end Go.Proofs.YtclollnicbcooaaDoor.P
end

section
namespace Go.Proofs.YtclollnicbcooaaDoor.P
open Go.RowKit Go.Proofs.YtclollnicbcooaaDoorW.PrintWords Go.Proofs.YtclollnicbcooaaDoorW.PrintLast Go.Proofs.YtclollnicbcooaaDoorW.PrintMore
attribute [local go_sem] max2_int min2_int max_two min_two max_three min_three max_four min_four   -- for this text's walks alone
set_option linter.unusedVariables false
set_option linter.unusedSimpArgs false

attribute [local go_sem high] eqA37
/-! ### states_Item_72: function 72 -/
def states_Item_72.l0 : Nat → List (S37) → List (S37) → Int → Int → Option (Bool)
 | 0, _, _, _, _ => none
 | k + 1, x0, x1, x12, x13 => if x13 < x12 then (if 0 ≤ x13 then (if x13 < (x0.length : Int) then (if x13 < (x1.length : Int) then (if (!(((rd_T37 x0 x13).f0) == ((rd_T37 x1 x13).f0)) || (!(((rd_T37 x0 x13).f1) == ((rd_T37 x1 x13).f1)))) = true then (some false) else (states_Item_72.l0 k x0 x1 x12 (wrap64 (x13 + 1)))) else (none)) else (none)) else (none)) else (some true)
def states_Item_72.f (k : Nat) (l0 : List (S37)) (l1 : List (S37)) : Option (Bool) := if (l0.length : Int) = (l1.length : Int) then (states_Item_72.l0 k l0 l1 (l0.length : Int) 0) else (some false)
set_option maxHeartbeats 8000000 in
set_option maxRecDepth 100000 in
theorem states_Item_72.calls (k : Nat) (A0 : Option Addr) (c0 : Nat) (l0 : List (S37)) (A1 : Option Addr) (c1 : Nat) (l1 : List (S37)) (r : Bool) (w : World) (hr0 : Kd.C k37 w A0 l0.length l0) (hc0 : l0.length ≤ c0) (hr1 : Kd.C k37 w A1 l1.length l1) (hc1 : l1.length ≤ c1) (h : states_Item_72.f k l0 l1 = some r) :
  Calls Tryd.prog 72 #[.slice A0 l0.length c0, .slice A1 l1.length c1] w fun e w' => e = .returned (.bool r) ∧ Drawn0 w w' := by
 have hu37 := Tryd.underlying37
 have HR0 := Aside0.mk hr0
 have HC0 := Aside0.mk hc0
 clear hr0 hc0
 have HR1 := Aside0.mk hr1
 have HC1 := Aside0.mk hc1
 clear hr1 hc1
 have H : (if (l0.length : Int) = (l1.length : Int) then (states_Item_72.l0 k l0 l1 (l0.length : Int) 0) else (some false)) = some r := h
 clear h
 by_cases c3 : (l0.length : Int) = (l1.length : Int)
 ·rw [if_pos c3] at H
  have c3b0 : ((l0.length : Int) == (l1.length : Int)) = true := beq_iff_eq.mpr c3
  have c3b1 : ((l0.length : Int) != (l1.length : Int)) = false := bne_eq_false_iff_eq.mpr c3
  have c3b2 : (l0.length == l1.length) = true := by first | simpa using c3 | (simp at c3 ⊢; omega)
  clear c3
  have H' := Aside0.mk H
  clear H
  go_enter Tryd.func72, Tryd.ntmps72
  go_wp2
  repeat (go_quiet (fail); try go_wp2)
  go_loopg [13] k (fun kq v13 w' => ∃ (x13_1 : Int), v13 = .int .i64 x13_1 ∧ Aside0 (states_Item_72.l0 kq l0 l1 (l0.length : Int) x13_1 = some r) ∧ Aside0 (kq ≤ k) ∧ Drawn0 w w')
  case atStart => exact ⟨(0), (by first | rfl | (simp; done) | (simp [*]; done)), H', ⟨Nat.le_refl _⟩, by repeat (first | exact Drawn0.refl _ | apply Drawn0.step)⟩
  case round =>
   clear H'
   try clear c1
   try clear p2
   try clear c3
   try clear c3b0
   try clear c3b1
   try clear c3b2
   obtain ⟨x13_1, rfl, HA, HK1, ⟨m1, rfl⟩⟩ := hrel
   cases gk with
   | zero => exact absurd HA.out (by simp [states_Item_72.l0])
   | succ k1 =>
    have H := HA.out
    clear HA
    simp only [states_Item_72.l0] at H
    by_cases c4 : x13_1 < (l0.length : Int)
    ·rw [if_pos c4] at H
     have c4b0 : decide (x13_1 < (l0.length : Int)) = true := decide_eq_true c4
     clear c4
     by_cases c5 : 0 ≤ x13_1
     ·rw [if_pos c5] at H
      have c5b0 : decide (0 ≤ x13_1) = true := decide_eq_true c5
      clear c5
      by_cases c6 : x13_1 < (l0.length : Int)
      ·rw [if_pos c6] at H
       have c6b0 : decide (x13_1 < (l0.length : Int)) = true := decide_eq_true c6
       clear c6
       by_cases c7 : x13_1 < (l1.length : Int)
       ·rw [if_pos c7] at H
        have c7b0 : decide (x13_1 < (l1.length : Int)) = true := decide_eq_true c7
        clear c7
        by_cases c8 : (!(((rd_T37 l0 x13_1).f0) == ((rd_T37 l1 x13_1).f0)) || (!(((rd_T37 l0 x13_1).f1) == ((rd_T37 l1 x13_1).f1)))) = true
        ·rw [if_pos c8] at H
         have c8b0 : (!(((rd_T37 l0 x13_1).f0) == ((rd_T37 l1 x13_1).f0)) || (!(((rd_T37 l0 x13_1).f1) == ((rd_T37 l1 x13_1).f1)))) = true := c8
         clear c8
         obtain rfl := Option.some.inj H
         have p207 : 0 ≤ (x13_1 : Int) := of_decide_eq_true (by first | (with_reducible assumption) | assumption)
         have q207 : x13_1 < (l0.length : Int) := of_decide_eq_true (by first | (with_reducible assumption) | assumption)
         obtain ⟨ad207, e207, hx207_0, hx207_1⟩ := at_T37 HR0.out x13_1 p207 q207
         cases e207
         replace p207 := eq_true p207
         replace q207 := eq_true q207
         have p208 : 0 ≤ (x13_1 : Int) := of_decide_eq_true (by first | (with_reducible assumption) | assumption)
         have q208 : x13_1 < (l1.length : Int) := of_decide_eq_true (by first | (with_reducible assumption) | assumption)
         obtain ⟨ad208, e208, hx208_0, hx208_1⟩ := at_T37 HR1.out x13_1 p208 q208
         cases e208
         replace p208 := eq_true p208
         replace q208 := eq_true q208
         go_wp2
         repeat (go_quiet (fail); try go_wp2)
         go_ret
         exact ⟨by first | rfl | (simp; done) | (simp [*]; done), by repeat (first | exact Drawn0.refl _ | apply Drawn0.step)⟩
        ·rw [if_neg c8] at H
         have c8b0 : (!(((rd_T37 l0 x13_1).f0) == ((rd_T37 l1 x13_1).f0)) || (!(((rd_T37 l0 x13_1).f1) == ((rd_T37 l1 x13_1).f1)))) = false := by simpa using c8
         clear c8
         have H' := Aside0.mk H
         clear H
         have p207 : 0 ≤ (x13_1 : Int) := of_decide_eq_true (by first | (with_reducible assumption) | assumption)
         have q207 : x13_1 < (l0.length : Int) := of_decide_eq_true (by first | (with_reducible assumption) | assumption)
         obtain ⟨ad207, e207, hx207_0, hx207_1⟩ := at_T37 HR0.out x13_1 p207 q207
         cases e207
         replace p207 := eq_true p207
         replace q207 := eq_true q207
         have p208 : 0 ≤ (x13_1 : Int) := of_decide_eq_true (by first | (with_reducible assumption) | assumption)
         have q208 : x13_1 < (l1.length : Int) := of_decide_eq_true (by first | (with_reducible assumption) | assumption)
         obtain ⟨ad208, e208, hx208_0, hx208_1⟩ := at_T37 HR1.out x13_1 p208 q208
         cases e208
         replace p208 := eq_true p208
         replace q208 := eq_true q208
         go_wp2
         repeat (go_quiet (fail); try go_wp2)
         go_roundg k1
         case measure => have := HK1.out; omega
         case rel => exact ⟨(wrap64 (x13_1 + 1)), (by first | rfl | (simp; done) | (simp [*]; done)), H', ⟨by have := HK1.out; omega⟩, by repeat (first | exact Drawn0.refl _ | apply Drawn0.step)⟩
       ·rw [if_neg c7] at H
        exact absurd H (by simp)
      ·rw [if_neg c6] at H
       exact absurd H (by simp)
     ·rw [if_neg c5] at H
      exact absurd H (by simp)
    ·rw [if_neg c4] at H
     have c4b0 : decide (x13_1 < (l0.length : Int)) = false := decide_eq_false c4
     clear c4
     obtain rfl := Option.some.inj H
     go_wp2
     repeat (go_quiet (fail); try go_wp2)
     go_ret
     exact ⟨by first | rfl | (simp; done) | (simp [*]; done), by repeat (first | exact Drawn0.refl _ | apply Drawn0.step)⟩
 ·rw [if_neg c3] at H
  have c3b0 : ((l0.length : Int) == (l1.length : Int)) = false := beq_eq_false_iff_ne.mpr c3
  have c3b1 : ((l0.length : Int) != (l1.length : Int)) = true := bne_iff_ne.mpr c3
  have c3b2 : (l0.length == l1.length) = false := by first | simpa using c3 | (simp at c3 ⊢; omega)
  obtain rfl := Option.some.inj H
  go_enter Tryd.func72, Tryd.ntmps72
  go_wp2
  repeat (go_quiet (fail); try go_wp2)
  go_ret
  exact ⟨by first | rfl | (simp; done) | (simp [*]; done), by repeat (first | exact Drawn0.refl _ | apply Drawn0.step)⟩

-- NOT PRINTED: function 73 (slices_EqualFunc_int_int_int_int)

/-! ### slices_Equal_int_int: function 74 -/
def slices_Equal_int_int.l0 : Nat → List Int → List Int → Int → Int → Option (Bool)
 | 0, _, _, _, _ => none
 | k + 1, x0, x1, x12, x13 => if x13 < x12 then (if 0 ≤ x13 then (if x13 < (x0.length : Int) then (if x13 < (x1.length : Int) then (if (rd x0 x13) = (rd x1 x13) then (slices_Equal_int_int.l0 k x0 x1 x12 (wrap64 (x13 + 1))) else (some false)) else (none)) else (none)) else (none)) else (some true)
def slices_Equal_int_int.f (k : Nat) (l0 : List Int) (l1 : List Int) : Option (Bool) := if (l0.length : Int) = (l1.length : Int) then (slices_Equal_int_int.l0 k l0 l1 (l0.length : Int) 0) else (some false)
set_option maxHeartbeats 8000000 in
set_option maxRecDepth 100000 in
theorem slices_Equal_int_int.calls (k : Nat) (A0 : Option Addr) (c0 : Nat) (l0 : List Int) (A1 : Option Addr) (c1 : Nat) (l1 : List Int) (r : Bool) (w : World) (hr0 : Kd.C (Kd.int .i64) w A0 l0.length l0) (hc0 : l0.length ≤ c0) (hr1 : Kd.C (Kd.int .i64) w A1 l1.length l1) (hc1 : l1.length ≤ c1) (h : slices_Equal_int_int.f k l0 l1 = some r) :
  Calls Tryd.prog 74 #[.slice A0 l0.length c0, .slice A1 l1.length c1] w fun e w' => e = .returned (.bool r) ∧ Drawn0 w w' := by
 have HR0 := Aside0.mk hr0
 have HC0 := Aside0.mk hc0
 clear hr0 hc0
 have HR1 := Aside0.mk hr1
 have HC1 := Aside0.mk hc1
 clear hr1 hc1
 have H : (if (l0.length : Int) = (l1.length : Int) then (slices_Equal_int_int.l0 k l0 l1 (l0.length : Int) 0) else (some false)) = some r := h
 clear h
 by_cases c3 : (l0.length : Int) = (l1.length : Int)
 ·rw [if_pos c3] at H
  have c3b0 : ((l0.length : Int) == (l1.length : Int)) = true := beq_iff_eq.mpr c3
  have c3b1 : ((l0.length : Int) != (l1.length : Int)) = false := bne_eq_false_iff_eq.mpr c3
  have c3b2 : (l0.length == l1.length) = true := by first | simpa using c3 | (simp at c3 ⊢; omega)
  clear c3
  have H' := Aside0.mk H
  clear H
  go_enter Tryd.func74, Tryd.ntmps74
  go_wp2
  repeat (go_quiet (fail); try go_wp2)
  go_loopg [13] k (fun kq v13 w' => ∃ (x13_1 : Int), v13 = .int .i64 x13_1 ∧ Aside0 (slices_Equal_int_int.l0 kq l0 l1 (l0.length : Int) x13_1 = some r) ∧ Aside0 (kq ≤ k) ∧ Drawn0 w w')
  case atStart => exact ⟨(0), (by first | rfl | (simp; done) | (simp [*]; done)), H', ⟨Nat.le_refl _⟩, by repeat (first | exact Drawn0.refl _ | apply Drawn0.step)⟩
  case round =>
   clear H'
   try clear c1
   try clear p2
   try clear c3
   try clear c3b0
   try clear c3b1
   try clear c3b2
   obtain ⟨x13_1, rfl, HA, HK1, ⟨m1, rfl⟩⟩ := hrel
   cases gk with
   | zero => exact absurd HA.out (by simp [slices_Equal_int_int.l0])
   | succ k1 =>
    have H := HA.out
    clear HA
    simp only [slices_Equal_int_int.l0] at H
    by_cases c4 : x13_1 < (l0.length : Int)
    ·rw [if_pos c4] at H
     have c4b0 : decide (x13_1 < (l0.length : Int)) = true := decide_eq_true c4
     clear c4
     by_cases c5 : 0 ≤ x13_1
     ·rw [if_pos c5] at H
      have c5b0 : decide (0 ≤ x13_1) = true := decide_eq_true c5
      clear c5
      by_cases c6 : x13_1 < (l0.length : Int)
      ·rw [if_pos c6] at H
       have c6b0 : decide (x13_1 < (l0.length : Int)) = true := decide_eq_true c6
       clear c6
       by_cases c7 : x13_1 < (l1.length : Int)
       ·rw [if_pos c7] at H
        have c7b0 : decide (x13_1 < (l1.length : Int)) = true := decide_eq_true c7
        clear c7
        by_cases c8 : (rd l0 x13_1) = (rd l1 x13_1)
        ·rw [if_pos c8] at H
         have c8b0 : ((rd l0 x13_1) == (rd l1 x13_1)) = true := beq_iff_eq.mpr c8
         have c8b1 : ((rd l0 x13_1) != (rd l1 x13_1)) = false := bne_eq_false_iff_eq.mpr c8
         clear c8
         have H' := Aside0.mk H
         clear H
         have p209 : 0 ≤ (x13_1 : Int) := of_decide_eq_true (by first | (with_reducible assumption) | assumption)
         have q209 : x13_1 < (l0.length : Int) := of_decide_eq_true (by first | (with_reducible assumption) | assumption)
         obtain ⟨ad209, e209, hx209_0⟩ := Kd.at_int HR0.out x13_1 p209 q209
         cases e209
         replace p209 := eq_true p209
         replace q209 := eq_true q209
         have p210 : 0 ≤ (x13_1 : Int) := of_decide_eq_true (by first | (with_reducible assumption) | assumption)
         have q210 : x13_1 < (l1.length : Int) := of_decide_eq_true (by first | (with_reducible assumption) | assumption)
         obtain ⟨ad210, e210, hx210_0⟩ := Kd.at_int HR1.out x13_1 p210 q210
         cases e210
         replace p210 := eq_true p210
         replace q210 := eq_true q210
         go_wp2
         repeat (go_quiet (fail); try go_wp2)
         go_roundg k1
         case measure => have := HK1.out; omega
         case rel => exact ⟨(wrap64 (x13_1 + 1)), (by first | rfl | (simp; done) | (simp [*]; done)), H', ⟨by have := HK1.out; omega⟩, by repeat (first | exact Drawn0.refl _ | apply Drawn0.step)⟩
        ·rw [if_neg c8] at H
         have c8b0 : ((rd l0 x13_1) == (rd l1 x13_1)) = false := beq_eq_false_iff_ne.mpr c8
         have c8b1 : ((rd l0 x13_1) != (rd l1 x13_1)) = true := bne_iff_ne.mpr c8
         obtain rfl := Option.some.inj H
         have p209 : 0 ≤ (x13_1 : Int) := of_decide_eq_true (by first | (with_reducible assumption) | assumption)
         have q209 : x13_1 < (l0.length : Int) := of_decide_eq_true (by first | (with_reducible assumption) | assumption)
         obtain ⟨ad209, e209, hx209_0⟩ := Kd.at_int HR0.out x13_1 p209 q209
         cases e209
         replace p209 := eq_true p209
         replace q209 := eq_true q209
         have p210 : 0 ≤ (x13_1 : Int) := of_decide_eq_true (by first | (with_reducible assumption) | assumption)
         have q210 : x13_1 < (l1.length : Int) := of_decide_eq_true (by first | (with_reducible assumption) | assumption)
         obtain ⟨ad210, e210, hx210_0⟩ := Kd.at_int HR1.out x13_1 p210 q210
         cases e210
         replace p210 := eq_true p210
         replace q210 := eq_true q210
         go_wp2
         repeat (go_quiet (fail); try go_wp2)
         go_ret
         exact ⟨by first | rfl | (simp; done) | (simp [*]; done), by repeat (first | exact Drawn0.refl _ | apply Drawn0.step)⟩
       ·rw [if_neg c7] at H
        exact absurd H (by simp)
      ·rw [if_neg c6] at H
       exact absurd H (by simp)
     ·rw [if_neg c5] at H
      exact absurd H (by simp)
    ·rw [if_neg c4] at H
     have c4b0 : decide (x13_1 < (l0.length : Int)) = false := decide_eq_false c4
     clear c4
     obtain rfl := Option.some.inj H
     go_wp2
     repeat (go_quiet (fail); try go_wp2)
     go_ret
     exact ⟨by first | rfl | (simp; done) | (simp [*]; done), by repeat (first | exact Drawn0.refl _ | apply Drawn0.step)⟩
 ·rw [if_neg c3] at H
  have c3b0 : ((l0.length : Int) == (l1.length : Int)) = false := beq_eq_false_iff_ne.mpr c3
  have c3b1 : ((l0.length : Int) != (l1.length : Int)) = true := bne_iff_ne.mpr c3
  have c3b2 : (l0.length == l1.length) = false := by first | simpa using c3 | (simp at c3 ⊢; omega)
  obtain rfl := Option.some.inj H
  go_enter Tryd.func74, Tryd.ntmps74
  go_wp2
  repeat (go_quiet (fail); try go_wp2)
  go_ret
  exact ⟨by first | rfl | (simp; done) | (simp [*]; done), by repeat (first | exact Drawn0.refl _ | apply Drawn0.step)⟩

end Go.Proofs.YtclollnicbcooaaDoor.P
end

section
set_option linter.unusedVariables false
set_option linter.unusedSimpArgs false
namespace Go.Proofs.YtclollnicbcooaaDoor.P
open Go.RowKit Go.Lib Go.Sort Go.Proofs.YtclollnicbcooaaDoorW.PrintWords Go.Proofs.YtclollnicbcooaaDoorW.PrintLast Go.Proofs.YtclollnicbcooaaDoorW.PrintMore St
attribute [local go_sem] Oper.semAt_some
theorem up_to (x n : Int) (h : x < n) (hn : n ≤ 9223372036854775807) (h0 : 0 ≤ x) : wrap64 (x + 1) = x + 1 := IntWalk.wrap64_in _ (by omega)
theorem item72_l0 (a : List S37) (hn : a.length ≤ 9223372036854775807) : ∀ (m i : Nat), i + m = a.length → states_Item_72.l0 (m + 1) a a (a.length : Int) (i : Int) = some true
 | 0, i, h => by rw [states_Item_72.l0, if_neg (by omega)]
 | m + 1, i, h => by
  rw [states_Item_72.l0, if_pos (by omega), if_pos (by omega), if_pos (by omega), if_pos (by omega), if_neg (by simp), up_to _ (a.length : Int) (by omega) (by omega) (by omega)]
  exact item72_l0 a hn m (i + 1) (by omega)
theorem item72_same (a : List S37) (hn : a.length ≤ 9223372036854775807) : states_Item_72.f (a.length + 1) a a = some true := by
 unfold states_Item_72.f
 rw [if_pos rfl]
 exact item72_l0 a hn a.length 0 (by omega)
theorem ints74_l0 (a : List Int) (hn : a.length ≤ 9223372036854775807) : ∀ (m i : Nat), i + m = a.length → slices_Equal_int_int.l0 (m + 1) a a (a.length : Int) (i : Int) = some true
 | 0, i, h => by rw [slices_Equal_int_int.l0, if_neg (by omega)]
 | m + 1, i, h => by
  have := ints74_l0 a hn m (i + 1) (by omega)
  rw [slices_Equal_int_int.l0, if_pos (by omega), if_pos (by omega), if_pos (by omega), if_pos (by omega), up_to _ (a.length : Int) (by omega) (by omega) (by omega)]
  first | exact this | (simpa using this) | (rw [if_pos rfl]; exact this)
theorem ints74_same (a : List Int) (hn : a.length ≤ 9223372036854775807) : slices_Equal_int_int.f (a.length + 1) a a = some true := by
 unfold slices_Equal_int_int.f
 rw [if_pos rfl]
 exact ints74_l0 a hn a.length 0 (by omega)
set_option maxHeartbeats 4000000 in
set_option maxRecDepth 100000 in
theorem same71_calls (A A' : Option Addr) (c c' : Nat) (K : List (List S37)) (w : World) (hr : Kd.C (Kd.slice 37 k37) w A K.length K) (hr' : Kd.C (Kd.slice 37 k37) w A' K.length K) :
  Calls Tryd.prog 71 #[.slice A K.length c, .slice A' K.length c', .func (.func 72) #[] #[]] w fun e w' => e = .returned (.bool true) ∧ Drawn0 w w' := by
 have HR := Aside0.mk hr
 have HR' := Aside0.mk hr'
 have HM := Aside0.mk hr.2.1
 clear hr hr'
 go_enter Tryd.func71, Tryd.ntmps71
 go_upto_region 4 with fail
 go_loopw [17] (fun v17 wr => ∃ i : Nat, v17 = .int .i64 i ∧ i ≤ K.length ∧ Aside0 (Drawn0 w wr)) (fun v17 _ => K.length - (intOf v17).toNat)
 case atStart => exact ⟨0, rfl, Nat.zero_le _, ⟨Drawn0.refl _⟩⟩
 case round =>
  obtain ⟨i, rfl, hi, HD⟩ := hrel
  obtain ⟨n, rfl⟩ := HD.out
  by_cases hlt : i < K.length
  ·have hib : decide (i < K.length) = true := decide_eq_true hlt
   have hib2 : decide ((i : Int) < (K.length : Int)) = true := decide_eq_true (by omega)
   have hiw : IntKind.i64.wrap ((i : Int) + 1) = ((i + 1 : Nat) : Int) := by
    have := HM.out
    rw [IntWalk.i64_in _ (by omega)]
    rfl
   obtain ⟨ad, A1, c1, e, hx, hl, hC⟩ := at_L15 (Kd.C_drewN HR.out n) (i : Int) (by omega) (by omega)
   obtain ⟨ad', A1', c1', e', hx', hl', hC'⟩ := at_L15 (Kd.C_drewN HR'.out n) (i : Int) (by omega) (by omega)
   subst e
   subst e'
   rw [Int.toNat_natCast] at hx hx'
   have HCL := Aside0.mk (states_Item_72.calls _ A1 c1 _ A1' c1' _ true _ hC hl hC' hl' (item72_same _ hC.2.1))
   clear hC hC' hl hl'
   go_wp2_with (go_at_call 72; refine HCL.out.mono ?_; rintro e w2 ⟨rfl, ⟨n2, rfl⟩⟩)
   go_roundw
   all_goals first
    | exact ⟨i + 1, rfl, by omega, ⟨⟨_, World.drewN_drewN _ _ _⟩⟩⟩
    | exact ⟨i + 1, rfl, by omega, ⟨by repeat (first | exact Drawn0.refl _ | apply Drawn0.step | apply Drawn0.steps)⟩⟩
    | (simp [intOf]; omega)
    | trace_state
  ·have hib : decide (i < K.length) = false := decide_eq_false hlt
   have hib2 : decide ((i : Int) < (K.length : Int)) = false := decide_eq_false (by omega)
   go_wp2_with fail
   go_ret
   exact ⟨rfl, ⟨n, rfl⟩⟩
set_option maxHeartbeats 4000000 in
set_option maxRecDepth 100000 in
theorem same73_calls (A A' : Option Addr) (c c' : Nat) (K : List (List Int)) (w : World) (hr : Kd.C (Kd.slice 3 (Kd.int .i64)) w A K.length K) (hr' : Kd.C (Kd.slice 3 (Kd.int .i64)) w A' K.length K) :
  Calls Tryd.prog 73 #[.slice A K.length c, .slice A' K.length c', .func (.func 74) #[] #[]] w fun e w' => e = .returned (.bool true) ∧ Drawn0 w w' := by
 have HR := Aside0.mk hr
 have HR' := Aside0.mk hr'
 have HM := Aside0.mk hr.2.1
 clear hr hr'
 go_enter Tryd.func73, Tryd.ntmps73
 go_upto_region 4 with fail
 go_loopw [17] (fun v17 wr => ∃ i : Nat, v17 = .int .i64 i ∧ i ≤ K.length ∧ Aside0 (Drawn0 w wr)) (fun v17 _ => K.length - (intOf v17).toNat)
 case atStart => exact ⟨0, rfl, Nat.zero_le _, ⟨Drawn0.refl _⟩⟩
 case round =>
  obtain ⟨i, rfl, hi, HD⟩ := hrel
  obtain ⟨n, rfl⟩ := HD.out
  by_cases hlt : i < K.length
  ·have hib : decide (i < K.length) = true := decide_eq_true hlt
   have hib2 : decide ((i : Int) < (K.length : Int)) = true := decide_eq_true (by omega)
   have hiw : IntKind.i64.wrap ((i : Int) + 1) = ((i + 1 : Nat) : Int) := by
    have := HM.out
    rw [IntWalk.i64_in _ (by omega)]
    rfl
   obtain ⟨ad, A1, c1, e, hx, hl, hC⟩ := at_L17 (Kd.C_drewN HR.out n) (i : Int) (by omega) (by omega)
   obtain ⟨ad', A1', c1', e', hx', hl', hC'⟩ := at_L17 (Kd.C_drewN HR'.out n) (i : Int) (by omega) (by omega)
   subst e
   subst e'
   rw [Int.toNat_natCast] at hx hx'
   have HCL := Aside0.mk (slices_Equal_int_int.calls _ A1 c1 _ A1' c1' _ true _ hC hl hC' hl' (ints74_same _ hC.2.1))
   clear hC hC' hl hl'
   go_wp2_with (go_at_call 74; refine HCL.out.mono ?_; rintro e w2 ⟨rfl, ⟨n2, rfl⟩⟩)
   go_roundw
   all_goals first
    | exact ⟨i + 1, rfl, by omega, ⟨⟨_, World.drewN_drewN _ _ _⟩⟩⟩
    | exact ⟨i + 1, rfl, by omega, ⟨by repeat (first | exact Drawn0.refl _ | apply Drawn0.step | apply Drawn0.steps)⟩⟩
    | (simp [intOf]; omega)
    | trace_state
  ·have hib : decide (i < K.length) = false := decide_eq_false hlt
   have hib2 : decide ((i : Int) < (K.length : Int)) = false := decide_eq_false (by omega)
   go_wp2_with fail
   go_ret
   exact ⟨rfl, ⟨n, rfl⟩⟩
end Go.Proofs.YtclollnicbcooaaDoor.P
end

section
set_option linter.unusedVariables false
set_option linter.unusedSimpArgs false
namespace Go.Proofs.YtclollnicbcooaaDoor.P
open Go.RowKit Go.Lib Go.Sort Go.Proofs.YtclollnicbcooaaDoorW.PrintWords Go.Proofs.YtclollnicbcooaaDoorW.PrintLast Go.Proofs.YtclollnicbcooaaDoorW.PrintMore St Base
attribute [local go_sem] Oper.semAt_some

def look_Ahead.f (k : Nat) (l0 : List S82) (l1 : List S101) (l2 : List ByteArray) (l3 : List S64) (st : Int) (Ka : List (List S37)) (Na : List (List Int)) : Option (List S74) :=
 (states_Build.f l0 l1 l2 l3 st).bind fun b => if b.2.2 = 0 ∧ Ka.map (·.map toI) = b.1.map (·.map toI) ∧ Na = b.2.1 then look_rows.f k l0 l1 l2 l3 st b.1 b.2.1 else none
set_option maxHeartbeats 4000000 in
set_option maxRecDepth 100000 in
theorem look_All.calls (k : Nat) (A0 : Option Addr) (c0 : Nat) (l0 : List S82) (A1 : Option Addr) (c1 : Nat) (l1 : List S101) (A2 : Option Addr) (c2 : Nat) (l2 : List ByteArray) (A3 : Option Addr) (c3 : Nat) (l3 : List S64) (st : Int) (r1 : List S74) (r2 : Int) (w : World) (hG : GTab w)
  (hr0 : Kd.C k82 w A0 l0.length l0) (hc0 : l0.length ≤ c0) (hr1 : Kd.C k101 w A1 l1.length l1) (hc1 : l1.length ≤ c1) (hr2 : Kd.C Kd.string w A2 l2.length l2) (hc2 : l2.length ≤ c2) (hr3 : Kd.C k64 w A3 l3.length l3) (hc3 : l3.length ≤ c3) (h : look_All.f k l0 l1 l2 l3 st = some (r1, r2)) :
  Calls Tryd.prog 28 #[.agg #[.slice A0 l0.length c0, .slice A1 l1.length c1, .slice A2 l2.length c2, .slice A3 l3.length c3, .int .i64 st]] w fun e w' => ∃ v0_ : Value, e = .returned (.tuple #[v0_, .int .i64 r2]) ∧ Kd.S k74 74 w' w.heap.size (fun _ => True) v0_ r1 ∧ Below w.heap.size w w' := by
 have HR0 := Aside0.mk hr0
 have HR1 := Aside0.mk hr1
 have HR2 := Aside0.mk hr2
 have HR3 := Aside0.mk hr3
 have HC0 := Aside0.mk hc0
 have HC1 := Aside0.mk hc1
 have HC2 := Aside0.mk hc2
 have HC3 := Aside0.mk hc3
 have HG := Aside0.mk hG
 unfold look_All.f at h
 obtain ⟨⟨K, N, e⟩, hb, h⟩ := Option.bind_eq_some_iff.1 h
 simp only at h
 have HBU := Aside0.mk fun (W' : World) (hb' : RowKit.Below w.heap.size w W') => states_Build.calls A0 c0 l0 A1 c1 l1 A2 c2 l2 A3 c3 l3 st K N e W' (GTab.below HG.out hb') (Kd.C_below HR0.out hb') HC0.out (Kd.C_below HR1.out hb') HC1.out (Kd.C_below HR2.out hb') HC2.out (Kd.C_below HR3.out hb') HC3.out hb
 clear hr0 hr1 hr2 hr3 hc0 hc1 hc2 hc3 hG hb
 have hu27 := Tryd.underlying27
 have hu49 := Tryd.underlying49
 go_enter Tryd.func28, Tryd.ntmps28
 go_upto_region 1 with fail
 have BG := Aside0.mk (blk_new w (Obj.cells #[.slice A0 l0.length c0, .slice A1 l1.length c1, .slice A2 l2.length c2, .slice A3 l3.length c3, .int .i64 st] 27))
 have HB1 := Aside0.mk (below_alloc (RowKit.Below.refl w.heap.size w) (Obj.cells #[.slice A0 l0.length c0, .slice A1 l1.length c1, .slice A2 l2.length c2, .slice A3 l3.length c3, .int .i64 st] 27))
 generalize w.alloc (Obj.cells #[.slice A0 l0.length c0, .slice A1 l1.length c1, .slice A2 l2.length c2, .slice A3 l3.length c3, .int .i64 st] 27) = w1 at *
 obtain ⟨z0, z1, z2, z3, z4⟩ := five5 BG.out
 go_upto_region 2 with (go_at_call 23; refine (HBU.out w1 HB1.out).mono ?_; rintro e1 w2 ⟨vK, vN, rfl, hK, hN, hb2⟩; obtain ⟨AK, cK, eK, hcK, hCK⟩ := Kd.S_reads hK; obtain ⟨AN, cN, eN, hcN, hCN⟩ := Kd.S_reads hN; subst eK; subst eN; have HB2 := Aside0.mk (below_step HB1.out hb2); have BG2 := Aside0.mk (blk_below BG.out hb2); have HCK := Aside0.mk hCK; have HCN := Aside0.mk hCN; have HLK := Aside0.mk hcK; have HLN := Aside0.mk hcN; clear hK hN hb2 hCK hCN hcK hcN)
 have BA := Aside0.mk (blk_new w2 (Obj.cells #[.slice AK K.length cK, .slice AN N.length cN] 49))
 have HA := Aside0.mk (below_alloc (RowKit.Below.refl w2.heap.size w2) (Obj.cells #[.slice AK K.length cK, .slice AN N.length cN] 49))
 have HB3 := Aside0.mk (below_step HB2.out HA.out)
 have BG3 := Aside0.mk (blk_below BG2.out HA.out)
 have HCK3 := Aside0.mk (Kd.C_below HCK.out HA.out)
 have HCN3 := Aside0.mk (Kd.C_below HCN.out HA.out)
 clear z0 z1 z2 z3 z4 HA HCK HCN BG2 HB1 BG
 generalize w2.alloc (Obj.cells #[.slice AK K.length cK, .slice AN N.length cN] 49) = w3 at *
 generalize w2.heap.size = ab at *
 have a0 : w3.cell? ⟨ab, 0, none⟩ = some (.slice AK K.length cK) := blk_cell BA.out 0
 have a1 : w3.cell? ⟨ab, 1, none⟩ = some (.slice AN N.length cN) := blk_cell BA.out 1
 obtain ⟨z0, z1, z2, z3, z4⟩ := five5 BG3.out
 by_cases he : e = 0
 ·subst he
  rw [if_pos rfl] at h
  obtain ⟨rr, hrr, hpr⟩ := Option.map_eq_some_iff.1 h
  injection hpr with hp1 hp2
  subst hp1
  subst hp2
  have HRW := Aside0.mk (look_rows.calls k A0 c0 l0 A1 c1 l1 A2 c2 l2 A3 c3 l3 st AK cK K AN cN N rr w3 (Kd.C_below HR0.out HB3.out) HC0.out (Kd.C_below HR1.out HB3.out) HC1.out (Kd.C_below HR2.out HB3.out) HC2.out (Kd.C_below HR3.out HB3.out) HC3.out HCK3.out HLK.out HCN3.out HLN.out hrr)
  clear h hrr
  go_wp2_with (go_at_call 48; refine HRW.out.mono ?_; rintro e3 w4 ⟨v0, rfl, hS, hb4⟩; have HS := Aside0.mk hS; have HB4 := Aside0.mk hb4; clear hS hb4)
  go_ret2
  exact ⟨_, rfl, Kd.S_lower HS.out HB3.out.size, below_step HB3.out HB4.out⟩
 ·have hd : (e != 0) = true := by simpa using he
  have hd2 : (e == 0) = false := by simpa using he
  rw [if_neg he] at h
  have h := Option.some.inj h
  injection h with hp1 hp2
  subst hp1
  subst hp2
  clear he
  go_wp2_with fail
  go_ret2
  exact ⟨_, rfl, Kd.S_nil _ _ _ _ _, HB3.out⟩
set_option maxHeartbeats 4000000 in
set_option maxRecDepth 100000 in
theorem look_Ahead.calls (k : Nat) (A0 : Option Addr) (c0 : Nat) (l0 : List S82) (A1 : Option Addr) (c1 : Nat) (l1 : List S101) (A2 : Option Addr) (c2 : Nat) (l2 : List ByteArray) (A3 : Option Addr) (c3 : Nat) (l3 : List S64) (st : Int) (AK : Option Addr) (cK : Nat) (Ka : List (List S37)) (AN : Option Addr) (cN : Nat) (Na : List (List Int)) (r : List S74) (w : World) (hG : GTab w)
  (hr0 : Kd.C k82 w A0 l0.length l0) (hc0 : l0.length ≤ c0) (hr1 : Kd.C k101 w A1 l1.length l1) (hc1 : l1.length ≤ c1) (hr2 : Kd.C Kd.string w A2 l2.length l2) (hc2 : l2.length ≤ c2) (hr3 : Kd.C k64 w A3 l3.length l3) (hc3 : l3.length ≤ c3)
  (hrK : Kd.C (Kd.slice 37 k37) w AK Ka.length Ka) (hcK : Ka.length ≤ cK) (hrN : Kd.C (Kd.slice 3 (Kd.int .i64)) w AN Na.length Na) (hcN : Na.length ≤ cN) (h : look_Ahead.f k l0 l1 l2 l3 st Ka Na = some r) :
  Calls Tryd.prog 47 #[.agg #[.slice A0 l0.length c0, .slice A1 l1.length c1, .slice A2 l2.length c2, .slice A3 l3.length c3, .int .i64 st], .agg #[.slice AK Ka.length cK, .slice AN Na.length cN]] w fun e w' => ∃ v0_ : Value, e = .returned v0_ ∧ Kd.S k74 74 w' w.heap.size (fun _ => True) v0_ r ∧ Below w.heap.size w w' := by
 have HR0 := Aside0.mk hr0
 have HR1 := Aside0.mk hr1
 have HR2 := Aside0.mk hr2
 have HR3 := Aside0.mk hr3
 have HC0 := Aside0.mk hc0
 have HC1 := Aside0.mk hc1
 have HC2 := Aside0.mk hc2
 have HC3 := Aside0.mk hc3
 have HRK := Aside0.mk hrK
 have HRN := Aside0.mk hrN
 have HG := Aside0.mk hG
 unfold look_Ahead.f at h
 obtain ⟨⟨K, N, e⟩, hb, h⟩ := Option.bind_eq_some_iff.1 h
 simp only at h
 split at h
 case isFalse => cases h
 rename_i hq
 obtain ⟨rfl, hKa, rfl⟩ := hq
 have hKK : Ka = K := by
  have := congrArg (fun x : List (List Itm) => x.map (·.map ofI)) hKa
  simp only [List.map_map] at this
  have e : ((fun x : List Itm => x.map ofI) ∘ fun x : List S37 => x.map toI) = id := by
   funext x
   exact map_ofI_toI x
  rwa [e, List.map_id, List.map_id] at this
 subst hKK
 have HBU := Aside0.mk fun (W' : World) (hb' : RowKit.Below w.heap.size w W') => states_Build.calls A0 c0 l0 A1 c1 l1 A2 c2 l2 A3 c3 l3 st Ka Na 0 W' (GTab.below HG.out hb') (Kd.C_below HR0.out hb') HC0.out (Kd.C_below HR1.out hb') HC1.out (Kd.C_below HR2.out hb') HC2.out (Kd.C_below HR3.out hb') HC3.out hb
 have HRR := Aside0.mk h
 clear hr0 hr1 hr2 hr3 hc0 hc1 hc2 hc3 hrK hrN hG hb h hKa
 have hu27 := Tryd.underlying27
 have hu49 := Tryd.underlying49
 go_enter Tryd.func47, Tryd.ntmps47
 go_upto_region 1 with fail
 have BG := Aside0.mk (blk_alloc (blk_new w (Obj.cells #[.slice A0 l0.length c0, .slice A1 l1.length c1, .slice A2 l2.length c2, .slice A3 l3.length c3, .int .i64 st] 27)) (Obj.cells #[.slice AK Ka.length cK, .slice AN Na.length cN] 49))
 have BA := Aside0.mk (show ((w.alloc (Obj.cells #[.slice A0 l0.length c0, .slice A1 l1.length c1, .slice A2 l2.length c2, .slice A3 l3.length c3, .int .i64 st] 27)).alloc (Obj.cells #[.slice AK Ka.length cK, .slice AN Na.length cN] 49)).heap[w.heap.size + 1]? = some (.cells #[.slice AK Ka.length cK, .slice AN Na.length cN] 49 (0, 0)) by have h := blk_new (w.alloc (Obj.cells #[.slice A0 l0.length c0, .slice A1 l1.length c1, .slice A2 l2.length c2, .slice A3 l3.length c3, .int .i64 st] 27)) (Obj.cells #[.slice AK Ka.length cK, .slice AN Na.length cN] 49); rw [World.size_alloc] at h; exact h)
 have HB1 := Aside0.mk (below_alloc (below_alloc (RowKit.Below.refl w.heap.size w) (Obj.cells #[.slice A0 l0.length c0, .slice A1 l1.length c1, .slice A2 l2.length c2, .slice A3 l3.length c3, .int .i64 st] 27)) (Obj.cells #[.slice AK Ka.length cK, .slice AN Na.length cN] 49))
 generalize (w.alloc (Obj.cells #[.slice A0 l0.length c0, .slice A1 l1.length c1, .slice A2 l2.length c2, .slice A3 l3.length c3, .int .i64 st] 27)).alloc (Obj.cells #[.slice AK Ka.length cK, .slice AN Na.length cN] 49) = w1 at *
 obtain ⟨z0, z1, z2, z3, z4⟩ := five5 BG.out
 go_upto_region 2 with (go_at_call 23; refine (HBU.out w1 HB1.out).mono ?_; rintro e1 w2 ⟨vK, vN, rfl, hK, hN, hb2⟩; obtain ⟨AK2, cK2, eK, hcK2, hCK⟩ := Kd.S_reads hK; obtain ⟨AN2, cN2, eN, hcN2, hCN⟩ := Kd.S_reads hN; subst eK; subst eN; have HB2 := Aside0.mk (below_step HB1.out hb2); have BG2 := Aside0.mk (blk_below BG.out hb2); have BA2 := Aside0.mk (blk_below BA.out hb2); have HCK := Aside0.mk hCK; have HCN := Aside0.mk hCN; have HLK := Aside0.mk hcK2; have HLN := Aside0.mk hcN2; clear hK hN hb2 hCK hCN hcK2 hcN2)
 have BB := Aside0.mk (blk_new w2 (Obj.cells #[.slice AK2 Ka.length cK2, .slice AN2 Na.length cN2] 49))
 have HA := Aside0.mk (below_alloc (RowKit.Below.refl w2.heap.size w2) (Obj.cells #[.slice AK2 Ka.length cK2, .slice AN2 Na.length cN2] 49))
 have HB3 := Aside0.mk (below_step HB2.out HA.out)
 have BG3 := Aside0.mk (blk_below BG2.out HA.out)
 have BA3 := Aside0.mk (blk_below BA2.out HA.out)
 have HCK3 := Aside0.mk (Kd.C_below HCK.out HA.out)
 have HCN3 := Aside0.mk (Kd.C_below HCN.out HA.out)
 clear z0 z1 z2 z3 z4 HA HCK HCN BG2 BA2 BA HB1 BG
 generalize w2.alloc (Obj.cells #[.slice AK2 Ka.length cK2, .slice AN2 Na.length cN2] 49) = w3 at *
 generalize w2.heap.size = ab at *
 have a0 : w3.cell? ⟨ab, 0, none⟩ = some (.slice AK2 Ka.length cK2) := blk_cell BB.out 0
 have a1 : w3.cell? ⟨ab, 1, none⟩ = some (.slice AN2 Na.length cN2) := blk_cell BB.out 1
 have b0 : w3.cell? ⟨w.heap.size + 1, 0, none⟩ = some (.slice AK Ka.length cK) := blk_cell BA3.out 0
 have b1 : w3.cell? ⟨w.heap.size + 1, 1, none⟩ = some (.slice AN Na.length cN) := blk_cell BA3.out 1
 go_upto_region 4 with (first | (go_at_call 71; refine (same71_calls AK AK2 cK cK2 Ka _ (Kd.C_below HRK.out HB3.out) HCK3.out).mono ?_; rintro e4 w4 ⟨rfl, ⟨n4, rfl⟩⟩) | (go_at_call 73; refine (same73_calls AN AN2 cN cN2 Na _ (by repeat (first | exact Kd.C_below HRN.out HB3.out | apply Kd.C_drewN)) (by repeat (first | exact HCN3.out | apply Kd.C_drewN))).mono ?_; rintro e5 w5 ⟨rfl, ⟨n5, rfl⟩⟩))
 have HB4 := Aside0.mk (pw_below_drewN HB3.out (n4 + n5))
 have BB4 := Aside0.mk (blk_drewN BB.out (n4 + n5))
 have BG4 := Aside0.mk (blk_drewN BG3.out (n4 + n5))
 have HCK4 := Aside0.mk (Kd.C_drewN HCK3.out (n4 + n5))
 have HCN4 := Aside0.mk (Kd.C_drewN HCN3.out (n4 + n5))
 clear a0 a1 b0 b1 HCK3 HCN3 BB BG3 BA3
 generalize w3.drewN (n4 + n5) = w4 at *
 have a0 : w4.cell? ⟨ab, 0, none⟩ = some (.slice AK2 Ka.length cK2) := blk_cell BB4.out 0
 have a1 : w4.cell? ⟨ab, 1, none⟩ = some (.slice AN2 Na.length cN2) := blk_cell BB4.out 1
 obtain ⟨z0, z1, z2, z3, z4⟩ := five5 BG4.out
 have HRW := Aside0.mk (look_rows.calls k A0 c0 l0 A1 c1 l1 A2 c2 l2 A3 c3 l3 st AK2 cK2 Ka AN2 cN2 Na r w4 (Kd.C_below HR0.out HB4.out) HC0.out (Kd.C_below HR1.out HB4.out) HC1.out (Kd.C_below HR2.out HB4.out) HC2.out (Kd.C_below HR3.out HB4.out) HC3.out HCK4.out HLK.out HCN4.out HLN.out HRR.out)
 go_wp2_with (go_at_call 48; refine HRW.out.mono ?_; rintro e6 w6 ⟨v0, rfl, hS, hb6⟩; have HS := Aside0.mk hS; have HB6 := Aside0.mk hb6; clear hS hb6)
 go_ret
 exact ⟨_, rfl, Kd.S_lower HS.out HB4.out.size, below_step HB4.out HB6.out⟩
end Go.Proofs.YtclollnicbcooaaDoor.P
end

section
set_option linter.unusedVariables false
set_option linter.unusedSimpArgs false
namespace Go.Proofs.YtclollnicbcooaaDoor.P
open Go.Proofs.YtclollnicbcooaaDoor.Base Go.RowKit Go.Proofs.YtclollnicbcooaaDoorW.PrintWords Go.Proofs.YtclollnicbcooaaDoorW.PrintLast Go.Proofs.YtclollnicbcooaaDoorW.PrintMore

section
variable (nT nS : Int) (es : List Bool) (fs : List Int)
/-- What one symbol more tells: what is behind it. -/
def folMore (srt s : Int) (l : List Int) (out : List Int) : Int := Go.bits .or .u64 (rdOf 0 out (IntKind.i64.wrap (-1 - s))) ((rowF nT nS es fs (rdOf 0 out srt) l 0).getD 0)
def folSym (srt : Int) : List Int → List Int × Bool → List Int × Bool
 | [], st => st
 | s :: l, st => folSym srt l (if 0 ≤ s then st else (st.1.set (IntKind.i64.wrap (-1 - s)).toNat (folMore nT nS es fs srt s l st.1), st.2 || decide (folMore nT nS es fs srt s l st.1 ≠ rdOf 0 st.1 (IntKind.i64.wrap (-1 - s)))))
def folPass : List S64 → List Int × Bool → List Int × Bool
 | [], st => st
 | p :: ps, st => folPass ps (folSym nT nS es fs p.f1 p.f2 st)
def folG (ps : List S64) : Nat → List Int → Option (List Int)
 | 0, _ => none
 | k + 1, xs => if (folPass nT nS es fs ps (xs, false)).2 = true then folG ps k (folPass nT nS es fs ps (xs, false)).1 else some (folPass nT nS es fs ps (xs, false)).1
theorem folPass_drop (ps : List S64) (k : Nat) (hk : k < ps.length) (st : List Int × Bool) : folPass nT nS es fs (ps.drop k) st = folPass nT nS es fs (ps.drop (k + 1)) (folSym nT nS es fs ps[k].f1 ps[k].f2 st) := by
 rw [List.drop_eq_getElem_cons hk]; rfl
theorem folSym_drop (srt : Int) (l : List Int) (k : Nat) (hk : k < l.length) (st : List Int × Bool) :
  folSym nT nS es fs srt (l.drop k) st = folSym nT nS es fs srt (l.drop (k + 1)) (if 0 ≤ l[k] then st else (st.1.set (IntKind.i64.wrap (-1 - l[k])).toNat (folMore nT nS es fs srt l[k] (l.drop (k + 1)) st.1), st.2 || decide (folMore nT nS es fs srt l[k] (l.drop (k + 1)) st.1 ≠ rdOf 0 st.1 (IntKind.i64.wrap (-1 - l[k]))))) := by
 rw [List.drop_eq_getElem_cons hk]; rfl
end

def sets_Follow.f (k : Nat) (l0 : List S82) (l1 : List S101) (l2 : List ByteArray) (l3 : List S64) (st : Int) : Option (List Int) :=
 if validB l0 l1 l2 l3 st = true then (sets_Empty.f k l0 l1 l2 l3 st).bind fun es => (growG (0 : Int) (moreS l0.length l2.length es) l3 k (List.replicate l2.length 0)).bind fun fs =>
  (bits_Of.f k [63]).bind fun eo => folG l0.length l2.length es fs l3 k ((List.replicate l2.length 0).set st.toNat eo) else some []

end Go.Proofs.YtclollnicbcooaaDoor.P
end
