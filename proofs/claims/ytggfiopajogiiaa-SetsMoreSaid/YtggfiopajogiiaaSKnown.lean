/- sets.known: what is known of a grammar that may be; nil of one that may not. -/
import Derived.Test.YtggfiopajogiiaaPx0
import Derived.Test.YtggfiopajogiiaaPx1
import Derived.Test.YtggfiopajogiiaaSAll
import Derived.Test.YtggfiopajogiiaaSGrowS
import Derived.Deep.RegionHeld3
set_option linter.unusedVariables false
set_option linter.unusedSimpArgs false
namespace Go.Proofs.Ytggfiopajogiiaa.P
open Go.Proofs.Ytggfiopajogiiaa.Base Go.RowKit Go.Proofs.YtggfiopajogiiaaW.PrintWords Go.Proofs.YtggfiopajogiiaaW.PrintLast Go.Proofs.YtggfiopajogiiaaW.PrintMore

theorem made_sets (n : Nat) : madeCells #[.int .u64 0] n = Array.replicate n (Value.int .u64 0) := by
  apply Array.ext
  · simp [madeCells]
  · intro i h1 h2
    simp [madeCells, Nat.mod_one]

theorem make_sets (n : Nat) (h : n ≤ 60) (w : World) : (Instr.makeSlice 36 (.int .i64 n) (.int .i64 n)).run Try.prog w = .ok (.slice (some ⟨w.heap.size, 0, none⟩) n n) (w.alloc (.cells (Array.replicate n (.int .u64 0)) 30)) := by
  obtain ⟨i0, hi, hzz⟩ := Option.map_eq_some_iff.1 info30
  simp only [Prod.mk.injEq] at hzz
  obtain ⟨hz0, hz1, hz2⟩ := hzz
  have hr := run_make (P := Try.prog) w 36 30 i0 (.int .u64 0) Try.underlying36 hi hz0 .i64 .i64 (n : Int) (n : Int) (by omega) (by omega) (by rw [hz2]; omega) (by omega)
  simp only [Int.toNat_natCast] at hr
  rw [hz1, Nat.mul_one] at hr
  rw [hr, show (Value.int .u64 0).cells = #[.int .u64 0] from rfl, made_sets]

theorem blk_new (w : World) (o : Obj) : (w.alloc o).heap[w.heap.size]? = some o := by
  show (w.heap.push o)[w.heap.size]? = some o
  simp

theorem R_fresh (n base : Nat) (h : n ≤ 60) (w : World) (hb : base ≤ w.heap.size) : Kd.R (Kd.int .u64) 30 (w.alloc (.cells (Array.replicate n (.int .u64 0)) 30)) base (fun k => k = w.heap.size) (.slice (some ⟨w.heap.size, 0, none⟩) n n) (List.replicate n (0 : Int)) := by
  refine Kd.R_of_own (enc := fun x => Value.int .u64 x) ⟨by simp [encs], .inr ⟨w.heap.size, n, Array.replicate n (.int .u64 0), by simp, hb, blk_new w _, by simp, by simp [maxLen]; omega, by simp, by simp [encs]⟩⟩ (fun k hk => ?_)
  simp only [Value.ownBlock] at hk
  injection hk with hk
  exact hk.symm

theorem R_fresh_at (n base g : Nat) (h : n ≤ 60) (w : World) (hg : w.heap.size = g) (hb : base ≤ g) : Kd.R (Kd.int .u64) 30 (w.alloc (.cells (Array.replicate n (.int .u64 0)) 30)) base (fun k => k = g) (.slice (some ⟨g, 0, none⟩) n n) (List.replicate n (0 : Int)) := by
  subst hg; exact R_fresh n base h w hb

theorem R_kept {w3 w4 : World} {B G b3 : Nat} {v : Value} {es : List Bool} (hR : Kd.R Kd.bool 4 w4 B (fun _ => True) v es) (hB : w3.heap.size ≤ B) (hG : ∀ k, B ≤ k → k < w4.heap.size → k ≠ G ∧ k ≠ b3) : Kd.R Kd.bool 4 w4 w3.heap.size (fun k => k ≠ G ∧ k ≠ b3) v es :=
  Kd.R_lower (Kd.R_mono (Kd.R_bound hR) fun k hk => hG k hk.2.1 hk.2.2.1) hB

theorem growG_length {β : Type} [DecidableEq β] (z : β) (more : List β → S45 → β) (ps : List S45) : ∀ (k : Nat) (xs r : List β), growG z more ps k xs = some r → r.length = xs.length := by
  have hp : ∀ (ps : List S45) (st : List β × Bool), (passG z more ps st).1.length = st.1.length := by
    intro ps
    induction ps with
    | nil => intro st; rfl
    | cons p ps ih =>
      intro st
      unfold passG
      rw [ih]
      split <;> simp
  intro k
  induction k with
  | zero => intro xs r h; cases h
  | succ k ih =>
    intro xs r h
    unfold growG at h
    split at h
    · rw [ih _ _ h, hp]
    · injection h with h; rw [← h, hp]

theorem known_nil (A0 : Option Addr) (c0 : Nat) (l0 : List S51) (A1 : Option Addr) (c1 : Nat) (l1 : List S63) (A2 : Option Addr) (c2 : Nat) (l2 : List ByteArray) (A3 : Option Addr) (c3 : Nat) (l3 : List S45) (st : Int) (w : World)
    (hr0 : Kd.C k51 w A0 l0.length l0) (hr1 : Kd.C k63 w A1 l1.length l1) (hr2 : Kd.C Kd.string w A2 l2.length l2) (hr3 : Kd.C k45 w A3 l3.length l3) (hv : validB l0 l1 l2 l3 st = false) :
    Calls Try.prog 29 #[.agg #[.slice A0 l0.length c0, .slice A1 l1.length c1, .slice A2 l2.length c2, .slice A3 l3.length c3, .int .i64 st]] w fun e w' => e = .returned (.pointer none) ∧ Below w.heap.size w w' := by
  have HB : Aside0 (Below w.heap.size w (w.alloc (Obj.cells #[.slice A0 l0.length c0, .slice A1 l1.length c1, .slice A2 l2.length c2, .slice A3 l3.length c3, .int .i64 st] 27))) := ⟨below_alloc (Below.refl _ _) _⟩
  have hval : Aside0 (Calls Try.prog 23 #[.agg #[.slice A0 l0.length c0, .slice A1 l1.length c1, .slice A2 l2.length c2, .slice A3 l3.length c3, .int .i64 st]] (w.alloc (Obj.cells #[.slice A0 l0.length c0, .slice A1 l1.length c1, .slice A2 l2.length c2, .slice A3 l3.length c3, .int .i64 st] 27)) fun e w' => e = .returned (.bool false) ∧ Below (w.alloc (Obj.cells #[.slice A0 l0.length c0, .slice A1 l1.length c1, .slice A2 l2.length c2, .slice A3 l3.length c3, .int .i64 st] 27)).heap.size (w.alloc (Obj.cells #[.slice A0 l0.length c0, .slice A1 l1.length c1, .slice A2 l2.length c2, .slice A3 l3.length c3, .int .i64 st] 27)) w') := ⟨by
    have := valid_calls A0 c0 l0 A1 c1 l1 A2 c2 l2 A3 c3 l3 st (w.alloc (Obj.cells #[.slice A0 l0.length c0, .slice A1 l1.length c1, .slice A2 l2.length c2, .slice A3 l3.length c3, .int .i64 st] 27)) (Kd.C_below hr0 HB.out) (Kd.C_below hr1 HB.out) (Kd.C_below hr2 HB.out) (Kd.C_below hr3 HB.out)
    rwa [hv] at this⟩
  have hu27 := Try.underlying27
  clear hr0 hr1 hr2 hr3 hv
  go_enter Try.func29, Try.ntmps29
  go_wp2_with (go_at_call 23; refine hval.out.mono ?_; rintro e w3 ⟨rfl, hb3⟩; replace hb3 := Aside0.mk hb3)
  go_ret
  exact ⟨rfl, below_step HB.out hb3.out⟩

set_option maxHeartbeats 8000000 in
theorem known_calls (k : Nat) (A0 : Option Addr) (c0 : Nat) (l0 : List S51) (A1 : Option Addr) (c1 : Nat) (l1 : List S63) (A2 : Option Addr) (c2 : Nat) (l2 : List ByteArray) (A3 : Option Addr) (c3 : Nat) (l3 : List S45) (st : Int) (es : List Bool) (fs : List Int) (w : World)
    (hr0 : Kd.C k51 w A0 l0.length l0) (hc0 : l0.length ≤ c0) (hr1 : Kd.C k63 w A1 l1.length l1) (hc1 : l1.length ≤ c1) (hr2 : Kd.C Kd.string w A2 l2.length l2) (hc2 : l2.length ≤ c2) (hr3 : Kd.C k45 w A3 l3.length l3) (hc3 : l3.length ≤ c3)
    (hv : validB l0 l1 l2 l3 st = true) (he : sets_Empty.f k l0 l1 l2 l3 st = some es) (hen : es.length = l2.length) (hf : growG (0 : Int) (moreS l0.length l2.length es) l3 k (List.replicate l2.length 0) = some fs)
    (hs : ∀ p ∈ l3, (0 ≤ p.f1 ∧ p.f1 < l2.length) ∧ ∀ xs, ∃ q, rowF l0.length l2.length es xs 0 p.f2 0 = some q) :
    Calls Try.prog 29 #[.agg #[.slice A0 l0.length c0, .slice A1 l1.length c1, .slice A2 l2.length c2, .slice A3 l3.length c3, .int .i64 st]] w fun e w' => ∃ (tb G cap dE : Nat) (E : Option Addr), e = .returned (.pointer (some ⟨tb, 0, none⟩)) ∧
      w'.cell? ⟨tb, 0, none⟩ = some (.slice A0 l0.length c0) ∧ w'.cell? ⟨tb, 2, none⟩ = some (.slice A2 l2.length c2) ∧ w'.cell? ⟨tb, 5, none⟩ = some (.slice E l2.length dE) ∧ w'.cell? ⟨tb, 6, none⟩ = some (.slice (some ⟨G, 0, none⟩) l2.length cap) ∧
      Kd.C Kd.bool w' E l2.length es ∧ Kd.R (Kd.int .u64) 30 w' w.heap.size (fun _ => True) (.slice (some ⟨G, 0, none⟩) l2.length cap) fs ∧ Below w.heap.size w w' := by
  have HR0 := Aside0.mk hr0
  have HR1 := Aside0.mk hr1
  have HR2 := Aside0.mk hr2
  have HR3 := Aside0.mk hr3
  have HC := Aside0.mk (And.intro hc0 (And.intro hc1 (And.intro hc2 hc3)))
  have HE := Aside0.mk he
  have HF := Aside0.mk hf
  have HS := Aside0.mk hs
  have hvh := Aside0.mk (valid_has hv)
  have HEN := Aside0.mk hen
  have HB : Aside0 (Below w.heap.size w (w.alloc (Obj.cells #[.slice A0 l0.length c0, .slice A1 l1.length c1, .slice A2 l2.length c2, .slice A3 l3.length c3, .int .i64 st] 27))) := ⟨below_alloc (Below.refl _ _) _⟩
  have hval : Aside0 (Calls Try.prog 23 #[.agg #[.slice A0 l0.length c0, .slice A1 l1.length c1, .slice A2 l2.length c2, .slice A3 l3.length c3, .int .i64 st]] (w.alloc (Obj.cells #[.slice A0 l0.length c0, .slice A1 l1.length c1, .slice A2 l2.length c2, .slice A3 l3.length c3, .int .i64 st] 27)) fun e w' => e = .returned (.bool true) ∧ Below (w.alloc (Obj.cells #[.slice A0 l0.length c0, .slice A1 l1.length c1, .slice A2 l2.length c2, .slice A3 l3.length c3, .int .i64 st] 27)).heap.size (w.alloc (Obj.cells #[.slice A0 l0.length c0, .slice A1 l1.length c1, .slice A2 l2.length c2, .slice A3 l3.length c3, .int .i64 st] 27)) w') := ⟨by
    have := valid_calls A0 c0 l0 A1 c1 l1 A2 c2 l2 A3 c3 l3 st (w.alloc (Obj.cells #[.slice A0 l0.length c0, .slice A1 l1.length c1, .slice A2 l2.length c2, .slice A3 l3.length c3, .int .i64 st] 27)) (Kd.C_below hr0 HB.out) (Kd.C_below hr1 HB.out) (Kd.C_below hr2 HB.out) (Kd.C_below hr3 HB.out)
    rwa [hv] at this⟩
  have hu27 := Try.underlying27
  have hu56 := Try.underlying56
  have f0 : (w.alloc (Obj.cells #[.slice A0 l0.length c0, .slice A1 l1.length c1, .slice A2 l2.length c2, .slice A3 l3.length c3, .int .i64 st] 27)).cell? ⟨w.heap.size, 0, none⟩ = some (.slice A0 l0.length c0) := by go_simp
  have f1 : (w.alloc (Obj.cells #[.slice A0 l0.length c0, .slice A1 l1.length c1, .slice A2 l2.length c2, .slice A3 l3.length c3, .int .i64 st] 27)).cell? ⟨w.heap.size, 1, none⟩ = some (.slice A1 l1.length c1) := by go_simp
  have f2 : (w.alloc (Obj.cells #[.slice A0 l0.length c0, .slice A1 l1.length c1, .slice A2 l2.length c2, .slice A3 l3.length c3, .int .i64 st] 27)).cell? ⟨w.heap.size, 2, none⟩ = some (.slice A2 l2.length c2) := by go_simp
  have f3 : (w.alloc (Obj.cells #[.slice A0 l0.length c0, .slice A1 l1.length c1, .slice A2 l2.length c2, .slice A3 l3.length c3, .int .i64 st] 27)).cell? ⟨w.heap.size, 3, none⟩ = some (.slice A3 l3.length c3) := by go_simp
  have f4 : (w.alloc (Obj.cells #[.slice A0 l0.length c0, .slice A1 l1.length c1, .slice A2 l2.length c2, .slice A3 l3.length c3, .int .i64 st] 27)).cell? ⟨w.heap.size, 4, none⟩ = some (.int .i64 st) := by go_simp
  replace f0 := Aside0.mk f0
  replace f1 := Aside0.mk f1
  replace f2 := Aside0.mk f2
  replace f3 := Aside0.mk f3
  replace f4 := Aside0.mk f4
  clear hr0 hr1 hr2 hr3 hv hc0 hc1 hc2 hc3 he hf hs hen
  go_enter Try.func29, Try.ntmps29
  go_upto_region 3 with (go_at_call 23; refine hval.out.mono ?_; rintro e w3 ⟨rfl, hb3⟩; replace hb3 := Aside0.mk hb3)
  have F0 := pw_cell_below hb3.out f0.out
  have F1 := pw_cell_below hb3.out f1.out
  have F2 := pw_cell_below hb3.out f2.out
  have F3 := pw_cell_below hb3.out f3.out
  have F4 := pw_cell_below hb3.out f4.out
  have HW3 : Aside0 (Below w.heap.size w w3) := ⟨below_step HB.out hb3.out⟩
  have hgb : Aside0 (w.heap.size < w3.heap.size) := ⟨Nat.lt_of_lt_of_le (by simp) hb3.out.size⟩
  clear f0 f1 f2 f3 f4 hb3 hval HB
  generalize hg : w.heap.size = gb at F0 F1 F2 F3 F4 hgb ⊢
  have HGB := Aside0.mk hg
  clear hg
  have E0 := Aside0.mk F0
  have E1 := Aside0.mk F1
  have E2 := Aside0.mk F2
  have E3 := Aside0.mk F3
  have E4 := Aside0.mk F4
  go_cut [3] from 7 to 15 (fun s3 wr => ∃ (b3 tb G cap dE : Nat) (E : Option Addr), s3 = .pointer (some ⟨b3, 0, none⟩) ∧ Aside0 (wr.cell? ⟨b3, 0, none⟩ = some (.pointer (some ⟨tb, 0, none⟩)) ∧
      wr.cell? ⟨tb, 0, none⟩ = some (.slice A0 l0.length c0) ∧ wr.cell? ⟨tb, 2, none⟩ = some (.slice A2 l2.length c2) ∧ wr.cell? ⟨tb, 5, none⟩ = some (.slice E l2.length dE) ∧ wr.cell? ⟨tb, 6, none⟩ = some (.slice (some ⟨G, 0, none⟩) l2.length cap)) ∧
      Aside0 (Kd.R Kd.bool 4 wr w3.heap.size (fun k => k ≠ G) (.slice E l2.length dE) es) ∧ Aside0 (Kd.R (Kd.int .u64) 30 wr w3.heap.size (fun _ => True) (.slice (some ⟨G, 0, none⟩) l2.length cap) (List.replicate l2.length 0)) ∧ Aside0 (b3 ≠ G ∧ tb ≠ G ∧ w3.heap.size ≤ G ∧ G < wr.heap.size ∧ Below w3.heap.size w3 wr))
  case first =>
    have hmk := make_sets l2.length hvh.out.1
    have X0 := Aside0.mk (Kd.C_below HR0.out HW3.out)
    have X1 := Aside0.mk (Kd.C_below HR1.out HW3.out)
    have X2 := Aside0.mk (Kd.C_below HR2.out HW3.out)
    have X3 := Aside0.mk (Kd.C_below HR3.out HW3.out)
    have n0 := World.new_ne w3 _ F0
    have n1 : ¬ w3.heap.size + 1 = gb := by have := hgb.out; omega
    have n2 : ¬ gb = w3.heap.size := by have := hgb.out; omega
    have n3 : ¬ gb = w3.heap.size + 1 := by have := hgb.out; omega
    go_region_held3 (fun w' => w'.cell? ⟨gb, 0, none⟩ = some (.slice A0 l0.length c0) ∧ w'.cell? ⟨gb, 1, none⟩ = some (.slice A1 l1.length c1) ∧ w'.cell? ⟨gb, 2, none⟩ = some (.slice A2 l2.length c2) ∧ w'.cell? ⟨gb, 3, none⟩ = some (.slice A3 l3.length c3) ∧ w'.cell? ⟨gb, 4, none⟩ = some (.int .i64 st)) (first | (go_keep; done) | (have hb34' := hb34; exact ⟨pw_cell_below (w := w3) (by repeat (first | exact hb34.out | exact Below.refl _ _ | apply below_alloc | apply below_drew | refine Below.setCell ?_ (by first | exact Nat.le_refl _ | exact Nat.le_succ _) _)) F0, pw_cell_below (w := w3) (by repeat (first | exact hb34.out | exact Below.refl _ _ | apply below_alloc | apply below_drew | refine Below.setCell ?_ (by first | exact Nat.le_refl _ | exact Nat.le_succ _) _)) F1, pw_cell_below (w := w3) (by repeat (first | exact hb34.out | exact Below.refl _ _ | apply below_alloc | apply below_drew | refine Below.setCell ?_ (by first | exact Nat.le_refl _ | exact Nat.le_succ _) _)) F2, pw_cell_below (w := w3) (by repeat (first | exact hb34.out | exact Below.refl _ _ | apply below_alloc | apply below_drew | refine Below.setCell ?_ (by first | exact Nat.le_refl _ | exact Nat.le_succ _) _)) F3, pw_cell_below (w := w3) (by repeat (first | exact hb34.out | exact Below.refl _ _ | apply below_alloc | apply below_drew | refine Below.setCell ?_ (by first | exact Nat.le_refl _ | exact Nat.le_succ _) _)) F4⟩) | exact ⟨pw_cell_below (w := w3) (by repeat (first | exact Below.refl _ _ | apply below_alloc | apply below_drew | refine Below.setCell ?_ (by first | exact Nat.le_refl _ | exact Nat.le_succ _) _)) F0, pw_cell_below (w := w3) (by repeat (first | exact Below.refl _ _ | apply below_alloc | apply below_drew | refine Below.setCell ?_ (by first | exact Nat.le_refl _ | exact Nat.le_succ _) _)) F1, pw_cell_below (w := w3) (by repeat (first | exact Below.refl _ _ | apply below_alloc | apply below_drew | refine Below.setCell ?_ (by first | exact Nat.le_refl _ | exact Nat.le_succ _) _)) F2, pw_cell_below (w := w3) (by repeat (first | exact Below.refl _ _ | apply below_alloc | apply below_drew | refine Below.setCell ?_ (by first | exact Nat.le_refl _ | exact Nat.le_succ _) _)) F3, pw_cell_below (w := w3) (by repeat (first | exact Below.refl _ _ | apply below_alloc | apply below_drew | refine Below.setCell ?_ (by first | exact Nat.le_refl _ | exact Nat.le_succ _) _)) F4⟩)
      (first | (go_at_call 12; refine (sets_Empty.calls k _ _ l0 _ _ l1 _ _ l2 _ _ l3 st es _ ?_ HC.out.1 ?_ HC.out.2.1 ?_ HC.out.2.2.1 ?_ HC.out.2.2.2 HE.out).mono ?_; exact Kd.C_below X0.out (by repeat (first | exact Below.refl _ _ | apply below_alloc | apply below_drew)); exact Kd.C_below X1.out (by repeat (first | exact Below.refl _ _ | apply below_alloc | apply below_drew)); exact Kd.C_below X2.out (by repeat (first | exact Below.refl _ _ | apply below_alloc | apply below_drew)); exact Kd.C_below X3.out (by repeat (first | exact Below.refl _ _ | apply below_alloc | apply below_drew)); rintro e w4 ⟨v0, rfl, hR4, hB4⟩; obtain ⟨EA, dE, rfl⟩ := Kd.R_slice hR4; have hb34 := below_step (w := w3) (by repeat (first | exact Below.refl _ _ | apply below_alloc | apply below_drew)) hB4; have y0 := pw_cell_below hb34 E0.out; have y1 := pw_cell_below hb34 E1.out; have y2 := pw_cell_below hb34 E2.out; have y3 := pw_cell_below hb34 E3.out; have y4 := pw_cell_below hb34 E4.out; replace hb34 := Aside0.mk hb34; replace hR4 := Aside0.mk hR4; replace hB4 := Aside0.mk hB4; have n4 := World.new_ne w4 _ y0; (first | (by_cases t0 : w4.cell? ⟨w3.heap.size, 0, none⟩ = some (.pointer none); rotate_left; (focus (exfalso; refine t0 (pw_cell_below hB4.out ?_); go_simp; done)); (by_cases z0 : w4.frozen? ⟨w3.heap.size, 0, none⟩ = false; rotate_left; (focus (exfalso; refine z0 ((hB4.out.frozen ?_).trans ?_); (focus (first | (simp; done) | (simp; omega) | (simp only [World.size_alloc, World.size_drew]; omega))); (focus (go_simp; done))))); have m0 := World.new_ne w4 _ t0; have l0_ : w3.heap.size < w4.heap.size := World.block_lt_of_cell? w4 _ t0; have l0b : w3.heap.size < w4.heap.size + 1 := Nat.lt_succ_of_lt l0_; have l0c : w3.heap.size < w4.heap.size + 1 + 1 := Nat.lt_succ_of_lt l0b) | skip); (first | (by_cases t1 : w4.cell? ⟨w3.heap.size + 1, 0, none⟩ = some (.pointer none); rotate_left; (focus (exfalso; refine t1 (pw_cell_below hB4.out ?_); go_simp; done)); (by_cases z1 : w4.frozen? ⟨w3.heap.size + 1, 0, none⟩ = false; rotate_left; (focus (exfalso; refine z1 ((hB4.out.frozen ?_).trans ?_); (focus (first | (simp; done) | (simp; omega) | (simp only [World.size_alloc, World.size_drew]; omega))); (focus (go_simp; done))))); have m1 := World.new_ne w4 _ t1; have l1_ : w3.heap.size + 1 < w4.heap.size := World.block_lt_of_cell? w4 _ t1; have l1b : w3.heap.size < w4.heap.size := Nat.lt_of_succ_lt l1_; have l1c : w3.heap.size < w4.heap.size + 1 := Nat.lt_succ_of_lt l1b) | skip)))
    · have hs := hB4.out.size
      simp at hs
      go_wp2_with fail
      go_meet
      exact ⟨w4.heap.size + 1 + 1, w4.heap.size + 1, w4.heap.size, l2.length, dE, EA, rfl, ⟨by go_simp, by go_simp, by go_simp, by rw [← HEN.out]; go_simp, by go_simp⟩,
        ⟨by rw [← HEN.out]; exact Kd.R_mono (ok := fun k => k ≠ w4.heap.size ∧ k ≠ w4.heap.size + 1 + 1) (by (repeat (with_reducible first | apply Kd.R_alloc | refine Kd.R_far ?_ (fun k hk => hk.2) _)); exact R_kept hR4.out (by first | omega | (simp; done) | (simp; omega)) (by intro k h1 h2; simp at h1; omega)) (fun k hk => hk.1)⟩,
        ⟨Kd.R_mono (ok := fun k => k = w4.heap.size) (by (repeat (with_reducible first | refine R_fresh_at _ _ _ hvh.out.1 _ ?_ ?_ | apply Kd.R_drew | apply Kd.R_alloc)); all_goals (first | omega | (simp; done) | (simp; omega))) (fun _ _ => trivial)⟩,
        ⟨by omega, by omega, by omega, by simp; try omega, by repeat (first | exact hb34.out | apply below_alloc | refine Below.setCell ?_ (by first | exact Nat.le_refl _ | exact Nat.le_succ _) _)⟩⟩
    · have hs := hB4.out.size
      simp at hs
      go_wp2_with fail
      go_meet
      exact ⟨w4.heap.size + 1, w4.heap.size + 1 + 1, w4.heap.size, l2.length, dE, EA, rfl, ⟨by go_simp, by go_simp, by go_simp, by rw [← HEN.out]; go_simp, by go_simp⟩,
        ⟨by rw [← HEN.out]; exact Kd.R_mono (ok := fun k => k ≠ w4.heap.size ∧ k ≠ w4.heap.size + 1) (by (repeat (with_reducible first | apply Kd.R_alloc | refine Kd.R_far ?_ (fun k hk => hk.2) _)); exact R_kept hR4.out (by first | omega | (simp; done) | (simp; omega)) (by intro k h1 h2; simp at h1; omega)) (fun k hk => hk.1)⟩,
        ⟨Kd.R_mono (ok := fun k => k = w4.heap.size) (by (repeat (with_reducible first | refine R_fresh_at _ _ _ hvh.out.1 _ ?_ ?_ | apply Kd.R_drew | apply Kd.R_alloc)); all_goals (first | omega | (simp; done) | (simp; omega))) (fun _ _ => trivial)⟩,
        ⟨by omega, by omega, by omega, by simp; try omega, by repeat (first | exact hb34.out | apply below_alloc | refine Below.setCell ?_ (by first | exact Nat.le_refl _ | exact Nat.le_succ _) _)⟩⟩
    · have hs := hB4.out.size
      simp at hs
      go_wp2_with fail
      go_meet
      exact ⟨w4.heap.size, w4.heap.size + 1 + 1, w4.heap.size + 1, l2.length, dE, EA, rfl, ⟨by go_simp, by go_simp, by go_simp, by rw [← HEN.out]; go_simp, by go_simp⟩,
        ⟨by rw [← HEN.out]; exact Kd.R_mono (ok := fun k => k ≠ w4.heap.size + 1 ∧ k ≠ w4.heap.size) (by (repeat (with_reducible first | apply Kd.R_alloc | refine Kd.R_far ?_ (fun k hk => hk.2) _)); exact R_kept hR4.out (by first | omega | (simp; done) | (simp; omega)) (by intro k h1 h2; simp at h1; omega)) (fun k hk => hk.1)⟩,
        ⟨Kd.R_mono (ok := fun k => k = w4.heap.size + 1) (by (repeat (with_reducible first | refine R_fresh_at _ _ _ hvh.out.1 _ ?_ ?_ | apply Kd.R_drew | apply Kd.R_alloc)); all_goals (first | omega | (simp; done) | (simp; omega))) (fun _ _ => trivial)⟩,
        ⟨by omega, by omega, by omega, by simp; try omega, by repeat (first | exact hb34.out | apply below_alloc | refine Below.setCell ?_ (by first | exact Nat.le_refl _ | exact Nat.le_succ _) _)⟩⟩
    · have hs := hB4.out.size
      simp at hs
      go_wp2_with fail
      go_meet
      exact ⟨w4.heap.size + 1, w4.heap.size, w3.heap.size, l2.length, dE, EA, rfl, ⟨by go_simp, by go_simp, by go_simp, by rw [← HEN.out]; go_simp, by go_simp⟩,
        ⟨by rw [← HEN.out]; exact Kd.R_mono (ok := fun k => k ≠ w3.heap.size ∧ k ≠ w4.heap.size + 1) (by (repeat (with_reducible first | apply Kd.R_alloc | refine Kd.R_far ?_ (fun k hk => hk.2) _)); exact R_kept hR4.out (by first | omega | (simp; done) | (simp; omega)) (by intro k h1 h2; simp at h1; omega)) (fun k hk => hk.1)⟩,
        ⟨Kd.R_mono (ok := fun k => k = w3.heap.size) (by (repeat (with_reducible first | apply Kd.R_alloc | refine Kd.R_far ?_ (fun k hk => by rw [hk]; simp) _)); refine Kd.R_below ?_ hB4.out; (repeat (with_reducible first | refine R_fresh_at _ _ _ hvh.out.1 _ ?_ ?_ | apply Kd.R_drew | apply Kd.R_alloc)); all_goals (first | omega | (simp; done) | (simp; omega))) (fun _ _ => trivial)⟩,
        ⟨by omega, by omega, by omega, by simp; try omega, by repeat (first | exact hb34.out | apply below_alloc | refine Below.setCell ?_ (by first | exact Nat.le_refl _ | exact Nat.le_succ _) _)⟩⟩
    · have hs := hB4.out.size
      simp at hs
      go_wp2_with fail
      go_meet
      exact ⟨w4.heap.size, w4.heap.size + 1, w3.heap.size, l2.length, dE, EA, rfl, ⟨by go_simp, by go_simp, by go_simp, by rw [← HEN.out]; go_simp, by go_simp⟩,
        ⟨by rw [← HEN.out]; exact Kd.R_mono (ok := fun k => k ≠ w3.heap.size ∧ k ≠ w4.heap.size) (by (repeat (with_reducible first | apply Kd.R_alloc | refine Kd.R_far ?_ (fun k hk => hk.2) _)); exact R_kept hR4.out (by first | omega | (simp; done) | (simp; omega)) (by intro k h1 h2; simp at h1; omega)) (fun k hk => hk.1)⟩,
        ⟨Kd.R_mono (ok := fun k => k = w3.heap.size) (by (repeat (with_reducible first | apply Kd.R_alloc | refine Kd.R_far ?_ (fun k hk => by rw [hk]; simp) _)); refine Kd.R_below ?_ hB4.out; (repeat (with_reducible first | refine R_fresh_at _ _ _ hvh.out.1 _ ?_ ?_ | apply Kd.R_drew | apply Kd.R_alloc)); all_goals (first | omega | (simp; done) | (simp; omega))) (fun _ _ => trivial)⟩,
        ⟨by omega, by omega, by omega, by simp; try omega, by repeat (first | exact hb34.out | apply below_alloc | refine Below.setCell ?_ (by first | exact Nat.le_refl _ | exact Nat.le_succ _) _)⟩⟩
    · have hs := hB4.out.size
      simp at hs
      go_wp2_with fail
      go_meet
      exact ⟨w3.heap.size + 1, w4.heap.size, w3.heap.size, l2.length, dE, EA, rfl, ⟨by go_simp, by go_simp, by go_simp, by rw [← HEN.out]; go_simp, by go_simp⟩,
        ⟨by rw [← HEN.out]; exact Kd.R_mono (ok := fun k => k ≠ w3.heap.size ∧ k ≠ w3.heap.size + 1) (by (repeat (with_reducible first | apply Kd.R_alloc | refine Kd.R_far ?_ (fun k hk => hk.2) _)); exact R_kept hR4.out (by first | omega | (simp; done) | (simp; omega)) (by intro k h1 h2; simp at h1; omega)) (fun k hk => hk.1)⟩,
        ⟨Kd.R_mono (ok := fun k => k = w3.heap.size) (by (repeat (with_reducible first | apply Kd.R_alloc | refine Kd.R_far ?_ (fun k hk => by rw [hk]; simp) _)); refine Kd.R_below ?_ hB4.out; (repeat (with_reducible first | refine R_fresh_at _ _ _ hvh.out.1 _ ?_ ?_ | apply Kd.R_drew | apply Kd.R_alloc)); all_goals (first | omega | (simp; done) | (simp; omega))) (fun _ _ => trivial)⟩,
        ⟨by omega, by omega, by omega, by simp; try omega, by repeat (first | exact hb34.out | apply below_alloc | refine Below.setCell ?_ (by first | exact Nat.le_refl _ | exact Nat.le_succ _) _)⟩⟩
    · have hs := hB4.out.size
      simp at hs
      go_wp2_with fail
      go_meet
      exact ⟨w3.heap.size, w4.heap.size + 1, w4.heap.size, l2.length, dE, EA, rfl, ⟨by go_simp, by go_simp, by go_simp, by rw [← HEN.out]; go_simp, by go_simp⟩,
        ⟨by rw [← HEN.out]; exact Kd.R_mono (ok := fun k => k ≠ w4.heap.size ∧ k ≠ w3.heap.size) (by (repeat (with_reducible first | apply Kd.R_alloc | refine Kd.R_far ?_ (fun k hk => hk.2) _)); exact R_kept hR4.out (by first | omega | (simp; done) | (simp; omega)) (by intro k h1 h2; simp at h1; omega)) (fun k hk => hk.1)⟩,
        ⟨Kd.R_mono (ok := fun k => k = w4.heap.size) (by (repeat (with_reducible first | refine R_fresh_at _ _ _ hvh.out.1 _ ?_ ?_ | apply Kd.R_drew | apply Kd.R_alloc)); all_goals (first | omega | (simp; done) | (simp; omega))) (fun _ _ => trivial)⟩,
        ⟨by omega, by omega, by omega, by simp; try omega, by repeat (first | exact hb34.out | apply below_alloc | refine Below.setCell ?_ (by first | exact Nat.le_refl _ | exact Nat.le_succ _) _)⟩⟩
    · have hs := hB4.out.size
      simp at hs
      go_wp2_with fail
      go_meet
      exact ⟨w3.heap.size, w4.heap.size, w3.heap.size + 1, l2.length, dE, EA, rfl, ⟨by go_simp, by go_simp, by go_simp, by rw [← HEN.out]; go_simp, by go_simp⟩,
        ⟨by rw [← HEN.out]; exact Kd.R_mono (ok := fun k => k ≠ w3.heap.size + 1 ∧ k ≠ w3.heap.size) (by (repeat (with_reducible first | apply Kd.R_alloc | refine Kd.R_far ?_ (fun k hk => hk.2) _)); exact R_kept hR4.out (by first | omega | (simp; done) | (simp; omega)) (by intro k h1 h2; simp at h1; omega)) (fun k hk => hk.1)⟩,
        ⟨Kd.R_mono (ok := fun k => k = w3.heap.size + 1) (by (repeat (with_reducible first | apply Kd.R_alloc | refine Kd.R_far ?_ (fun k hk => by rw [hk]; simp) _)); refine Kd.R_below ?_ hB4.out; (repeat (with_reducible first | refine R_fresh_at _ _ _ hvh.out.1 _ ?_ ?_ | apply Kd.R_drew | apply Kd.R_alloc)); all_goals (first | omega | (simp; done) | (simp; omega))) (fun _ _ => trivial)⟩,
        ⟨by omega, by omega, by omega, by simp; try omega, by repeat (first | exact hb34.out | apply below_alloc | refine Below.setCell ?_ (by first | exact Nat.le_refl _ | exact Nat.le_succ _) _)⟩⟩
  case rest =>
    obtain ⟨b3, tb, G, cap, dE, E, rfl, hcell, hE, hF, hN⟩ := hcut
    have hNB := Aside0.mk hN.out.2.2.2.2
    have hsz : Aside0 (b3 ≠ G ∧ tb ≠ G ∧ gb < G ∧ w3.heap.size ≤ G ∧ G < wc.heap.size) := ⟨hN.out.1, hN.out.2.1, Nat.lt_of_lt_of_le hgb.out hN.out.2.2.1, hN.out.2.2.1, hN.out.2.2.2.1⟩
    clear F0 F1 F2 F3 F4
    have F0 := pw_cell_below hNB.out E0.out
    have F1 := pw_cell_below hNB.out E1.out
    have F2 := pw_cell_below hNB.out E2.out
    have F3 := pw_cell_below hNB.out E3.out
    have F4 := pw_cell_below hNB.out E4.out
    have F5 := hcell.out.1
    have F6 := hcell.out.2.2.2.2
    have hmf : ∀ (fn : Fn) (first cap : Array Value) (w : World), (Instr.makeFunc fn first cap).run Try.prog w = .ok (.func fn first cap) w := fun _ _ _ _ => rfl
    have hEE : Aside0 (∀ wz wy : World, Below wc.heap.size wc wz → wz.grownBy wy (some G) → Kd.C Kd.bool wy E l2.length es) := ⟨fun wz wy hz hy => by
      have h1 := Kd.R_grown (Kd.R_below hE.out hz) hy (fun k hk e => hk (by injection e))
      have h2 := (Kd.R_reads' h1).2.2
      rwa [← (Kd.R_reads' h1).1] at h2⟩
    have hgrow : Aside0 (∀ wz : World, Below wc.heap.size wc wz → Calls Try.prog 48 #[.agg #[.slice A0 l0.length c0, .slice A1 l1.length c1, .slice A2 l2.length c2, .slice A3 l3.length c3, .int .i64 st], .slice (some ⟨G, 0, none⟩) l2.length cap, .func (.func 49) #[] #[.pointer (some ⟨b3, 0, none⟩)]] wz
        fun e w' => e = .returned (.slice (some ⟨G, 0, none⟩) l2.length cap) ∧ Kd.R (Kd.int .u64) 30 w' w3.heap.size (fun _ => True) (.slice (some ⟨G, 0, none⟩) l2.length cap) fs ∧ wz.grownBy w' (some G)) := ⟨fun wz hz =>
      grow_set k tb l0.length l2.length A0 A2 E c0 c2 dE es A0 c0 l0 A1 c1 l1 A2 c2 l2 A3 c3 l3 st b3 G cap w3.heap.size (fun _ => True) (List.replicate l2.length 0) fs w3 wz (Kd.C_below HR3.out HW3.out) (below_step hNB.out hz) hsz.out.2.2.2.1 (Nat.lt_of_lt_of_le hsz.out.2.2.2.2 hz.size) hvh.out.1
        (pw_cell_below hz hcell.out.1) (pw_cell_below hz hcell.out.2.1) (pw_cell_below hz hcell.out.2.2.1) (pw_cell_below hz hcell.out.2.2.2.1) (pw_cell_below hz hcell.out.2.2.2.2) (fun wy hy => hEE.out wz wy hz hy) hsz.out.1 hsz.out.2.1 (Kd.R_below hF.out hz) HS.out HF.out⟩
    have X0 := Aside0.mk F0
    have X1 := Aside0.mk F1
    have X2 := Aside0.mk F2
    have X3 := Aside0.mk F3
    have X4 := Aside0.mk F4
    have X5 := Aside0.mk F5
    have X6 := Aside0.mk F6
    clear E0 E1 E2 E3 E4
    go_upto_region 4 with fail
    go_region_held3 (fun w' => w'.cell? ⟨gb, 0, none⟩ = some (.slice A0 l0.length c0) ∧ w'.cell? ⟨gb, 1, none⟩ = some (.slice A1 l1.length c1) ∧ w'.cell? ⟨gb, 2, none⟩ = some (.slice A2 l2.length c2) ∧ w'.cell? ⟨gb, 3, none⟩ = some (.slice A3 l3.length c3) ∧ w'.cell? ⟨gb, 4, none⟩ = some (.int .i64 st) ∧ w'.cell? ⟨b3, 0, none⟩ = some (.pointer (some ⟨tb, 0, none⟩)) ∧ w'.cell? ⟨tb, 6, none⟩ = some (.slice (some ⟨G, 0, none⟩) l2.length cap)) (go_keep)
      (first | (go_at_call 48; refine (hgrow.out _ (by repeat (first | exact Below.refl _ _ | apply below_drew))).mono ?_; rintro e w6 ⟨rfl, hr6, hg6⟩; have hk := fun {a : Addr} {v : Value} (h : wc.cell? a = some v) (hn : a.block ≠ G) => World.grownBy.cell hg6 (a := a) (v := v) (pw_cell_below (by repeat (first | exact Below.refl _ _ | apply below_drew)) h) (fun e => hn (by injection e)); have y0 := hk X0.out (Nat.ne_of_lt hsz.out.2.2.1); have y1 := hk X1.out (Nat.ne_of_lt hsz.out.2.2.1); have y2 := hk X2.out (Nat.ne_of_lt hsz.out.2.2.1); have y3 := hk X3.out (Nat.ne_of_lt hsz.out.2.2.1); have y4 := hk X4.out (Nat.ne_of_lt hsz.out.2.2.1); have y5 := hk X5.out hsz.out.1; have y6 := hk X6.out hsz.out.2.1; have y7 := Aside0.mk (hk hcell.out.2.1 hsz.out.2.1); have y8 := Aside0.mk (hk hcell.out.2.2.1 hsz.out.2.1); have y9 := Aside0.mk (hk hcell.out.2.2.2.1 hsz.out.2.1); clear hk; replace hr6 := Aside0.mk hr6; replace hg6 := Aside0.mk hg6))
    go_wp2
    go_ret
    exact ⟨tb, G, cap, dE, E, rfl, y7.out, y8.out, y9.out, y6, hEE.out _ _ (by repeat (first | exact Below.refl _ _ | apply below_drew)) hg6.out, Kd.R_lower hr6.out (by first | exact HW3.out.size | (rw [← HGB.out]; exact HW3.out.size)), below_grown (below_drew (below_step HW3.out hNB.out)) hg6.out (by rw [HGB.out]; exact Nat.le_of_lt hsz.out.2.2.1)⟩

end Go.Proofs.Ytggfiopajogiiaa.P
