/- Texts of this claim put together: SKnown, SFirst, SOf, Lk6, Lk7, Lkz, Lk8, Lq, Lke, Lk, Ta, Tu, Tc. -/
import Derived.Test.YtclollnicbcooaaGreatDoorBz0
import Derived.Test.YtclollnicbcooaaGreatDoorBz2
import Derived.Deep.RegionHeld3
import Derived.Test.YtclollnicbcooaaGreatDoorBz1
import Derived.Deep.CutRange
import Derived.WalkMore
set_option linter.unusedVariables false
set_option linter.unusedSimpArgs false
set_option linter.unusedSectionVars false
namespace Go.Proofs.YtclollnicbcooaaGreatDoor.P
open YtclollnicbcooaaGreatDoor.Base Go.RowKit YtclollnicbcooaaGreatDoorW.PrintWords YtclollnicbcooaaGreatDoorW.PrintLast YtclollnicbcooaaGreatDoorW.PrintMore
theorem made_sets (n:Nat):madeCells #[.int .u64 0] n=Array.replicate n (Value.int .u64 0):=by
 apply Array.ext
 ·simp [madeCells]
 ·intro i h1 h2
  simp [madeCells,Nat.mod_one]

theorem make_sets (n:Nat) (h:n≤60) (w:World):(Instr.makeSlice 32 (.int .i64 n) (.int .i64 n)).run Tryz.prog w=.ok (.slice (some ⟨w.heap.size,0,none⟩) n n) (w.alloc (.cells (Array.replicate n (.int .u64 0)) 48)):=by
 obtain ⟨i0,hi,hzz⟩:=Option.map_eq_some_iff.1 info48
 simp only [Prod.mk.injEq] at hzz
 obtain ⟨hz0,hz1,hz2⟩:=hzz
 have hr:=run_make (P:=Tryz.prog) w 32 48 i0 (.int .u64 0) Tryz.underlying32 hi hz0 .i64 .i64 (n:Int) (n:Int) (by omega) (by omega) (by rw [hz2];omega) (by omega)
 simp only [Int.toNat_natCast] at hr
 rw [hz1,Nat.mul_one] at hr
 rw [hr,show (Value.int .u64 0).cells=#[.int .u64 0] from rfl,made_sets]

theorem blk_new (w:World) (o:Obj):(w.alloc o).heap[w.heap.size]? = some o:=by
 show (w.heap.push o)[w.heap.size]? = some o
 simp

theorem R_fresh (n base:Nat) (h:n≤60) (w:World) (hb:base≤w.heap.size):Kd.R (Kd.int .u64) 48 (w.alloc (.cells (Array.replicate n (.int .u64 0)) 48)) base (fun k=>k=w.heap.size) (.slice (some ⟨w.heap.size,0,none⟩) n n) (List.replicate n (0:Int)):=by
 refine Kd.R_of_own (enc:=fun x=>Value.int .u64 x) ⟨by simp [encs],.inr ⟨w.heap.size,n,Array.replicate n (.int .u64 0),by simp,hb,blk_new w _,by simp,by simp [maxLen];omega,by simp,by simp [encs]⟩⟩ (fun k hk=>?_)
 simp only [Value.ownBlock] at hk
 injection hk with hk
 exact hk.symm

theorem R_fresh_at (n base g:Nat) (h:n≤60) (w:World) (hg:w.heap.size=g) (hb:base≤g):Kd.R (Kd.int .u64) 48 (w.alloc (.cells (Array.replicate n (.int .u64 0)) 48)) base (fun k=>k=g) (.slice (some ⟨g,0,none⟩) n n) (List.replicate n (0:Int)):=by
 subst hg;exact R_fresh n base h w hb

theorem R_kept {w3 w4:World} {B G b3:Nat} {v:Value} {es:List Bool} (hR:Kd.R Kd.bool 4 w4 B (fun _=>True) v es) (hB:w3.heap.size≤B) (hG:∀ k,B≤k→k < w4.heap.size→k≠G∧k≠b3):Kd.R Kd.bool 4 w4 w3.heap.size (fun k=>k≠G∧k≠b3) v es :=
 Kd.R_lower (Kd.R_mono (Kd.R_bound hR) fun k hk=>hG k hk.2.1 hk.2.2.1) hB

theorem growG_length {β:Type} [DecidableEq β] (z:β) (more:List β→S68→β) (ps:List S68):∀ (k:Nat) (xs r:List β),growG z more ps k xs=some r→r.length=xs.length:=by
 have hp:∀ (ps:List S68) (st:List β × Bool),(passG z more ps st).1.length=st.1.length:=by
  intro ps
  induction ps with
  | nil=>intro st;rfl
  | cons p ps ih =>
   intro st
   unfold passG
   rw [ih]
   split <;> simp
 intro k
 induction k with
 | zero=>intro xs r h;cases h
 | succ k ih =>
  intro xs r h
  unfold growG at h
  split at h
  ·rw [ih _ _ h,hp]
  ·injection h with h;rw [← h,hp]

theorem known_nil (A0:Option Addr) (c0:Nat) (l0:List S65) (A1:Option Addr) (c1:Nat) (l1:List S73) (A2:Option Addr) (c2:Nat) (l2:List ByteArray) (A3:Option Addr) (c3:Nat) (l3:List S68) (st:Int) (w:World)
  (hr0:Kd.C k65 w A0 l0.length l0) (hr1:Kd.C k73 w A1 l1.length l1) (hr2:Kd.C Kd.string w A2 l2.length l2) (hr3:Kd.C k68 w A3 l3.length l3) (hv:validB l0 l1 l2 l3 st=false) :
  Calls Tryz.prog 81 #[.agg #[.slice A0 l0.length c0,.slice A1 l1.length c1,.slice A2 l2.length c2,.slice A3 l3.length c3,.int .i64 st]] w fun e w'=>e=.returned (.pointer none)∧Below w.heap.size w w':=by
 have HB:Aside0 (Below w.heap.size w (w.alloc (Obj.cells #[.slice A0 l0.length c0,.slice A1 l1.length c1,.slice A2 l2.length c2,.slice A3 l3.length c3,.int .i64 st] 27))):=⟨below_alloc (Below.refl _ _) _⟩
 have hval:Aside0 (Calls Tryz.prog 27 #[.agg #[.slice A0 l0.length c0,.slice A1 l1.length c1,.slice A2 l2.length c2,.slice A3 l3.length c3,.int .i64 st]] (w.alloc (Obj.cells #[.slice A0 l0.length c0,.slice A1 l1.length c1,.slice A2 l2.length c2,.slice A3 l3.length c3,.int .i64 st] 27)) fun e w'=>e=.returned (.bool false)∧Below (w.alloc (Obj.cells #[.slice A0 l0.length c0,.slice A1 l1.length c1,.slice A2 l2.length c2,.slice A3 l3.length c3,.int .i64 st] 27)).heap.size (w.alloc (Obj.cells #[.slice A0 l0.length c0,.slice A1 l1.length c1,.slice A2 l2.length c2,.slice A3 l3.length c3,.int .i64 st] 27)) w'):=⟨by
  have:=valid_calls A0 c0 l0 A1 c1 l1 A2 c2 l2 A3 c3 l3 st (w.alloc (Obj.cells #[.slice A0 l0.length c0,.slice A1 l1.length c1,.slice A2 l2.length c2,.slice A3 l3.length c3,.int .i64 st] 27)) (Kd.C_below hr0 HB.out) (Kd.C_below hr1 HB.out) (Kd.C_below hr2 HB.out) (Kd.C_below hr3 HB.out)
  rwa [hv] at this⟩
 have hu27:=Tryz.underlying27
 clear hr0 hr1 hr2 hr3 hv
 go_enter Tryz.func81,Tryz.ntmps81
 go_wp2_with (go_at_call 27;refine hval.out.mono ?_;rintro e w3 ⟨rfl,hb3⟩;replace hb3:=jM hb3)
 go_ret
 exact ⟨rfl,below_step HB.out hb3.out⟩

set_option maxHeartbeats 8000000 in
set_option maxRecDepth 100000 in
theorem known_calls (k:Nat) (A0:Option Addr) (c0:Nat) (l0:List S65) (A1:Option Addr) (c1:Nat) (l1:List S73) (A2:Option Addr) (c2:Nat) (l2:List ByteArray) (A3:Option Addr) (c3:Nat) (l3:List S68) (st:Int) (es:List Bool) (fs:List Int) (w:World)
  (hr0:Kd.C k65 w A0 l0.length l0) (hc0:l0.length≤c0) (hr1:Kd.C k73 w A1 l1.length l1) (hc1:l1.length≤c1) (hr2:Kd.C Kd.string w A2 l2.length l2) (hc2:l2.length≤c2) (hr3:Kd.C k68 w A3 l3.length l3) (hc3:l3.length≤c3)
  (hv:validB l0 l1 l2 l3 st=true) (he:sets_Empty.f k l0 l1 l2 l3 st=some es) (hen:es.length=l2.length) (hf:growG (0:Int) (moreS l0.length l2.length es) l3 k (List.replicate l2.length 0)=some fs)
  (hs:∀ p ∈ l3,(0≤p.f1∧p.f1 < l2.length)∧∀ xs,∃ q,rowF l0.length l2.length es xs 0 p.f2 0=some q) :
  Calls Tryz.prog 81 #[.agg #[.slice A0 l0.length c0,.slice A1 l1.length c1,.slice A2 l2.length c2,.slice A3 l3.length c3,.int .i64 st]] w fun e w'=>∃ (tb G cap dE:Nat) (E:Option Addr),e=.returned (.pointer (some ⟨tb,0,none⟩)) ∧
   w'.cell? ⟨tb,0,none⟩=some (.slice A0 l0.length c0)∧w'.cell? ⟨tb,2,none⟩=some (.slice A2 l2.length c2)∧w'.cell? ⟨tb,5,none⟩=some (.slice E l2.length dE)∧w'.cell? ⟨tb,6,none⟩=some (.slice (some ⟨G,0,none⟩) l2.length cap) ∧
   Kd.C Kd.bool w' E l2.length es∧Kd.R (Kd.int .u64) 48 w' w.heap.size (fun _=>True) (.slice (some ⟨G,0,none⟩) l2.length cap) fs∧Below w.heap.size w w':=by
 have HR0:=jM hr0
 have HR1:=jM hr1
 have HR2:=jM hr2
 have HR3:=jM hr3
 have HC:=jM (And.intro hc0 (And.intro hc1 (And.intro hc2 hc3)))
 have HE:=jM he
 have HF:=jM hf
 have HS:=jM hs
 have hvh:=jM (valid_has hv)
 have HEN:=jM hen
 have HB:Aside0 (Below w.heap.size w (w.alloc (Obj.cells #[.slice A0 l0.length c0,.slice A1 l1.length c1,.slice A2 l2.length c2,.slice A3 l3.length c3,.int .i64 st] 27))):=⟨below_alloc (Below.refl _ _) _⟩
 have hval:Aside0 (Calls Tryz.prog 27 #[.agg #[.slice A0 l0.length c0,.slice A1 l1.length c1,.slice A2 l2.length c2,.slice A3 l3.length c3,.int .i64 st]] (w.alloc (Obj.cells #[.slice A0 l0.length c0,.slice A1 l1.length c1,.slice A2 l2.length c2,.slice A3 l3.length c3,.int .i64 st] 27)) fun e w'=>e=.returned (.bool true)∧Below (w.alloc (Obj.cells #[.slice A0 l0.length c0,.slice A1 l1.length c1,.slice A2 l2.length c2,.slice A3 l3.length c3,.int .i64 st] 27)).heap.size (w.alloc (Obj.cells #[.slice A0 l0.length c0,.slice A1 l1.length c1,.slice A2 l2.length c2,.slice A3 l3.length c3,.int .i64 st] 27)) w'):=⟨by
  have:=valid_calls A0 c0 l0 A1 c1 l1 A2 c2 l2 A3 c3 l3 st (w.alloc (Obj.cells #[.slice A0 l0.length c0,.slice A1 l1.length c1,.slice A2 l2.length c2,.slice A3 l3.length c3,.int .i64 st] 27)) (Kd.C_below hr0 HB.out) (Kd.C_below hr1 HB.out) (Kd.C_below hr2 HB.out) (Kd.C_below hr3 HB.out)
  rwa [hv] at this⟩
 have hu27:=Tryz.underlying27
 have hu156:=Tryz.underlying156
 have f0:(w.alloc (Obj.cells #[.slice A0 l0.length c0,.slice A1 l1.length c1,.slice A2 l2.length c2,.slice A3 l3.length c3,.int .i64 st] 27)).cell? ⟨w.heap.size,0,none⟩=some (.slice A0 l0.length c0):=by go_simp
 have f1:(w.alloc (Obj.cells #[.slice A0 l0.length c0,.slice A1 l1.length c1,.slice A2 l2.length c2,.slice A3 l3.length c3,.int .i64 st] 27)).cell? ⟨w.heap.size,1,none⟩=some (.slice A1 l1.length c1):=by go_simp
 have f2:(w.alloc (Obj.cells #[.slice A0 l0.length c0,.slice A1 l1.length c1,.slice A2 l2.length c2,.slice A3 l3.length c3,.int .i64 st] 27)).cell? ⟨w.heap.size,2,none⟩=some (.slice A2 l2.length c2):=by go_simp
 have f3:(w.alloc (Obj.cells #[.slice A0 l0.length c0,.slice A1 l1.length c1,.slice A2 l2.length c2,.slice A3 l3.length c3,.int .i64 st] 27)).cell? ⟨w.heap.size,3,none⟩=some (.slice A3 l3.length c3):=by go_simp
 have f4:(w.alloc (Obj.cells #[.slice A0 l0.length c0,.slice A1 l1.length c1,.slice A2 l2.length c2,.slice A3 l3.length c3,.int .i64 st] 27)).cell? ⟨w.heap.size,4,none⟩=some (.int .i64 st):=by go_simp
 replace f0:=jM f0
 replace f1:=jM f1
 replace f2:=jM f2
 replace f3:=jM f3
 replace f4:=jM f4
 clear hr0 hr1 hr2 hr3 hv hc0 hc1 hc2 hc3 he hf hs hen
 go_enter Tryz.func81,Tryz.ntmps81
 go_upto_region 3 with (go_at_call 27;refine hval.out.mono ?_;rintro e w3 ⟨rfl,hb3⟩;replace hb3:=jM hb3)
 have F0:=pw_cell_below hb3.out f0.out
 have F1:=pw_cell_below hb3.out f1.out
 have F2:=pw_cell_below hb3.out f2.out
 have F3:=pw_cell_below hb3.out f3.out
 have F4:=pw_cell_below hb3.out f4.out
 have HW3:Aside0 (Below w.heap.size w w3):=⟨below_step HB.out hb3.out⟩
 have hgb:Aside0 (w.heap.size < w3.heap.size):=⟨Nat.lt_of_lt_of_le (by simp) hb3.out.size⟩
 clear f0 f1 f2 f3 f4 hb3 hval HB
 generalize hg:w.heap.size=gb at F0 F1 F2 F3 F4 hgb ⊢
 have HGB:=jM hg
 clear hg
 have E0:=jM F0
 have E1:=jM F1
 have E2:=jM F2
 have E3:=jM F3
 have E4:=jM F4
 go_cut [3] from 7 to 15 (fun s3 wr=>∃ (b3 tb G cap dE:Nat) (E:Option Addr),s3=.pointer (some ⟨b3,0,none⟩)∧Aside0 (wr.cell? ⟨b3,0,none⟩=some (.pointer (some ⟨tb,0,none⟩)) ∧
   wr.cell? ⟨tb,0,none⟩=some (.slice A0 l0.length c0)∧wr.cell? ⟨tb,2,none⟩=some (.slice A2 l2.length c2)∧wr.cell? ⟨tb,5,none⟩=some (.slice E l2.length dE)∧wr.cell? ⟨tb,6,none⟩=some (.slice (some ⟨G,0,none⟩) l2.length cap)) ∧
   Aside0 (Kd.R Kd.bool 4 wr w3.heap.size (fun k=>k≠G) (.slice E l2.length dE) es)∧Aside0 (Kd.R (Kd.int .u64) 48 wr w3.heap.size (fun _=>True) (.slice (some ⟨G,0,none⟩) l2.length cap) (List.replicate l2.length 0))∧Aside0 (b3≠G∧tb≠G∧w3.heap.size≤G∧G < wr.heap.size∧Below w3.heap.size w3 wr))
 case first =>
  have hmk:=make_sets l2.length hvh.out.1
  have X0:=jM (Kd.C_below HR0.out HW3.out)
  have X1:=jM (Kd.C_below HR1.out HW3.out)
  have X2:=jM (Kd.C_below HR2.out HW3.out)
  have X3:=jM (Kd.C_below HR3.out HW3.out)
  have n0:=World.new_ne w3 _ F0
  have n1:¬ w3.heap.size+1=gb:=by have:=hgb.out;omega
  have n2:¬ gb=w3.heap.size:=by have:=hgb.out;omega
  have n3:¬ gb=w3.heap.size+1:=by have:=hgb.out;omega
  go_region_held3 (fun w'=>w'.cell? ⟨gb,0,none⟩=some (.slice A0 l0.length c0)∧w'.cell? ⟨gb,1,none⟩=some (.slice A1 l1.length c1)∧w'.cell? ⟨gb,2,none⟩=some (.slice A2 l2.length c2)∧w'.cell? ⟨gb,3,none⟩=some (.slice A3 l3.length c3)∧w'.cell? ⟨gb,4,none⟩=some (.int .i64 st)) (first | (go_keep;done) | (have hb34':=hb34;exact ⟨pw_cell_below (w:=w3) (by repeat (first | exact hb34.out | exact Below.refl _ _ | apply below_alloc | apply below_drew | refine Below.setCell ?_ (by first | exact Nat.le_refl _ | exact Nat.le_succ _) _)) F0,pw_cell_below (w:=w3) (by repeat (first | exact hb34.out | exact Below.refl _ _ | apply below_alloc | apply below_drew | refine Below.setCell ?_ (by first | exact Nat.le_refl _ | exact Nat.le_succ _) _)) F1,pw_cell_below (w:=w3) (by repeat (first | exact hb34.out | exact Below.refl _ _ | apply below_alloc | apply below_drew | refine Below.setCell ?_ (by first | exact Nat.le_refl _ | exact Nat.le_succ _) _)) F2,pw_cell_below (w:=w3) (by repeat (first | exact hb34.out | exact Below.refl _ _ | apply below_alloc | apply below_drew | refine Below.setCell ?_ (by first | exact Nat.le_refl _ | exact Nat.le_succ _) _)) F3,pw_cell_below (w:=w3) (by repeat (first | exact hb34.out | exact Below.refl _ _ | apply below_alloc | apply below_drew | refine Below.setCell ?_ (by first | exact Nat.le_refl _ | exact Nat.le_succ _) _)) F4⟩) | exact ⟨pw_cell_below (w:=w3) (by repeat (first | exact Below.refl _ _ | apply below_alloc | apply below_drew | refine Below.setCell ?_ (by first | exact Nat.le_refl _ | exact Nat.le_succ _) _)) F0,pw_cell_below (w:=w3) (by repeat (first | exact Below.refl _ _ | apply below_alloc | apply below_drew | refine Below.setCell ?_ (by first | exact Nat.le_refl _ | exact Nat.le_succ _) _)) F1,pw_cell_below (w:=w3) (by repeat (first | exact Below.refl _ _ | apply below_alloc | apply below_drew | refine Below.setCell ?_ (by first | exact Nat.le_refl _ | exact Nat.le_succ _) _)) F2,pw_cell_below (w:=w3) (by repeat (first | exact Below.refl _ _ | apply below_alloc | apply below_drew | refine Below.setCell ?_ (by first | exact Nat.le_refl _ | exact Nat.le_succ _) _)) F3,pw_cell_below (w:=w3) (by repeat (first | exact Below.refl _ _ | apply below_alloc | apply below_drew | refine Below.setCell ?_ (by first | exact Nat.le_refl _ | exact Nat.le_succ _) _)) F4⟩)
   (first | (go_at_call 19;refine (sets_Empty.calls k _ _ l0 _ _ l1 _ _ l2 _ _ l3 st es _ ?_ HC.out.1 ?_ HC.out.2.1 ?_ HC.out.2.2.1 ?_ HC.out.2.2.2 HE.out).mono ?_;exact Kd.C_below X0.out (by repeat (first | exact Below.refl _ _ | apply below_alloc | apply below_drew));exact Kd.C_below X1.out (by repeat (first | exact Below.refl _ _ | apply below_alloc | apply below_drew));exact Kd.C_below X2.out (by repeat (first | exact Below.refl _ _ | apply below_alloc | apply below_drew));exact Kd.C_below X3.out (by repeat (first | exact Below.refl _ _ | apply below_alloc | apply below_drew));rintro e w4 ⟨v0,rfl,hR4,hB4⟩;obtain ⟨EA,dE,rfl⟩:=Kd.R_slice hR4;have hb34:=below_step (w:=w3) (by repeat (first | exact Below.refl _ _ | apply below_alloc | apply below_drew)) hB4;have y0:=pw_cell_below hb34 E0.out;have y1:=pw_cell_below hb34 E1.out;have y2:=pw_cell_below hb34 E2.out;have y3:=pw_cell_below hb34 E3.out;have y4:=pw_cell_below hb34 E4.out;replace hb34:=jM hb34;replace hR4:=jM hR4;replace hB4:=jM hB4;have n4:=World.new_ne w4 _ y0;(first | (by_cases t0:w4.cell? ⟨w3.heap.size,0,none⟩=some (.pointer none);rotate_left;(focus (exfalso;refine t0 (pw_cell_below hB4.out ?_);go_simp;done));(by_cases z0:w4.frozen? ⟨w3.heap.size,0,none⟩=false;rotate_left;(focus (exfalso;refine z0 ((hB4.out.frozen ?_).trans ?_);(focus (first | (simp;done) | (simp;omega) | (simp only [World.size_alloc,World.size_drew];omega)));(focus (go_simp;done)))));have m0:=World.new_ne w4 _ t0;have l0_:w3.heap.size < w4.heap.size:=World.block_lt_of_cell? w4 _ t0;have l0b:w3.heap.size < w4.heap.size+1:=Nat.lt_succ_of_lt l0_;have l0c:w3.heap.size < w4.heap.size+1+1:=Nat.lt_succ_of_lt l0b) | skip);(first | (by_cases t1:w4.cell? ⟨w3.heap.size+1,0,none⟩=some (.pointer none);rotate_left;(focus (exfalso;refine t1 (pw_cell_below hB4.out ?_);go_simp;done));(by_cases z1:w4.frozen? ⟨w3.heap.size+1,0,none⟩=false;rotate_left;(focus (exfalso;refine z1 ((hB4.out.frozen ?_).trans ?_);(focus (first | (simp;done) | (simp;omega) | (simp only [World.size_alloc,World.size_drew];omega)));(focus (go_simp;done)))));have m1:=World.new_ne w4 _ t1;have l1_:w3.heap.size+1 < w4.heap.size:=World.block_lt_of_cell? w4 _ t1;have l1b:w3.heap.size < w4.heap.size:=Nat.lt_of_succ_lt l1_;have l1c:w3.heap.size < w4.heap.size+1:=Nat.lt_succ_of_lt l1b) | skip)))
  ·have hs:=hB4.out.size
   simp at hs
   go_wp2_with fail
   go_meet
   exact ⟨w4.heap.size+1+1,w4.heap.size+1,w4.heap.size,l2.length,dE,EA,rfl,⟨by go_simp,by go_simp,by go_simp,by rw [← HEN.out];go_simp,by go_simp⟩,
    ⟨by rw [← HEN.out];exact Kd.R_mono (ok:=fun k=>k≠w4.heap.size∧k≠w4.heap.size+1+1) (by (repeat (with_reducible first | apply Kd.R_alloc | refine Kd.R_far ?_ (fun k hk=>hk.2) _));exact R_kept hR4.out (by first | omega | (simp;done) | (simp;omega)) (by intro k h1 h2;simp at h1;omega)) (fun k hk=>hk.1)⟩,
    ⟨Kd.R_mono (ok:=fun k=>k=w4.heap.size) (by (repeat (with_reducible first | refine R_fresh_at _ _ _ hvh.out.1 _ ?_ ?_ | apply Kd.R_drew | apply Kd.R_alloc));all_goals (first | omega | (simp;done) | (simp;omega))) (fun _ _=>trivial)⟩,
    ⟨by omega,by omega,by omega,by simp;try omega,by repeat (first | exact hb34.out | apply below_alloc | refine Below.setCell ?_ (by first | exact Nat.le_refl _ | exact Nat.le_succ _) _)⟩⟩
  ·have hs:=hB4.out.size
   simp at hs
   go_wp2_with fail
   go_meet
   exact ⟨w4.heap.size+1,w4.heap.size+1+1,w4.heap.size,l2.length,dE,EA,rfl,⟨by go_simp,by go_simp,by go_simp,by rw [← HEN.out];go_simp,by go_simp⟩,
    ⟨by rw [← HEN.out];exact Kd.R_mono (ok:=fun k=>k≠w4.heap.size∧k≠w4.heap.size+1) (by (repeat (with_reducible first | apply Kd.R_alloc | refine Kd.R_far ?_ (fun k hk=>hk.2) _));exact R_kept hR4.out (by first | omega | (simp;done) | (simp;omega)) (by intro k h1 h2;simp at h1;omega)) (fun k hk=>hk.1)⟩,
    ⟨Kd.R_mono (ok:=fun k=>k=w4.heap.size) (by (repeat (with_reducible first | refine R_fresh_at _ _ _ hvh.out.1 _ ?_ ?_ | apply Kd.R_drew | apply Kd.R_alloc));all_goals (first | omega | (simp;done) | (simp;omega))) (fun _ _=>trivial)⟩,
    ⟨by omega,by omega,by omega,by simp;try omega,by repeat (first | exact hb34.out | apply below_alloc | refine Below.setCell ?_ (by first | exact Nat.le_refl _ | exact Nat.le_succ _) _)⟩⟩
  ·have hs:=hB4.out.size
   simp at hs
   go_wp2_with fail
   go_meet
   exact ⟨w4.heap.size,w4.heap.size+1+1,w4.heap.size+1,l2.length,dE,EA,rfl,⟨by go_simp,by go_simp,by go_simp,by rw [← HEN.out];go_simp,by go_simp⟩,
    ⟨by rw [← HEN.out];exact Kd.R_mono (ok:=fun k=>k≠w4.heap.size+1∧k≠w4.heap.size) (by (repeat (with_reducible first | apply Kd.R_alloc | refine Kd.R_far ?_ (fun k hk=>hk.2) _));exact R_kept hR4.out (by first | omega | (simp;done) | (simp;omega)) (by intro k h1 h2;simp at h1;omega)) (fun k hk=>hk.1)⟩,
    ⟨Kd.R_mono (ok:=fun k=>k=w4.heap.size+1) (by (repeat (with_reducible first | refine R_fresh_at _ _ _ hvh.out.1 _ ?_ ?_ | apply Kd.R_drew | apply Kd.R_alloc));all_goals (first | omega | (simp;done) | (simp;omega))) (fun _ _=>trivial)⟩,
    ⟨by omega,by omega,by omega,by simp;try omega,by repeat (first | exact hb34.out | apply below_alloc | refine Below.setCell ?_ (by first | exact Nat.le_refl _ | exact Nat.le_succ _) _)⟩⟩
  ·have hs:=hB4.out.size
   simp at hs
   go_wp2_with fail
   go_meet
   exact ⟨w4.heap.size+1,w4.heap.size,w3.heap.size,l2.length,dE,EA,rfl,⟨by go_simp,by go_simp,by go_simp,by rw [← HEN.out];go_simp,by go_simp⟩,
    ⟨by rw [← HEN.out];exact Kd.R_mono (ok:=fun k=>k≠w3.heap.size∧k≠w4.heap.size+1) (by (repeat (with_reducible first | apply Kd.R_alloc | refine Kd.R_far ?_ (fun k hk=>hk.2) _));exact R_kept hR4.out (by first | omega | (simp;done) | (simp;omega)) (by intro k h1 h2;simp at h1;omega)) (fun k hk=>hk.1)⟩,
    ⟨Kd.R_mono (ok:=fun k=>k=w3.heap.size) (by (repeat (with_reducible first | apply Kd.R_alloc | refine Kd.R_far ?_ (fun k hk=>by rw [hk];simp) _));refine Kd.R_below ?_ hB4.out;(repeat (with_reducible first | refine R_fresh_at _ _ _ hvh.out.1 _ ?_ ?_ | apply Kd.R_drew | apply Kd.R_alloc));all_goals (first | omega | (simp;done) | (simp;omega))) (fun _ _=>trivial)⟩,
    ⟨by omega,by omega,by omega,by simp;try omega,by repeat (first | exact hb34.out | apply below_alloc | refine Below.setCell ?_ (by first | exact Nat.le_refl _ | exact Nat.le_succ _) _)⟩⟩
  ·have hs:=hB4.out.size
   simp at hs
   go_wp2_with fail
   go_meet
   exact ⟨w4.heap.size,w4.heap.size+1,w3.heap.size,l2.length,dE,EA,rfl,⟨by go_simp,by go_simp,by go_simp,by rw [← HEN.out];go_simp,by go_simp⟩,
    ⟨by rw [← HEN.out];exact Kd.R_mono (ok:=fun k=>k≠w3.heap.size∧k≠w4.heap.size) (by (repeat (with_reducible first | apply Kd.R_alloc | refine Kd.R_far ?_ (fun k hk=>hk.2) _));exact R_kept hR4.out (by first | omega | (simp;done) | (simp;omega)) (by intro k h1 h2;simp at h1;omega)) (fun k hk=>hk.1)⟩,
    ⟨Kd.R_mono (ok:=fun k=>k=w3.heap.size) (by (repeat (with_reducible first | apply Kd.R_alloc | refine Kd.R_far ?_ (fun k hk=>by rw [hk];simp) _));refine Kd.R_below ?_ hB4.out;(repeat (with_reducible first | refine R_fresh_at _ _ _ hvh.out.1 _ ?_ ?_ | apply Kd.R_drew | apply Kd.R_alloc));all_goals (first | omega | (simp;done) | (simp;omega))) (fun _ _=>trivial)⟩,
    ⟨by omega,by omega,by omega,by simp;try omega,by repeat (first | exact hb34.out | apply below_alloc | refine Below.setCell ?_ (by first | exact Nat.le_refl _ | exact Nat.le_succ _) _)⟩⟩
  ·have hs:=hB4.out.size
   simp at hs
   go_wp2_with fail
   go_meet
   exact ⟨w3.heap.size+1,w4.heap.size,w3.heap.size,l2.length,dE,EA,rfl,⟨by go_simp,by go_simp,by go_simp,by rw [← HEN.out];go_simp,by go_simp⟩,
    ⟨by rw [← HEN.out];exact Kd.R_mono (ok:=fun k=>k≠w3.heap.size∧k≠w3.heap.size+1) (by (repeat (with_reducible first | apply Kd.R_alloc | refine Kd.R_far ?_ (fun k hk=>hk.2) _));exact R_kept hR4.out (by first | omega | (simp;done) | (simp;omega)) (by intro k h1 h2;simp at h1;omega)) (fun k hk=>hk.1)⟩,
    ⟨Kd.R_mono (ok:=fun k=>k=w3.heap.size) (by (repeat (with_reducible first | apply Kd.R_alloc | refine Kd.R_far ?_ (fun k hk=>by rw [hk];simp) _));refine Kd.R_below ?_ hB4.out;(repeat (with_reducible first | refine R_fresh_at _ _ _ hvh.out.1 _ ?_ ?_ | apply Kd.R_drew | apply Kd.R_alloc));all_goals (first | omega | (simp;done) | (simp;omega))) (fun _ _=>trivial)⟩,
    ⟨by omega,by omega,by omega,by simp;try omega,by repeat (first | exact hb34.out | apply below_alloc | refine Below.setCell ?_ (by first | exact Nat.le_refl _ | exact Nat.le_succ _) _)⟩⟩
  ·have hs:=hB4.out.size
   simp at hs
   go_wp2_with fail
   go_meet
   exact ⟨w3.heap.size,w4.heap.size+1,w4.heap.size,l2.length,dE,EA,rfl,⟨by go_simp,by go_simp,by go_simp,by rw [← HEN.out];go_simp,by go_simp⟩,
    ⟨by rw [← HEN.out];exact Kd.R_mono (ok:=fun k=>k≠w4.heap.size∧k≠w3.heap.size) (by (repeat (with_reducible first | apply Kd.R_alloc | refine Kd.R_far ?_ (fun k hk=>hk.2) _));exact R_kept hR4.out (by first | omega | (simp;done) | (simp;omega)) (by intro k h1 h2;simp at h1;omega)) (fun k hk=>hk.1)⟩,
    ⟨Kd.R_mono (ok:=fun k=>k=w4.heap.size) (by (repeat (with_reducible first | refine R_fresh_at _ _ _ hvh.out.1 _ ?_ ?_ | apply Kd.R_drew | apply Kd.R_alloc));all_goals (first | omega | (simp;done) | (simp;omega))) (fun _ _=>trivial)⟩,
    ⟨by omega,by omega,by omega,by simp;try omega,by repeat (first | exact hb34.out | apply below_alloc | refine Below.setCell ?_ (by first | exact Nat.le_refl _ | exact Nat.le_succ _) _)⟩⟩
  ·have hs:=hB4.out.size
   simp at hs
   go_wp2_with fail
   go_meet
   exact ⟨w3.heap.size,w4.heap.size,w3.heap.size+1,l2.length,dE,EA,rfl,⟨by go_simp,by go_simp,by go_simp,by rw [← HEN.out];go_simp,by go_simp⟩,
    ⟨by rw [← HEN.out];exact Kd.R_mono (ok:=fun k=>k≠w3.heap.size+1∧k≠w3.heap.size) (by (repeat (with_reducible first | apply Kd.R_alloc | refine Kd.R_far ?_ (fun k hk=>hk.2) _));exact R_kept hR4.out (by first | omega | (simp;done) | (simp;omega)) (by intro k h1 h2;simp at h1;omega)) (fun k hk=>hk.1)⟩,
    ⟨Kd.R_mono (ok:=fun k=>k=w3.heap.size+1) (by (repeat (with_reducible first | apply Kd.R_alloc | refine Kd.R_far ?_ (fun k hk=>by rw [hk];simp) _));refine Kd.R_below ?_ hB4.out;(repeat (with_reducible first | refine R_fresh_at _ _ _ hvh.out.1 _ ?_ ?_ | apply Kd.R_drew | apply Kd.R_alloc));all_goals (first | omega | (simp;done) | (simp;omega))) (fun _ _=>trivial)⟩,
    ⟨by omega,by omega,by omega,by simp;try omega,by repeat (first | exact hb34.out | apply below_alloc | refine Below.setCell ?_ (by first | exact Nat.le_refl _ | exact Nat.le_succ _) _)⟩⟩
 case rest =>
  obtain ⟨b3,tb,G,cap,dE,E,rfl,hcell,hE,hF,hN⟩:=hcut
  have hNB:=jM hN.out.2.2.2.2
  have hsz:Aside0 (b3≠G∧tb≠G∧gb < G∧w3.heap.size≤G∧G < wc.heap.size):=⟨hN.out.1,hN.out.2.1,Nat.lt_of_lt_of_le hgb.out hN.out.2.2.1,hN.out.2.2.1,hN.out.2.2.2.1⟩
  clear F0 F1 F2 F3 F4
  have F0:=pw_cell_below hNB.out E0.out
  have F1:=pw_cell_below hNB.out E1.out
  have F2:=pw_cell_below hNB.out E2.out
  have F3:=pw_cell_below hNB.out E3.out
  have F4:=pw_cell_below hNB.out E4.out
  have F5:=hcell.out.1
  have F6:=hcell.out.2.2.2.2
  have hmf:∀ (fn:Fn) (first cap:Array Value) (w:World),(Instr.makeFunc fn first cap).run Tryz.prog w=.ok (.func fn first cap) w:=fun _ _ _ _=>rfl
  have hEE:Aside0 (∀ wz wy:World,Below wc.heap.size wc wz→wz.grownBy wy (some G)→Kd.C Kd.bool wy E l2.length es):=⟨fun wz wy hz hy=>by
   have h1:=Kd.R_grown (Kd.R_below hE.out hz) hy (fun k hk e=>hk (by injection e))
   have h2:=(Kd.R_reads' h1).2.2
   rwa [← (Kd.R_reads' h1).1] at h2⟩
  have hgrow:Aside0 (∀ wz:World,Below wc.heap.size wc wz→Calls Tryz.prog 91 #[.agg #[.slice A0 l0.length c0,.slice A1 l1.length c1,.slice A2 l2.length c2,.slice A3 l3.length c3,.int .i64 st],.slice (some ⟨G,0,none⟩) l2.length cap,.func (.func 92) #[] #[.pointer (some ⟨b3,0,none⟩)]] wz
    fun e w'=>e=.returned (.slice (some ⟨G,0,none⟩) l2.length cap)∧Kd.R (Kd.int .u64) 48 w' w3.heap.size (fun _=>True) (.slice (some ⟨G,0,none⟩) l2.length cap) fs∧wz.grownBy w' (some G)):=⟨fun wz hz =>
   grow_set k tb l0.length l2.length A0 A2 E c0 c2 dE es A0 c0 l0 A1 c1 l1 A2 c2 l2 A3 c3 l3 st b3 G cap w3.heap.size (fun _=>True) (List.replicate l2.length 0) fs w3 wz (Kd.C_below HR3.out HW3.out) (below_step hNB.out hz) hsz.out.2.2.2.1 (Nat.lt_of_lt_of_le hsz.out.2.2.2.2 hz.size) hvh.out.1
    (pw_cell_below hz hcell.out.1) (pw_cell_below hz hcell.out.2.1) (pw_cell_below hz hcell.out.2.2.1) (pw_cell_below hz hcell.out.2.2.2.1) (pw_cell_below hz hcell.out.2.2.2.2) (fun wy hy=>hEE.out wz wy hz hy) hsz.out.1 hsz.out.2.1 (Kd.R_below hF.out hz) HS.out HF.out⟩
  have X0:=jM F0
  have X1:=jM F1
  have X2:=jM F2
  have X3:=jM F3
  have X4:=jM F4
  have X5:=jM F5
  have X6:=jM F6
  clear E0 E1 E2 E3 E4
  go_upto_region 4 with fail
  go_region_held3 (fun w'=>w'.cell? ⟨gb,0,none⟩=some (.slice A0 l0.length c0)∧w'.cell? ⟨gb,1,none⟩=some (.slice A1 l1.length c1)∧w'.cell? ⟨gb,2,none⟩=some (.slice A2 l2.length c2)∧w'.cell? ⟨gb,3,none⟩=some (.slice A3 l3.length c3)∧w'.cell? ⟨gb,4,none⟩=some (.int .i64 st)∧w'.cell? ⟨b3,0,none⟩=some (.pointer (some ⟨tb,0,none⟩))∧w'.cell? ⟨tb,6,none⟩=some (.slice (some ⟨G,0,none⟩) l2.length cap)) (go_keep)
   (first | (go_at_call 91;refine (hgrow.out _ (by repeat (first | exact Below.refl _ _ | apply below_drew))).mono ?_;rintro e w6 ⟨rfl,hr6,hg6⟩;have hk:=fun {a:Addr} {v:Value} (h:wc.cell? a=some v) (hn:a.block≠G)=>World.grownBy.cell hg6 (a:=a) (v:=v) (pw_cell_below (by repeat (first | exact Below.refl _ _ | apply below_drew)) h) (fun e=>hn (by injection e));have y0:=hk X0.out (Nat.ne_of_lt hsz.out.2.2.1);have y1:=hk X1.out (Nat.ne_of_lt hsz.out.2.2.1);have y2:=hk X2.out (Nat.ne_of_lt hsz.out.2.2.1);have y3:=hk X3.out (Nat.ne_of_lt hsz.out.2.2.1);have y4:=hk X4.out (Nat.ne_of_lt hsz.out.2.2.1);have y5:=hk X5.out hsz.out.1;have y6:=hk X6.out hsz.out.2.1;have y7:=jM (hk hcell.out.2.1 hsz.out.2.1);have y8:=jM (hk hcell.out.2.2.1 hsz.out.2.1);have y9:=jM (hk hcell.out.2.2.2.1 hsz.out.2.1);clear hk;replace hr6:=jM hr6;replace hg6:=jM hg6))
  go_wp2
  go_ret
  exact ⟨tb,G,cap,dE,E,rfl,y7.out,y8.out,y9.out,y6,hEE.out _ _ (by repeat (first | exact Below.refl _ _ | apply below_drew)) hg6.out,Kd.R_lower hr6.out (by first | exact HW3.out.size | (rw [← HGB.out];exact HW3.out.size)),below_grownS (below_drew (below_step HW3.out hNB.out)) hg6.out (by rw [HGB.out];exact Nat.le_of_lt hsz.out.2.2.1)⟩
theorem With_some (out s:Int) (h0:0≤s) (h1:s < 64):∃ q,bits_With.f out s=some q:=by
 unfold bits_With.f bits_bit.f
 rw [if_neg (by omega),if_neg (by omega),if_pos h0]
 exact ⟨_,rfl⟩

theorem rowF_total (nT nS:Int) (hT:nT≤60) (es:List Bool) (fs:List Int) (behind:Int):∀ (l:List Int) (out:Int),∃ q,rowF nT nS es fs behind l out=some q
 | [],out=>⟨_,rfl⟩
 | s :: l,out=>by
  unfold rowF
  split
  ·exact ⟨_,rfl⟩
  ·rename_i hn
   split
   ·exact With_some _ _ (by assumption) (by omega)
   ·have hu:bits_Union.f out (rd fs (-1 - s))=some (Go.bits .or .u64 out (rd fs (-1 - s))):=rfl
    rw [hu]
    simp only [Option.bind_some]
    split
    ·exact rowF_total nT nS hT es fs behind l _
    ·exact ⟨_,rfl⟩

theorem Empty_len {k:Nat} {l0:List S65} {l1:List S73} {l2:List ByteArray} {l3:List S68} {st:Int} {es:List Bool} (hv:validB l0 l1 l2 l3 st=true) (h:sets_Empty.f k l0 l1 l2 l3 st=some es):es.length=l2.length:=by
 unfold sets_Empty.f sets_all.f at h
 rw [if_pos hv] at h
 have h':growG false (moreB false) l3 k (List.replicate l2.length false)=some es:=by simpa using h
 rw [growG_length _ _ _ _ _ _ h',List.length_replicate]

theorem valid_terms {l0:List S65} {l1:List S73} {l2:List ByteArray} {l3:List S68} {st:Int} (h:validB l0 l1 l2 l3 st=true):(l0.length:Int)≤60:=by
 simp only [validB,Bool.and_eq_true,Bool.not_eq_true',decide_eq_false_iff_not,List.all_eq_true] at h
 obtain ⟨⟨⟨⟨⟨⟨⟨⟨h0, -⟩, -⟩, -⟩, -⟩, -⟩, -⟩, -⟩, -⟩:=h
 omega

def sets_First.f (k:Nat) (l0:List S65) (l1:List S73) (l2:List ByteArray) (l3:List S68) (st:Int):Option (List Int) :=
 if validB l0 l1 l2 l3 st=true then (sets_Empty.f k l0 l1 l2 l3 st).bind fun es=>growG (0:Int) (moreS l0.length l2.length es) l3 k (List.replicate l2.length 0) else some []
def sets_Of.f (k:Nat) (l0:List S65) (l1:List S73) (l2:List ByteArray) (l3:List S68) (st:Int) (l:List Int) (behind:Int):Option Int :=
 if validB l0 l1 l2 l3 st=true then (sets_Empty.f k l0 l1 l2 l3 st).bind fun es=>(growG (0:Int) (moreS l0.length l2.length es) l3 k (List.replicate l2.length 0)).bind fun fs=>rowF l0.length l2.length es fs behind l 0 else some 0

theorem sets_Of.mono (l0:List S65) (l1:List S73) (l2:List ByteArray) (l3:List S68) (st:Int) (l:List Int) (behind:Int) (k:Nat):LeO (sets_Of.f k l0 l1 l2 l3 st l behind) (sets_Of.f (k+1) l0 l1 l2 l3 st l behind):=by
 unfold sets_Of.f
 split
 ·intro r h
  obtain ⟨es,he,h⟩:=Option.bind_eq_some_iff.1 h
  obtain ⟨fs,hf,h⟩:=Option.bind_eq_some_iff.1 h
  exact Option.bind_eq_some_iff.2 ⟨es,sets_Empty.mono _ _ _ _ _ _ _ he,Option.bind_eq_some_iff.2 ⟨fs,growG_mono _ _ _ _ _ _ hf,h⟩⟩
 ·exact fun _ h=>h

set_option maxHeartbeats 4000000 in
set_option maxRecDepth 100000 in
theorem sets_Of.calls (k:Nat) (A0:Option Addr) (c0:Nat) (l0:List S65) (A1:Option Addr) (c1:Nat) (l1:List S73) (A2:Option Addr) (c2:Nat) (l2:List ByteArray) (A3:Option Addr) (c3:Nat) (l3:List S68) (st:Int) (A:Option Addr) (c:Nat) (l:List Int) (behind:Int) (r:Int) (w:World)
  (hr0:Kd.C k65 w A0 l0.length l0) (hc0:l0.length≤c0) (hr1:Kd.C k73 w A1 l1.length l1) (hc1:l1.length≤c1) (hr2:Kd.C Kd.string w A2 l2.length l2) (hc2:l2.length≤c2) (hr3:Kd.C k68 w A3 l3.length l3) (hc3:l3.length≤c3) (hr:Kd.C (Kd.int .i64) w A l.length l) (hc:l.length≤c)
  (h:sets_Of.f k l0 l1 l2 l3 st l behind=some r) :
  Calls Tryz.prog 69 #[.agg #[.slice A0 l0.length c0,.slice A1 l1.length c1,.slice A2 l2.length c2,.slice A3 l3.length c3,.int .i64 st],.slice A l.length c,.int .u64 behind] w fun e w'=>e=.returned (.int .u64 r)∧Below w.heap.size w w':=by
 have HB:Aside0 (Below w.heap.size w (w.alloc (Obj.cells #[.slice A0 l0.length c0,.slice A1 l1.length c1,.slice A2 l2.length c2,.slice A3 l3.length c3,.int .i64 st] 27))):=⟨below_alloc (Below.refl _ _) _⟩
 have hsz:Aside0 (w.heap.size≤(w.alloc (Obj.cells #[.slice A0 l0.length c0,.slice A1 l1.length c1,.slice A2 l2.length c2,.slice A3 l3.length c3,.int .i64 st] 27)).heap.size):=⟨HB.out.size⟩
 have r0:=Kd.C_below hr0 HB.out
 have r1:=Kd.C_below hr1 HB.out
 have r2:=Kd.C_below hr2 HB.out
 have r3:=Kd.C_below hr3 HB.out
 have hu27:=Tryz.underlying27
 have hu156:=Tryz.underlying156
 unfold sets_Of.f at h
 cases hv:validB l0 l1 l2 l3 st
 ·have hkn:=jM (known_nil A0 c0 l0 A1 c1 l1 A2 c2 l2 A3 c3 l3 st (w.alloc (Obj.cells #[.slice A0 l0.length c0,.slice A1 l1.length c1,.slice A2 l2.length c2,.slice A3 l3.length c3,.int .i64 st] 27)) r0 r1 r2 r3 hv)
  have hrr:Aside0 ((0:Int)=r):=⟨by rw [hv] at h;simpa using h⟩
  clear hr hr0 hr1 hr2 hr3 r0 r1 r2 r3 hv h
  go_enter Tryz.func69,Tryz.ntmps69
  go_wp2_with (go_at_call 81;refine hkn.out.mono ?_;rintro e w3 ⟨rfl,hb3⟩;replace hb3:=jM hb3)
  go_ret
  exact ⟨by rw [← hrr.out];rfl,below_step HB.out hb3.out⟩
 ·rw [if_pos hv] at h
  obtain ⟨es,he,h⟩:=Option.bind_eq_some_iff.1 h
  obtain ⟨fs,hf,h⟩:=Option.bind_eq_some_iff.1 h
  have HH:=jM h
  have HL:=jM (Kd.C_below hr HB.out)
  have h60:=jM (valid_has hv).1
  have hkn:=jM (known_calls k A0 c0 l0 A1 c1 l1 A2 c2 l2 A3 c3 l3 st es fs (w.alloc (Obj.cells #[.slice A0 l0.length c0,.slice A1 l1.length c1,.slice A2 l2.length c2,.slice A3 l3.length c3,.int .i64 st] 27)) r0 hc0 r1 hc1 r2 hc2 r3 hc3 hv he (Empty_len hv he) hf (fun p hp=>⟨((valid_has hv).2.2 p hp).1,fun xs=>rowF_total _ _ (valid_terms hv) _ _ _ _ _⟩))
  clear hr hr0 hr1 hr2 hr3 r0 r1 r2 r3 hv h he hf
  go_enter Tryz.func69,Tryz.ntmps69
  go_wp2_with (first | (go_at_call 81;refine hkn.out.mono ?_;rintro e w3 ⟨tb,G,cap,dE,E,rfl,y0,y2,y5,y6,hE,hR,hb3⟩;have hrow:=row_calls tb l0.length l2.length A0 A2 E (some ⟨G,0,none⟩) c0 c2 dE cap es fs A c l behind r w3 (Kd.C_below HL.out hb3) h60.out y0 y2 y5 y6 hE (by have:=(Kd.R_reads' hR).2.2;rwa [← (Kd.R_reads' hR).1] at this) HH.out;replace hb3:=jM hb3;replace hR:=jM hR;replace hrow:=jM hrow;clear hE) | (go_at_call 82;refine hrow.out.mono ?_;rintro e w4 ⟨rfl,m,rfl⟩))
  go_ret
  exact ⟨rfl,pw_below_drewN (below_step HB.out hb3.out) _⟩
end Go.Proofs.YtclollnicbcooaaGreatDoor.P
namespace Go.Proofs.YtclollnicbcooaaGreatDoor.P
open Go.RowKit Go.Lib Go.Sort YtclollnicbcooaaGreatDoorW.PrintWords YtclollnicbcooaaGreatDoorW.PrintLast YtclollnicbcooaaGreatDoorW.PrintMore St Base
instance (s:Spt):Decidable (rngS s):=by unfold rngS rngN rngI;infer_instance
def foldE (ofF:List Int→Int→Option Int) (s:Spt):List Edg→(Spt→Int) × List Spt→Option ((Spt→Int) × List Spt)
 | [],Z=>some Z
 | e :: es,Z=>if rngS e.1∧Z.2.length≤1000000000 then (ofF e.2 (Z.1 s)).bind fun t=>foldE ofF s es (moreL Z.1 Z.2 e.1 t) else none
def queueF (ofF:List Int→Int→Option Int) (ed:Spt→Option (List Edg)):Nat→(Spt→Int) × List Spt→Option (Spt→Int)
 | 0,_=>none
 | k+1,(F,q)=>match q with
  | []=>some F
  | s :: q=>(ed s).bind fun es=>if rngS s∧es.length≤1000000 then (foldE ofF s es (F,q)).bind (queueF ofF ed k) else none
def outF (cl:List S77→Option (List S77)) (F:Spt→Int):Nat→List (List S77)→Option (List S96)
 | _,[]=>some []
 | i,c :: K=>(cl c).bind fun items=>if (∀ x ∈ items,rngS ((i:Int),toI x))∧items.length≤1000000 then (outF cl F (i+1) K).map fun r=>⟨items,items.map fun x=>F ((i:Int),toI x)⟩ :: r else none
def beg0:Spt:=(0,(-1,0))
def look_rows.f (k:Nat) (l0:List S65) (l1:List S73) (l2:List ByteArray) (l3:List S68) (st:Int) (K:List (List S77)) (N:List (List Int)):Option (List S96) :=
 if K.length≤1000000∧l3.length≤100000 then (bits_Of.f k [63]).bind fun t0=>(queueF (sets_Of.f k l0 l1 l2 l3 st) (edgesF l0 l1 l2 l3 st K N) k (moreL (fun _=>0) [] beg0 t0)).bind fun F=>outF (states_Close.f l0 l1 l2 l3 st) F 0 K else none
def look_All.f (k:Nat) (l0:List S65) (l1:List S73) (l2:List ByteArray) (l3:List S68) (st:Int):Option (List S96 × Int) :=
 (states_Build.f l0 l1 l2 l3 st).bind fun b=>if b.2.2=0 then (look_rows.f k l0 l1 l2 l3 st b.1 b.2.1).map fun r=>(r,0) else some ([],b.2.2)

theorem foldE_mono {f g:List Int→Int→Option Int} (h:∀ l b,LeO (f l b) (g l b)) (s:Spt):∀ (es:List Edg) (Z:(Spt→Int) × List Spt),LeO (foldE f s es Z) (foldE g s es Z)
 | [],Z=>LeO.refl _
 | e :: es,Z=>by
  unfold foldE
  split
  ·intro r hr
   obtain ⟨t,ht,hr⟩:=Option.bind_eq_some_iff.1 hr
   exact Option.bind_eq_some_iff.2 ⟨t,h _ _ _ ht,foldE_mono h s es _ _ hr⟩
  ·exact LeO.refl _
theorem queueF_mono {f g:List Int→Int→Option Int} (h:∀ l b,LeO (f l b) (g l b)) (ed:Spt→Option (List Edg)):∀ (k:Nat) (Z:(Spt→Int) × List Spt),LeO (queueF f ed k Z) (queueF g ed (k+1) Z)
 | 0,Z=>fun r hr=>by simp [queueF] at hr
 | k+1,(F,[])=>fun r hr=>hr
 | k+1,(F,s :: q)=>fun r hr=>by
  rw [queueF] at hr ⊢
  obtain ⟨es,he,hr⟩:=Option.bind_eq_some_iff.1 hr
  refine Option.bind_eq_some_iff.2 ⟨es,he, ?_⟩
  split at hr
  ·rename_i hg
   rw [if_pos hg]
   obtain ⟨Z,hZ,hr⟩:=Option.bind_eq_some_iff.1 hr
   exact Option.bind_eq_some_iff.2 ⟨Z,foldE_mono h s es _ _ hZ,queueF_mono h ed k Z _ hr⟩
  ·cases hr
theorem look_rows.mono (l0:List S65) (l1:List S73) (l2:List ByteArray) (l3:List S68) (st:Int) (K:List (List S77)) (N:List (List Int)) (k:Nat):LeO (look_rows.f k l0 l1 l2 l3 st K N) (look_rows.f (k+1) l0 l1 l2 l3 st K N):=by
 unfold look_rows.f
 split
 ·intro r h
  obtain ⟨t,ht,h⟩:=Option.bind_eq_some_iff.1 h
  obtain ⟨F,hF,h⟩:=Option.bind_eq_some_iff.1 h
  exact Option.bind_eq_some_iff.2 ⟨t,bits_Of.mono _ _ _ ht,Option.bind_eq_some_iff.2 ⟨F,queueF_mono (fun l b=>sets_Of.mono _ _ _ _ _ _ _ _) _ _ _ _ hF,h⟩⟩
 ·exact LeO.refl _
section
theorem Lk.start (w:World) (g0 g1 g2 g3 g4 Kv Nv:Value):Lk w w.heap.size g0 g1 g2 g3 g4 Kv Nv (fun _=>0) [] (.slice none 0 0) (fun k=>w.heap.size+4≤k) ((((w.alloc (Obj.cells #[g0,g1,g2,g3,g4] 27)).alloc (Obj.cells #[Kv,Nv] 44)).alloc (Obj.map #[] 0)).alloc (Obj.cells #[g0,g1,g2,g3,g4,Kv,Nv,.map (some (w.heap.size+2)),.slice none 0 0] 122)) where
 hb:=below_alloc (below_alloc (below_alloc (below_alloc (RowKit.Below.refl _ _) _) _) _) _
 hB:=Nat.le_refl _
 bg:=blk_alloc (blk_alloc (blk_alloc (blk_new w _) _) _) _
 ba:=by
  have h:=blk_new (w.alloc (Obj.cells #[g0,g1,g2,g3,g4] 27)) (Obj.cells #[Kv,Nv] 44)
  rw [World.size_alloc] at h
  exact blk_alloc (blk_alloc h _) _
 mp:=by
  have h:=Ah.new ((w.alloc (Obj.cells #[g0,g1,g2,g3,g4] 27)).alloc (Obj.cells #[Kv,Nv] 44))
  rw [World.size_alloc,World.size_alloc] at h
  exact h.same (Below.block (below_alloc (RowKit.Below.refl _ _) _) _ h.lt)
 bx:=by
  have h:=blk_new (((w.alloc (Obj.cells #[g0,g1,g2,g3,g4] 27)).alloc (Obj.cells #[Kv,Nv] 44)).alloc (Obj.map #[] 0)) (Obj.cells #[g0,g1,g2,g3,g4,Kv,Nv,.map (some (w.heap.size+2)),.slice none 0 0] 122)
  rw [World.size_alloc,World.size_alloc,World.size_alloc] at h
  exact h
 hq:=Kd.Q_nil _ _ _ _ _
 ge:=fun k hk=>hk
section
variable {w:World} {B:Nat} {g0 g1 g2 g3 g4 Kv Nv:Value} {F:Spt→Int} {q:List Spt} {vq:Value} {ok:Nat→Prop} {W:World} {s:Spt}
theorem Lk.head (h:Lk w B g0 g1 g2 g3 g4 Kv Nv F (s :: q) vq ok W):∃ (ad:Addr) (c:Nat),vq=.slice (some ad) (q.length+1) c∧1≤c∧W.cell? ad=some (.int .i64 s.1)∧W.cell? ⟨ad.block,ad.off+1,none⟩=some (.int .i64 s.2.1)∧W.cell? ⟨ad.block,ad.off+2,none⟩=some (.int .i64 s.2.2):=by
 obtain ⟨A,c,e,hc,hC⟩:=Kd.Q_reads h.hq
 rw [List.length_map,List.length_cons] at e hc hC
 obtain ⟨ad,cs,e1,hl,hK,hcell⟩:=Kd.C_get hC [] (0:Int) (by omega) (by omega)
 have e2:cs=encS s:=by
  have:=hK.1
  simp at this
  exact this
 subst e2
 have e0:ad.add ((0:Int).toNat * 3)=ad:=add_none ad
 refine ⟨ad,c,by rw [e,e1],by omega, ?_, ?_, ?_⟩
 ·have:=hcell 0 _ rfl
  rw [← e0]
  exact this
 ·have:=hcell 1 _ rfl
  have h1:W.cell? ⟨(ad.add ((0:Int).toNat * 3)).block,(ad.add ((0:Int).toNat * 3)).off+1,none⟩=some (.int .i64 s.2.1):=by
   rw [← add_field _ _ 1 (by omega)];exact this
  rw [e0] at h1
  exact h1
 ·have:=hcell 2 _ rfl
  have h1:W.cell? ⟨(ad.add ((0:Int).toNat * 3)).block,(ad.add ((0:Int).toNat * 3)).off+2,none⟩=some (.int .i64 s.2.2):=by
   rw [← add_field _ _ 2 (by omega)];exact this
  rw [e0] at h1
  exact h1
theorem Lk.pop {A:Option Addr} {c:Nat} (h:Lk w B g0 g1 g2 g3 g4 Kv Nv F (s :: q) (.slice A (q.length+1) c) ok W):Lk w B g0 g1 g2 g3 g4 Kv Nv F q (.slice (if c=1 then A else A.map (·.add (1 * 3))) q.length (c - 1)) ok (W.setCell ⟨B+3,8,none⟩ (.slice (if c=1 then A else A.map (·.add (1 * 3))) q.length (c - 1))):=by
 have hd:=Kd.Q_drop h.hq (k:=1) (by simp)
 have hd':(Kd.raw 3).Q 125 W (B+4) ok (.slice (if c=1 then A else A.map (·.add (1 * 3))) q.length (c - 1)) (q.map encS):=hd
 exact h.push hd' ⟨rfl,rfl,rfl,Nat.le_refl _,fun _ _ _=>rfl⟩
theorem Lk.qlt (h:Lk w B g0 g1 g2 g3 g4 Kv Nv F q vq ok W):∀ k,vq.ownBlock=some k→k < W.heap.size∧∃ cells,W.heap[k]? = some (.cells cells 125 (0,0)):=fun k hk=>by
 obtain ⟨_,_,h2,p,hp,cells,hc⟩:=(Kd.Q_bound h.hq).1 k hk
 refine ⟨h2,cells, ?_⟩
 have:p=125:=by
  rcases List.mem_cons.1 hp with e | e
  ·exact e
  ·cases e
 rw [← this]
 exact hc
end
theorem Er.typed {w:World} {b:Nat} {ok:Nat→Prop} {v:Value} {es:List Edg} {W:World} (h:Er w b ok v es W):∀ k,v.ownBlock=some k→b≤k∧k < W.heap.size∧∃ cells,W.heap[k]? = some (.cells cells 130 (0,0)):=fun k hk=>by
 obtain ⟨rows,h1,h2,h3⟩:=h.ex
 obtain ⟨_,hb,hlt,p,hp,cells,hc⟩:=(Kd.R_bound h3).1 k hk
 refine ⟨hb,hlt,cells, ?_⟩
 have:p=130:=by
  rcases List.mem_cons.1 hp with e | e
  ·exact e
  ·cases e
 rw [← this]
 exact hc
theorem Er.over {w w':World} {B b:Nat} {g0 g1 g2 g3 g4 Kv Nv:Value} {F:Spt→Int} {q:List Spt} {vq v:Value} {ok ok':Nat→Prop} {es:List Edg} {W W1:World} (h:Er w b ok' v es W) (hL:Lk w' B g0 g1 g2 g3 g4 Kv Nv F q vq ok W) (hb:B+4≤b) (hk:∀ k,k < W.heap.size→k≠B+2→k≠B+3→some k≠vq.ownBlock→W1.heap[k]? = W.heap[k]?):Er w b ok' v es W1 :=
 h.step fun k hkv hlt=>by
  obtain ⟨h1,_,cells,h3⟩:=h.typed k hkv.symm
  refine hk k hlt (by omega) (by omega) fun e=>?_
  obtain ⟨_,cells',h4⟩:=hL.qlt k e.symm
  rw [h3] at h4
  injection h4 with h4
  injection h4 with _ h4
  cases h4
end
section
structure Lz (w:World) (B:Nat) (g0 g1 g2 g3 g4 Kv Nv:Value) (F:Spt→Int) (vq:Value) (W:World):Prop where
 hb:RowKit.Below w.heap.size w W
 hB:w.heap.size≤B
 bg:W.heap[B]? = some (.cells #[g0,g1,g2,g3,g4] 27 (0,0))
 ba:W.heap[B+1]? = some (.cells #[Kv,Nv] 44 (0,0))
 mp:Ah W (B+2) F
 bx:W.heap[B+3]? = some (.cells #[g0,g1,g2,g3,g4,Kv,Nv,.map (some (B+2)),vq] 122 (0,0))
section
variable {w:World} {B:Nat} {g0 g1 g2 g3 g4 Kv Nv:Value} {F:Spt→Int} {q:List Spt} {vq:Value} {ok:Nat→Prop} {W W1:World}
theorem Lk.lz (h:Lk w B g0 g1 g2 g3 g4 Kv Nv F q vq ok W):Lz w B g0 g1 g2 g3 g4 Kv Nv F vq W:=⟨h.hb,h.hB,h.bg,h.ba,h.mp,h.bx⟩
theorem Lz.size (h:Lz w B g0 g1 g2 g3 g4 Kv Nv F vq W):B+4≤W.heap.size:=by have:=blk_lt h.bx;omega
theorem Lz.below {g:Nat} (h:Lz w B g0 g1 g2 g3 g4 Kv Nv F vq W) (hg:B+4≤g) (hb:RowKit.Below g W W1):Lz w B g0 g1 g2 g3 g4 Kv Nv F vq W1 where
 hb:=⟨hb.os.trans h.hb.os,hb.tape.trans h.hb.tape,hb.output.trans h.hb.output,Nat.le_trans h.hb.size hb.size,fun i hi=>(hb.block i (by have:=h.hB;omega)).trans (h.hb.block i hi)⟩
 hB:=h.hB
 bg:=(hb.block _ (by omega)).trans h.bg
 ba:=(hb.block _ (by omega)).trans h.ba
 mp:=h.mp.same (hb.block _ (by omega))
 bx:=(hb.block _ (by omega)).trans h.bx
theorem below_grow {g:Nat} {W2:World} {row:Option Nat} (h:RowKit.Below g W W1) (hg:W1.grownBy W2 row) (hs:g≤W1.heap.size) (hr:∀ k,row=some k→g≤k):RowKit.Below g W W2 :=
 ⟨hg.os.trans h.os,hg.tape.trans h.tape,hg.output.trans h.output,Nat.le_trans h.size hg.size,fun i hi=>(hg.block i (Nat.lt_of_lt_of_le hi hs) (fun e=>by have:=hr i e.symm;omega)).trans (h.block i hi)⟩
end
theorem info96:(Tryz.prog.info? 96).map (fun i=>(i.zero,i.size,i.bytes))=some (some (.agg #[.slice none 0 0,.slice none 0 0]),2,48):=by kernel_rfl
theorem append_set {b:Nat} {v:Value} {xs:List Int} {W:World} (h:Kd.R (Kd.int .u64) 48 W b (fun k=>b≤k) v xs) (x:Int) (hb:b≤W.heap.size) (hl:xs.length≤1000000)
  (ops:Array Oper) (o:Oper) (ac:Act) (Q:Exit→Act→World→Prop) (Kc:Act→World→Prop) (hw:Region.wanted o (yielded ops ac.tmps)=true)
  (ho:o.op=.call { callee:=.builtin .append,args:=#[.tmp 89,.tmp 98],argTypes:=#[32,32] }) (hs:ac.eval (.tmp 89)=v) (hx:ac.eval (.tmp 98)=.slice (some ⟨W.heap.size,0,none⟩) 1 1)
  (hkc:∀ v1 w1,Kd.R (Kd.int .u64) 48 w1 b (fun k=>b≤k) v1 (xs ++ [x])→W.grownBy w1 v.ownBlock→Kc (ac.put o.dst v1) w1) :
  if Region.wanted o (yielded ops ac.tmps)=true then Oper.wp Tryz.prog o ac (W.alloc (.cells #[.int .u64 x] 48)) Kc Q else Kc (ac.put o.dst undef) (W.alloc (.cells #[.int .u64 x] 48)):=by
 refine Kd.R_append_step (Kd.int .u64) (w0:=W) b hw (.tmp 89) (.tmp 98) 32 48 _ 8 ho Tryz.underlying32 info48 rfl (by decide) (by decide) v xs x [.int .u64 x] (fun k=>b≤k) (fun _=>False) hs hx rfl (fun _ h=>h.elim) (fun k hk=>by omega) h (RowKit.Below.refl _ _) hb (by omega) ?_
 intro v1 w1 hR hB hg hat
 exact hkc v1 w1 hR hg
end
section
attribute [local go_sem] Oper.semAt_some
section
set_option maxHeartbeats 8000000 in
set_option maxRecDepth 100000 in
theorem look_rows.calls (k:Nat) (A0:Option Addr) (c0:Nat) (l0:List S65) (A1:Option Addr) (c1:Nat) (l1:List S73) (A2:Option Addr) (c2:Nat) (l2:List ByteArray) (A3:Option Addr) (c3:Nat) (l3:List S68) (st:Int) (AK:Option Addr) (cK:Nat) (K:List (List S77)) (AN:Option Addr) (cN:Nat) (N:List (List Int)) (r:List S96) (w:World)
  (hr0:Kd.C k65 w A0 l0.length l0) (hc0:l0.length≤c0) (hr1:Kd.C k73 w A1 l1.length l1) (hc1:l1.length≤c1) (hr2:Kd.C Kd.string w A2 l2.length l2) (hc2:l2.length≤c2) (hr3:Kd.C k68 w A3 l3.length l3) (hc3:l3.length≤c3)
  (hrK:Kd.C (Kd.slice 77 k77) w AK K.length K) (hcK:K.length≤cK) (hrN:Kd.C (Kd.slice 3 (Kd.int .i64)) w AN N.length N) (hcN:N.length≤cN) (h:look_rows.f k l0 l1 l2 l3 st K N=some r) :
  Calls Tryz.prog 44 #[.agg #[.slice A0 l0.length c0,.slice A1 l1.length c1,.slice A2 l2.length c2,.slice A3 l3.length c3,.int .i64 st],.agg #[.slice AK K.length cK,.slice AN N.length cN]] w fun e w'=>∃ v0_:Value,e=.returned v0_∧Kd.S k96 96 w' w.heap.size (fun _=>True) v0_ r∧RowKit.Below w.heap.size w w':=by
 have HR0:=jM hr0
 have HR1:=jM hr1
 have HR2:=jM hr2
 have HR3:=jM hr3
 have HRK:=jM hrK
 have HRN:=jM hrN
 have HC0:=jM hc0
 have HC1:=jM hc1
 have HC2:=jM hc2
 have HC3:=jM hc3
 have HCK:=jM hcK
 have HCN:=jM hcN
 unfold look_rows.f at h
 split at h
 case isFalse=>cases h
 rename_i hKl
 obtain ⟨t0,ht0,h⟩:=Option.bind_eq_some_iff.1 h
 obtain ⟨F,hQ,hO⟩:=Option.bind_eq_some_iff.1 h
 have HOF:=jM fun (W':World) (hb:RowKit.Below w.heap.size w W') (A:Option Addr) (c:Nat) (l:List Int) (v t:Int) (hr:Kd.C (Kd.int .i64) W' A l.length l) (hc:l.length≤c) (ht:sets_Of.f k l0 l1 l2 l3 st l v=some t)=>sets_Of.calls k A0 c0 l0 A1 c1 l1 A2 c2 l2 A3 c3 l3 st A c l v t W' (Kd.C_below HR0.out hb) HC0.out (Kd.C_below HR1.out hb) HC1.out (Kd.C_below HR2.out hb) HC2.out (Kd.C_below HR3.out hb) HC3.out hr hc ht
 have HKL:=jM hKl.1
 have HL3:=jM hKl.2
 have HT0:=jM ht0
 have HQ:=jM hQ
 have HO:=jM hO
 clear h hKl ht0 hQ hO hr0 hr1 hr2 hr3 hrK hrN hc0 hc1 hc2 hc3 hcK hcN
 have hu125:=Tryz.underlying125
 have hu122:=Tryz.underlying122
 have hu120:=Tryz.underlying120
 have hu130:=Tryz.underlying130
 have hu127:=Tryz.underlying127
 have hu77:=Tryz.underlying77
 have hu27:=Tryz.underlying27
 have hu44:=Tryz.underlying44
 have hu96:=Tryz.underlying96
 have hu70:=Tryz.underlying70
 have hmm:=@run_makeMap Tryz.prog
 go_enter Tryz.func44,Tryz.ntmps44
 go_upto_region 2 with fail
 have H0:=jM (Lk.start w (.slice A0 l0.length c0) (.slice A1 l1.length c1) (.slice A2 l2.length c2) (.slice A3 l3.length c3) (.int .i64 st) (.slice AK K.length cK) (.slice AN N.length cN))
 rw [show w.heap.size+1+1+1=w.heap.size+3 from rfl,show w.heap.size+1+1=w.heap.size+2 from rfl]
 generalize ((((w.alloc (Obj.cells #[.slice A0 l0.length c0,.slice A1 l1.length c1,.slice A2 l2.length c2,.slice A3 l3.length c3,.int .i64 st] 27)).alloc (Obj.cells #[.slice AK K.length cK,.slice AN N.length cN] 44)).alloc (Obj.map #[] 0)).alloc (Obj.cells #[.slice A0 l0.length c0,.slice A1 l1.length c1,.slice A2 l2.length c2,.slice A3 l3.length c3,.int .i64 st,.slice AK K.length cK,.slice AN N.length cN,.map (some (w.heap.size+2)),.slice none 0 0] 122))=W1 at *
 have HBA:=jM (below_alloc (RowKit.Below.refl W1.heap.size W1) (Obj.cells #[.int .i64 63] 3))
 have HMO:=jM fun (W':World) (hb:RowKit.Below W1.heap.size W1 W')=>more_calls (H0.out.below hb) (s:=beg0) (by unfold rngS rngN rngI beg0;simp) t0 (fun k hk=>Nat.le_trans (Lk.size (H0.out.below hb)) hk) (Nat.zero_le _)
 go_upto_region 3 with (first | (go_at_call 67;refine (bits_Of.calls k _ _ [63] t0 _ (C_one (blk_new W1 _) rfl) (Nat.le_refl _) HT0.out).mono ?_;rintro e w2 ⟨rfl,⟨n2,rfl⟩⟩) | (go_at_call 66;refine (HMO.out _ (by repeat (first | exact HBA.out | apply pw_below_drewN | apply below_drew1))).mono ?_;rintro e w3 ⟨rfl,vq,hL, -, -, -⟩;have HL:=jM hL;clear hL))
 clear h H0 HBA HMO HT0
 go_loopg [] k (fun kq wr=>∃ (F1:Spt→Int) (q:List Spt) (vq:Value),Aside0 (Lk w w.heap.size (.slice A0 l0.length c0) (.slice A1 l1.length c1) (.slice A2 l2.length c2) (.slice A3 l3.length c3) (.int .i64 st) (.slice AK K.length cK) (.slice AN N.length cN) F1 q vq (fun k=>w.heap.size+4≤k) wr)∧Aside0 (queueF (sets_Of.f k l0 l1 l2 l3 st) (edgesF l0 l1 l2 l3 st K N) kq (F1,q)=some F))
 case atStart=>exact ⟨_,_,vq,HL,HQ⟩
 case round =>
  clear HL HQ
  obtain ⟨F1,q,vq1,HI,HX⟩:=hrel
  cases gk with
  | zero=>have:=HX.out;rw [queueF] at this;cases this
  | succ k1 =>
  cases q with
  | nil =>
   have HFE:F1=F:=by have:=HX.out;rw [queueF] at this;exact Option.some.inj this
   subst HFE
   clear HX
   obtain ⟨A8,c8,e8,hc8⟩:=Kd.Q_slice HI.out.hq
   subst e8
   rw [List.length_map,List.length_nil] at HI
   have y8:wr.cell? ⟨w.heap.size+3,8,none⟩=some (.slice A8 0 c8):=blk_cell HI.out.bx 8
   have hk0:wr.cell? ⟨w.heap.size+1,0,none⟩=some (.slice AK K.length cK):=blk_cell HI.out.ba 0
   have HZ:=jM HI.out.lz
   clear HI hc8
   go_upto_region 13 with fail
   clear y8 hk0
   have HOS:Aside0 (∃ rest,outF (states_Close.f l0 l1 l2 l3 st) F1 0 (K.drop 0)=some rest∧[] ++ rest=r):=⟨r,by rw [List.drop_zero];exact HO.out,rfl⟩
   go_loopw [9,72] (fun v9 v72 W'=>∃ (i:Nat) (outs:List S96),v72=.int .i64 i∧i≤K.length∧Aside0 (outs.length=i)∧Aside0 (∃ rest,outF (states_Close.f l0 l1 l2 l3 st) F1 i (K.drop i)=some rest∧outs ++ rest=r)∧Aside0 (Kd.S k96 96 W' (w.heap.size+4) (fun k=>w.heap.size+4≤k) v9 outs)∧Aside0 (Lz w w.heap.size (.slice A0 l0.length c0) (.slice A1 l1.length c1) (.slice A2 l2.length c2) (.slice A3 l3.length c3) (.int .i64 st) (.slice AK K.length cK) (.slice AN N.length cN) F1 (.slice A8 0 c8) W')) (fun _ v72 _=>K.length - (intOf v72).toNat)
   case atStart=>exact ⟨0,[],rfl,Nat.zero_le _,⟨rfl⟩,HOS,⟨Kd.S_nil _ _ _ _ _⟩,HZ⟩
   case round =>
    clear HZ HOS
    obtain ⟨i,outs,rfl,hi,HLEN,HOS,HS,HZ⟩:=hrel
    by_cases hlt:i < K.length
    ·have hib:decide (i < K.length)=true:=decide_eq_true hlt
     have hiw:IntKind.i64.wrap ((i:Int)+1)=((i+1:Nat):Int):=by
      have:=HKL.out
      rw [IntWalk.i64_in _ (by omega)]
      rfl
     obtain ⟨rest,hrest,hall⟩:=HOS.out
     obtain ⟨kn,hkn⟩:∃ kn,kn=K[i]:=⟨_,rfl⟩
     rw [List.drop_eq_getElem_cons hlt,← hkn,outF] at hrest
     obtain ⟨items,hit,hrest⟩:=Option.bind_eq_some_iff.1 hrest
     split at hrest
     case isFalse=>cases hrest
     rename_i hg
     obtain ⟨rest2,hr2,hrr⟩:=Option.map_eq_some_iff.1 hrest
     have HOS2:=jM hr2
     have HALL:=jM (show (outs ++ [⟨items,items.map fun x=>F1 ((i:Int),toI x)⟩]) ++ rest2=r by rw [← hall,← hrr];simp)
     have HRG:=jM hg.1
     have HIL:=jM hg.2
     have hrd:rd_L15 K (i:Int)=kn:=by
      unfold rd_L15
      rw [hkn,Int.toNat_natCast,List.getD_eq_getElem?_getD,List.getElem?_eq_getElem hlt]
      rfl
     obtain ⟨adK,A1',c1',eK,hx,hl,hC⟩:=at_L15 (Kd.C_below HRK.out HZ.out.hb) (i:Int) (by omega) (by omega)
     rw [Int.toNat_natCast] at hx
     rw [hrd] at hx hl hC
     subst eK
     have HCLO:=jM fun (W':World) (hb:RowKit.Below w.heap.size w W') (hC':Kd.C k77 W' A1' kn.length kn)=>states_Close.calls A0 c0 l0 A1 c1 l1 A2 c2 l2 A3 c3 l3 st A1' c1' kn items W' (Kd.C_below HR0.out hb) HC0.out (Kd.C_below HR1.out hb) HC1.out (Kd.C_below HR2.out hb) HC2.out (Kd.C_below HR3.out hb) HC3.out hC' hl hit
     have HCK1:=jM hC
     clear hrest hit hg hr2 hrr hall hrd hl hC hkn HOS
     go_upto_region 15 with fail
     clear hx
     obtain ⟨z0,z1,z2,z3,z4⟩:=five5 HZ.out.bg
     go_upto_region 16 with (go_at_call 70;refine (HCLO.out wr HZ.out.hb HCK1.out).mono ?_;rintro e5 V5 ⟨v0,rfl,hR5,hb5⟩;obtain ⟨Ai,ci,ei,hci,hCi⟩:=Kd.R_reads hR5;subst ei;have HR5:=jM hR5;have HB5:=jM hb5;have HCI:=jM hci;have HC5:=jM hCi;clear hR5 hb5 hCi hci)
     clear z0 z1 z2 z3 z4
     have B12:=jM (blk_new V5 (Obj.cells #[.slice Ai items.length ci,.slice none 0 0] 96))
     have HA:=jM (below_alloc (RowKit.Below.refl V5.heap.size V5) (Obj.cells #[.slice Ai items.length ci,.slice none 0 0] 96))
     have HZ5:=jM (HZ.out.below (Lz.size HZ.out) HB5.out)
     have HS5:=jM (Kd.S_old HS.out HB5.out)
     have HSZ:=jM (show w.heap.size+4≤wr.heap.size∧wr.heap.size≤V5.heap.size∧V5.heap.size < (V5.alloc (Obj.cells #[.slice Ai items.length ci,.slice none 0 0] 96)).heap.size from ⟨Lz.size HZ.out,HB5.out.size,by rw [World.size_alloc];exact Nat.lt_succ_self _⟩)
     have HRA:=jM (show Kd.R (Kd.int .u64) 48 (V5.alloc (Obj.cells #[.slice Ai items.length ci,.slice none 0 0] 96)) (V5.heap.size+1) (fun k=>V5.heap.size+1≤k) (.slice none 0 0) (((items.take 0).map fun x=>F1 ((i:Int),toI x))) from Kd.R_nil _ _ _ _ _)
     have ys:(V5.alloc (Obj.cells #[.slice Ai items.length ci,.slice none 0 0] 96)).cell? ⟨V5.heap.size,0,none⟩=some (.slice Ai items.length ci):=blk_cell B12.out 0
     clear HZ HS HB5 HCLO HCK1
     generalize wr.heap.size=b0 at *
     generalize V5.alloc (Obj.cells #[.slice Ai items.length ci,.slice none 0 0] 96)=W16 at *
     obtain ⟨bb,hbb⟩:∃ bb,bb=V5.heap.size:=⟨_,rfl⟩
     rw [← hbb] at B12 HRA ys ⊢
     have HBBX:=jM hbb
     clear hbb
     go_upto_region 17 with fail
     clear ys
     go_loopw [84] (fun v84 W'=>∃ (j:Nat) (va:Value),v84=.int .i64 j∧j≤items.length∧Aside0 (RowKit.Below V5.heap.size V5 W')∧Aside0 (W'.heap[bb]? = some (.cells #[.slice Ai items.length ci,va] 96 (0,0)))∧Aside0 (Kd.R (Kd.int .u64) 48 W' (bb+1) (fun k=>bb+1≤k) va (((items.take j).map fun x=>F1 ((i:Int),toI x))))) (fun v84 _=>items.length - (intOf v84).toNat)
     case atStart=>exact ⟨0,_,rfl,Nat.zero_le _,HA,B12,HRA⟩
     case round =>
      clear HA B12 HRA
      obtain ⟨j,va,rfl,hj,HBj,B12,HRA⟩:=hrel
      by_cases hjl:j < items.length
      ·have hjb:decide (j < items.length)=true:=decide_eq_true hjl
       have hjw:IntKind.i64.wrap ((j:Int)+1)=((j+1:Nat):Int):=by
        have:=HIL.out
        rw [IntWalk.i64_in _ (by omega)]
        rfl
       obtain ⟨it,hit⟩:∃ it,it=items[j]:=⟨_,rfl⟩
       have hrd:rd_T77 items (j:Int)=it:=by
        unfold rd_T77
        rw [hit,Int.toNat_natCast,List.getD_eq_getElem?_getD,List.getElem?_eq_getElem hjl]
        rfl
       obtain ⟨adi,ei,hx0,hx1⟩:=at_T77 (Kd.C_below HC5.out HBj.out) (j:Int) (by omega) (by omega)
       rw [Int.toNat_natCast,hrd] at hx0 hx1
       subst ei
       have HRI:=jM (HRG.out it (by rw [hit];exact List.getElem_mem hjl))
       have HTK:=jM (show (items.take (j+1)).map (fun x=>F1 ((i:Int),toI x))=(items.take j).map (fun x=>F1 ((i:Int),toI x)) ++ [F1 ((i:Int),toI it)] by
        rw [List.take_add_one,List.getElem?_eq_getElem hjl,List.map_append,hit];rfl)
       clear hrd hit
       go_upto_region 19 with fail
       have B14:=jM (blk_new wr (Obj.cells #[.int .i64 it.f0,.int .i64 it.f1] 77))
       have HAj:=jM (below_alloc (RowKit.Below.refl wr.heap.size wr) (Obj.cells #[.int .i64 it.f0,.int .i64 it.f1] 77))
       have HBJ2:=jM (below_step HBj.out HAj.out)
       have B12b:=jM (blk_below B12.out HAj.out)
       have HRAb:=jM (Kd.R_below HRA.out HAj.out)
       have HW2:=jM (show bb+1≤(wr.alloc (Obj.cells #[.int .i64 it.f0,.int .i64 it.f1] 77)).heap.size from Nat.le_trans (blk_lt B12.out) HAj.out.size)
       clear hx0 hx1 HBj B12 HRA
       generalize wr.alloc (Obj.cells #[.int .i64 it.f0,.int .i64 it.f1] 77)=W9 at *
       generalize wr.heap.size=b14 at *
       have HZ9:=jM (HZ5.out.below (Nat.le_trans HSZ.out.1 HSZ.out.2.1) HBJ2.out)
       have ya:W9.cell? ⟨bb,1,none⟩=some va:=blk_cell B12b.out 1
       have fa:=blk_frozen B12b.out 1
       have ym:W9.cell? ⟨w.heap.size+3,7,none⟩=some (.map (some (w.heap.size+2))):=blk_cell HZ9.out.bx 7
       have i0:W9.cell? ⟨b14,0,none⟩=some (.int .i64 it.f0):=blk_cell B14.out 0
       have i1:W9.cell? ⟨b14,1,none⟩=some (.int .i64 it.f1):=blk_cell B14.out 1
       have hlk0:=HZ9.out.mp.look HRI.out W9 rfl
       have hlk1:=HZ9.out.mp.look HRI.out W9.drew rfl
       unfold valS toI at hlk0 hlk1
       have HAP:=jM (append_set (Kd.R_drew HRAb.out) (F1 ((i:Int),toI it)) HW2.out (by rw [List.length_map,List.length_take];have:=HIL.out;omega))
       have hlt12:bb < W9.heap.size:=blk_lt B12b.out
       have HFX:=jM (show ∀ (v1:Value) (w1:World),Kd.R (Kd.int .u64) 48 w1 (bb+1) (fun k=>bb+1≤k) v1 ((items.take j).map (fun x=>F1 ((i:Int),toI x)) ++ [F1 ((i:Int),toI it)])→W9.drew.grownBy w1 va.ownBlock→RowKit.Below V5.heap.size V5 (w1.setCell ⟨bb,1,none⟩ v1)∧(w1.setCell ⟨bb,1,none⟩ v1).heap[bb]? = some (.cells #[(.slice (some adi) items.length ci),v1] 96 (0,0))∧Kd.R (Kd.int .u64) 48 (w1.setCell ⟨bb,1,none⟩ v1) (bb+1) (fun k=>bb+1≤k) v1 ((items.take j).map (fun x=>F1 ((i:Int),toI x)) ++ [F1 ((i:Int),toI it)]) from fun v1 w1 hR hg=>by
        have hb1:=(hg.block bb (blk_lt B12b.out) (fun e=>by have:=Kd.R_base HRAb.out _ e.symm;omega)).trans B12b.out
        refine ⟨below_set (below_grow (below_drew1 HBJ2.out) hg HBJ2.out.size (fun k hk=>by have:=Kd.R_base HRAb.out _ hk;have:=HBBX.out;omega)) (Nat.le_of_eq HBBX.out.symm),blk_put hb1 1 v1 rfl,Kd.R_far hR (p:=⟨bb,1,none⟩) (fun k hk=>by show k≠bb;omega) v1⟩)
       go_region_law (refine HAP.out _ _ _ _ _ (by rfl) rfl (by simp [Act.eval,Act.put]) (by simp [Act.eval,Act.put]) ?_;intro v1 w1 hR hg;obtain ⟨Av,cv,ev⟩:=Kd.R_slice hR;have hb1:=(hg.block bb (blk_lt B12b.out) (fun e=>by have:=Kd.R_base HRAb.out _ e.symm;omega)).trans B12b.out;have d1:=blk_cell hb1 1;have f1:=blk_frozen hb1 1;have HFIN:=jM (HFX.out v1 w1 hR hg);subst ev;clear hR hg hb1)
       all_goals go_wp2_with fail
       all_goals rw [← HTK.out,show ((items.take (j+1)).map (fun x=>F1 ((i:Int),toI x))).length=j+1 by rw [List.length_map,List.length_take];omega] at HFIN
       all_goals go_roundw
       all_goals first
        | exact ⟨j+1,_,rfl,hjl,⟨HFIN.out.1⟩,⟨HFIN.out.2.1⟩,⟨HFIN.out.2.2⟩⟩
        | (simp [intOf];omega)
      ·have hjb:decide (j < items.length)=false:=decide_eq_false hjl
       have hje:j=items.length:=by omega
       subst hje
       rw [List.take_length] at HRA
       obtain ⟨Av,cv,ev⟩:=Kd.R_slice HRA.out
       rw [List.length_map] at ev
       subst ev
       obtain ⟨A9,c9,e9⟩:=Kd.S_slice HS5.out
       subst e9
       have y0:wr.cell? ⟨bb,0,none⟩=some (.slice Ai items.length ci):=blk_cell B12.out 0
       have y1:wr.cell? ⟨bb,1,none⟩=some (.slice Av items.length cv):=blk_cell B12.out 1
       have hle0:w.heap.size+4≤b0:=HSZ.out.1
       have hbb0:b0≤bb:=by have:=HSZ.out.2.1;have:=HBBX.out;omega
       have HWS:=jM (show w.heap.size+4≤wr.heap.size from Nat.le_trans hle0 (Nat.le_trans HSZ.out.2.1 HBj.out.size))
       have HPM:=jM (k96_mkM wr (w.heap.size+4) (fun k=>b0≤k) ⟨items,items.map fun x=>F1 ((i:Int),toI x)⟩ (Kd.R_lower (Kd.R_mono (Kd.R_bound (Kd.R_below HR5.out HBj.out)) (fun k hk=>hk.2.1)) hle0) (Kd.R_lower (Kd.R_mono HRA.out (fun k hk=>by omega)) (by omega)))
       have HS6:=jM (Kd.S_mono (Kd.S_below HS5.out HBj.out) (ok':=fun k=>w.heap.size+4≤k∧¬ (b0≤k)) (fun k hk=>⟨hk.1,by omega⟩))
       have HOKP:=jM (show ∀ k,b0≤k→w.heap.size+4≤k∧some k≠(Value.slice A9 outs.length c9).ownBlock from fun k hk=>⟨Nat.le_trans hle0 hk,fun e=>by obtain ⟨f,hf⟩:=HS6.out;exact (hf.1 k e.symm).2 hk⟩)
       have HZj:=jM (HZ5.out.below (Nat.le_trans HSZ.out.1 HSZ.out.2.1) HBj.out)
       have HLN:=jM (show outs.length≤1000000 by have:=HLEN.out;have:=HKL.out;omega)
       clear hle0 hbb0
       go_upto_region 22 with (first | ((with_reducible refine gate_builtin (b:=.append) (xs:=#[.tmp 102,.tmp 104]) rfl ?_);at_builtin;refine Kd.S_append k96 (w0:=wr) (w.heap.size+4) rfl (.tmp 102) (.tmp 104) 70 96 (.agg #[.slice none 0 0,.slice none 0 0]) 48 rfl Tryz.underlying70 info96 rfl (by decide) (by omega) (.slice A9 outs.length c9) outs ⟨items,items.map fun x=>F1 ((i:Int),toI x)⟩ [.slice Ai items.length ci,.slice Av items.length cv] (fun k=>w.heap.size+4≤k) (fun k=>b0≤k) rfl rfl HPM.out HOKP.out (fun k hk=>Nat.le_trans HWS.out hk) HS6.out (RowKit.Below.refl _ _) HWS.out ?aL ?_;(case aL=>have:=HLN.out;omega);intro v14 w14 ho hb hg hat;have HS14:=jM ho;have HZ14:=jM (HZj.out.below (Nat.le_refl _) hb);clear ho hb hg hat))
       go_wp2_with fail
       go_roundw
       all_goals first
        | exact ⟨i+1,outs ++ [⟨items,items.map fun x=>F1 ((i:Int),toI x)⟩],rfl,hlt,⟨by rw [List.length_append,HLEN.out];rfl⟩,⟨⟨rest2,HOS2.out,HALL.out⟩⟩,HS14,HZ14⟩
        | (simp [intOf];omega)
    ·have hib:decide (i < K.length)=false:=decide_eq_false hlt
     have hie:i=K.length:=by omega
     obtain ⟨rest,hrest,hall⟩:=HOS.out
     rw [hie,List.drop_length,outF] at hrest
     have HRO:=jM (show outs=r by have:=Option.some.inj hrest;rw [← this,List.append_nil] at hall;exact hall)
     clear hrest hall HOS hie
     go_wp2_with fail
     go_ret
     exact ⟨_,rfl,by rw [← HRO.out];exact Kd.S_mono (Kd.S_lower HS.out (Nat.le_add_right _ _)) (fun _ _=>trivial),HZ.out.hb⟩
  | cons s q =>
   have hx:=HX.out
   rw [queueF] at hx
   obtain ⟨es,hes,hx⟩:=Option.bind_eq_some_iff.1 hx
   split at hx
   case isFalse=>cases hx
   rename_i hrs
   obtain ⟨Z,hZ,hx⟩:=Option.bind_eq_some_iff.1 hx
   have HES:=jM hes
   have HRS:=jM hrs.1
   have HEL:=jM hrs.2
   have HZ:=jM hZ
   have HN:=jM hx
   clear hes hrs hZ hx HX
   obtain ⟨ad,c,rfl,hc1,x0,x1,x2⟩:=HI.out.head
   have y8:wr.cell? ⟨w.heap.size+3,8,none⟩=some (.slice (some ad) (q.length+1) c):=blk_cell HI.out.bx 8
   have hpos:decide (0 < q.length+1)=true:=decide_eq_true (Nat.succ_pos _)
   have hpos2:decide ((0:Int) < ((q.length+1:Nat):Int))=true:=decide_eq_true (by omega)
   have hne0:w.heap.size+3 < wr.heap.size:=by have:=HI.out.size;omega
   obtain ⟨i129,hi129,hsz129⟩:=Option.map_eq_some_iff.1 info125
   have hsl:=cut_from (P:=Tryz.prog) 120 125 .i64 Tryz.underlying120 hi129 3 (congrArg (fun z=>z.2.1) hsz129) (some ad) (q.length+1) c 1 (by omega) (by omega)
   rw [show (1:Int).toNat=1 from rfl,Nat.add_sub_cancel] at hsl
   clear hi129 hsz129
   have HIb:=jM (Lk.pop (Lk.below HI.out (below_alloc (RowKit.Below.refl _ wr) (Obj.cells #[.int .i64 s.1,.int .i64 s.2.1,.int .i64 s.2.2] 125))))
   have BXb:=jM (blk_new wr (Obj.cells #[.int .i64 s.1,.int .i64 s.2.1,.int .i64 s.2.2] 125))
   have HQL:=jM (show some wr.heap.size≠(Value.slice (if c=1 then some ad else (some ad).map (·.add (1 * 3))) q.length (c - 1)).ownBlock from fun e=>by have:=((Lk.pop HI.out).qlt _ e.symm).1;rw [World.size_setCell] at this;exact Nat.lt_irrefl _ this)
   have f8:=blk_frozen HI.out.bx 8
   generalize hT:(if c=1 then some ad else (some ad).map (·.add (1 * 3)))=T at *
   have HT:=jM hT
   clear hT
   go_upto_region 5 with fail
   have HI1:=jM (Lk.below HI.out (below_alloc (RowKit.Below.refl _ wr) (Obj.cells #[.int .i64 s.1,.int .i64 s.2.1,.int .i64 s.2.2] 125)))
   have HSZ:=jM HI.out.size
   clear HI x0 x1 x2 y8 f8 hne0 hpos hpos2
   generalize wr.alloc (Obj.cells #[.int .i64 s.1,.int .i64 s.2.1,.int .i64 s.2.2] 125)=V1 at *
   generalize wr.heap.size=xb at *
   have y8:V1.cell? ⟨w.heap.size+3,8,none⟩=some (.slice (some ad) (q.length+1) c):=blk_cell HI1.out.bx 8
   have f8:=blk_frozen HI1.out.bx 8
   go_upto_region 6 with fail
   have BX2:=jM (blk_far BXb.out (show xb≠(⟨w.heap.size+3,8,none⟩:Addr).block by have:=HSZ.out;show xb≠w.heap.size+3;omega) (.slice T q.length (c - 1)))
   clear BXb HI1 y8 f8 hsl
   generalize V1.setCell ⟨w.heap.size+3,8,none⟩ (.slice T q.length (c - 1))=V2 at *
   have t0:V2.cell? ⟨xb,0,none⟩=some (.int .i64 s.1):=blk_cell BX2.out 0
   have t1:V2.cell? ⟨xb,1,none⟩=some (.int .i64 s.2.1):=blk_cell BX2.out 1
   have t2:V2.cell? ⟨xb,2,none⟩=some (.int .i64 s.2.2):=blk_cell BX2.out 2
   have HED:=jM (edges_calls HR0.out HC0.out HR1.out HC1.out HR2.out HC2.out HR3.out HC3.out HRK.out HCK.out HRN.out HCN.out HIb.out s es HES.out HL3.out)
   go_upto_region 7 with (go_at_call 68;refine HED.out.mono ?_;rintro e V3 ⟨AE,cE,rfl,hE,hb3⟩;have HE3:=jM hE;have HI3:=jM (HIb.out.below hb3);have BX3:=jM (blk_below BX2.out hb3);have HB3:=jM hb3;clear hE hb3)
   have HXL:=jM (show xb < V3.heap.size from blk_lt BX3.out)
   have HS2:=jM (show w.heap.size+4≤V2.heap.size from Lk.size HIb.out)
   clear t0 t1 t2 HED BX2 HIb
   have HZ0:Aside0 (foldE (sets_Of.f k l0 l1 l2 l3 st) s (es.drop 0) (F1,q)=some Z):=⟨by rw [List.drop_zero];exact HZ.out⟩
   obtain ⟨vq2,hvq2⟩:∃ v,v=Value.slice T q.length (c - 1):=⟨_,rfl⟩
   rw [← hvq2] at HI3 HQL
   clear hvq2
   go_loopw [50] (fun v50 wr2=>∃ (j:Nat) (F2:Spt→Int) (q2:List Spt) (vq3:Value),v50=.int .i64 j∧j≤es.length∧Aside0 (foldE (sets_Of.f k l0 l1 l2 l3 st) s (es.drop j) (F2,q2)=some Z)∧Aside0 (Lk w w.heap.size (.slice A0 l0.length c0) (.slice A1 l1.length c1) (.slice A2 l2.length c2) (.slice A3 l3.length c3) (.int .i64 st) (.slice AK K.length cK) (.slice AN N.length cN) F2 q2 vq3 (fun k=>w.heap.size+4≤k) wr2)∧Aside0 (Er w V2.heap.size (fun k=>V2.heap.size≤k) (.slice AE es.length cE) es wr2)∧Aside0 (wr2.heap[xb]? = some (.cells #[.int .i64 s.1,.int .i64 s.2.1,.int .i64 s.2.2] 125 (0,0)))∧Aside0 (some xb≠vq3.ownBlock)∧Aside0 (V3.heap.size≤wr2.heap.size)) (fun v50 _=>es.length - (intOf v50).toNat)
   case atStart=>exact ⟨0,F1,q,vq2,rfl,Nat.zero_le _,HZ0,HI3,HE3,BX3,HQL,⟨Nat.le_refl _⟩⟩
   case round =>
    clear HZ0 HI3 HE3 BX3 HQL
    obtain ⟨j,F2,q2,vq3,rfl,hj,HZ2,HI4,HE4,BX4,HQ4,HS4⟩:=hrel
    by_cases hlt:j < es.length
    ·have hjb:decide (j < es.length)=true:=decide_eq_true hlt
     have hjw:IntKind.i64.wrap ((j:Int)+1)=((j+1:Nat):Int):=by
      have:=HEL.out
      rw [IntWalk.i64_in _ (by omega)]
      rfl
     obtain ⟨e,hee⟩:∃ e,e=es[j]:=⟨_,rfl⟩
     have hz:=HZ2.out
     rw [List.drop_eq_getElem_cons hlt,← hee,foldE] at hz
     split at hz
     case isFalse=>cases hz
     rename_i hg
     obtain ⟨t,ht,hz⟩:=Option.bind_eq_some_iff.1 hz
     have HRE:=jM hg.1
     have HQL2:=jM hg.2
     have HT2:=jM ht
     have HZ3:=jM hz
     clear hg ht hz HZ2
     obtain ⟨ad4,cap4,A4,k4,ev4,q0,q1,q2',q3,hle4,hr4⟩:=HE4.out.at_ j (e:=e) (by rw [hee];exact List.getElem?_eq_getElem hlt)
     injection ev4 with ev4a ev4b ev4c
     subst ev4a
     subst ev4c
     have p0:wr.cell? (ad4.add (j * 4))=some (.int .i64 e.1.1):=q0
     have p1:wr.cell? ⟨(ad4.add (j * 4)).block,(ad4.add (j * 4)).off+1,none⟩=some (.int .i64 e.1.2.1):=by rw [← add_field _ _ 1 (by omega)];exact q1
     have p2:wr.cell? ⟨(ad4.add (j * 4)).block,(ad4.add (j * 4)).off+2,none⟩=some (.int .i64 e.1.2.2):=by rw [← add_field _ _ 2 (by omega)];exact q2'
     have p3:wr.cell? ⟨(ad4.add (j * 4)).block,(ad4.add (j * 4)).off+3,none⟩=some (.slice A4 e.2.length k4):=by rw [← add_field _ _ 3 (by omega)];exact q3
     have HR4:=jM hr4
     have HL4:=jM hle4
     have HEE:=jM hee
     clear q0 q1 q2' q3 hle4 hr4 ev4b hee
     have HRC:=jM (show Kd.C (Kd.int .i64) w A4 e.2.length e.2 by
      rcases HR4.out with h | h
      ·rw [h];exact ⟨rfl,by simp,fun h=>absurd h (Nat.lt_irrefl _)⟩
      ·exact h)
     clear HR4
     go_upto_region 9 with fail
     have BE:=jM (blk_new wr (Obj.cells #[.int .i64 e.1.1,.int .i64 e.1.2.1,.int .i64 e.1.2.2,.slice A4 e.2.length k4] 130))
     have HA:=jM (below_alloc (RowKit.Below.refl wr.heap.size wr) (Obj.cells #[.int .i64 e.1.1,.int .i64 e.1.2.1,.int .i64 e.1.2.2,.slice A4 e.2.length k4] 130))
     have HI5:=jM (HI4.out.below HA.out)
     have HE5:=jM (HE4.out.below HA.out)
     have BX5:=jM (blk_below BX4.out HA.out)
     have HEQ:=jM (show some wr.heap.size≠vq3.ownBlock from fun h=>absurd (HI4.out.qlt _ h.symm).1 (Nat.lt_irrefl _))
     have HSE:=jM (show V3.heap.size≤wr.heap.size∧w.heap.size+4≤wr.heap.size∧xb < wr.heap.size from ⟨HS4.out,Lk.size HI4.out,blk_lt BX4.out⟩)
     have HSV:=jM (show wr.heap.size < (wr.alloc (Obj.cells #[.int .i64 e.1.1,.int .i64 e.1.2.1,.int .i64 e.1.2.2,.slice A4 e.2.length k4] 130)).heap.size by rw [World.size_alloc];exact Nat.lt_succ_self _)
     clear HA HI4 HE4 BX4 p0 p1 p2 p3 HS4
     generalize wr.alloc (Obj.cells #[.int .i64 e.1.1,.int .i64 e.1.2.1,.int .i64 e.1.2.2,.slice A4 e.2.length k4] 130)=V5 at *
     generalize wr.heap.size=eb at *
     have hcells:∀ W':World,W'.heap[eb]? = some (.cells #[.int .i64 e.1.1,.int .i64 e.1.2.1,.int .i64 e.1.2.2,.slice A4 e.2.length k4] 130 (0,0))→W'.heap[xb]? = some (.cells #[.int .i64 s.1,.int .i64 s.2.1,.int .i64 s.2.2] 125 (0,0))→W'.heap[w.heap.size]? = some (.cells #[.slice A0 l0.length c0,.slice A1 l1.length c1,.slice A2 l2.length c2,.slice A3 l3.length c3,.int .i64 st] 27 (0,0))→W'.cell? ⟨w.heap.size+3,7,none⟩=some (.map (some (w.heap.size+2))) →
       W'.cell? ⟨eb,0,none⟩=some (.int .i64 e.1.1)∧W'.cell? ⟨eb,1,none⟩=some (.int .i64 e.1.2.1)∧W'.cell? ⟨eb,2,none⟩=some (.int .i64 e.1.2.2)∧W'.cell? ⟨eb,3,none⟩=some (.slice A4 e.2.length k4)∧W'.cell? ⟨xb,0,none⟩=some (.int .i64 s.1)∧W'.cell? ⟨xb,1,none⟩=some (.int .i64 s.2.1)∧W'.cell? ⟨xb,2,none⟩=some (.int .i64 s.2.2) ∧
       W'.cell? ⟨w.heap.size,0,none⟩=some (.slice A0 l0.length c0)∧W'.cell? ⟨w.heap.size,1,none⟩=some (.slice A1 l1.length c1)∧W'.cell? ⟨w.heap.size,2,none⟩=some (.slice A2 l2.length c2)∧W'.cell? ⟨w.heap.size,3,none⟩=some (.slice A3 l3.length c3)∧W'.cell? ⟨w.heap.size,4,none⟩=some (.int .i64 st)∧W'.cell? ⟨w.heap.size+3,7,none⟩=some (.map (some (w.heap.size+2))):=fun W' h1 h2 h3 h4 =>
      ⟨blk_cell h1 0,blk_cell h1 1,blk_cell h1 2,blk_cell h1 3,blk_cell h2 0,blk_cell h2 1,blk_cell h2 2,blk_cell h3 0,blk_cell h3 1,blk_cell h3 2,blk_cell h3 3,blk_cell h3 4,h4⟩
     have HCL:=jM hcells
     clear hcells
     obtain ⟨z0,z1,z2,z3,x0,x1,x2,g0,g1,g2,g3,g4,y7⟩:=HCL.out V5 BE.out BX5.out HI5.out.bg (blk_cell HI5.out.bx 7)
     have hlk0:=HI5.out.mp.look HRS.out V5 rfl
     have hlk1:=HI5.out.mp.look HRS.out V5.drew rfl
     unfold valS at hlk0 hlk1
     have HOF5:=jM fun (W':World) (hb:RowKit.Below V5.heap.size V5 W')=>HOF.out W' (below_step HI5.out.hb hb) A4 k4 e.2 (F2 s) t (Kd.C_below HRC.out (below_step HI5.out.hb hb)) HL4.out HT2.out
     have HMO5:=jM fun (W':World) (hb:RowKit.Below V5.heap.size V5 W')=>more_calls (HI5.out.below hb) HRE.out t (fun k hk=>Nat.le_trans (Lk.size (HI5.out.below hb)) hk) HQL2.out
     unfold valS at HMO5
     have HNE:=jM (show xb≠w.heap.size+2∧xb≠w.heap.size+3∧eb≠w.heap.size+2∧eb≠w.heap.size+3∧w.heap.size≠w.heap.size+2∧w.heap.size≠w.heap.size+3∧some w.heap.size≠vq3.ownBlock from ⟨by have:=HSZ.out;omega,by have:=HSZ.out;omega,by have:=HSE.out.2.1;omega,by have:=HSE.out.2.1;omega,by omega,by omega,fun h=>by have:=HI5.out.ge _ (HI5.out.hq.1 _ h.symm);omega⟩)
     go_region_held3 (fun w'=>w'.cell? ⟨eb,0,none⟩=some (.int .i64 e.1.1)∧w'.cell? ⟨eb,1,none⟩=some (.int .i64 e.1.2.1)∧w'.cell? ⟨eb,2,none⟩=some (.int .i64 e.1.2.2)∧w'.cell? ⟨eb,3,none⟩=some (.slice A4 e.2.length k4)∧w'.cell? ⟨xb,0,none⟩=some (.int .i64 s.1)∧w'.cell? ⟨xb,1,none⟩=some (.int .i64 s.2.1)∧w'.cell? ⟨xb,2,none⟩=some (.int .i64 s.2.2)∧w'.cell? ⟨w.heap.size,0,none⟩=some (.slice A0 l0.length c0)∧w'.cell? ⟨w.heap.size,1,none⟩=some (.slice A1 l1.length c1)∧w'.cell? ⟨w.heap.size,2,none⟩=some (.slice A2 l2.length c2)∧w'.cell? ⟨w.heap.size,3,none⟩=some (.slice A3 l3.length c3)∧w'.cell? ⟨w.heap.size,4,none⟩=some (.int .i64 st)∧w'.cell? ⟨w.heap.size+3,7,none⟩=some (.map (some (w.heap.size+2)))) (go_keep)
      (first | (go_at_call 69;refine (HOF5.out _ (by repeat (first | exact RowKit.Below.refl _ _ | apply below_drew1))).mono ?_;rintro e6 V6 ⟨rfl,hb6⟩;have hbb:=below_step (w:=V5) (by repeat (first | exact RowKit.Below.refl _ _ | apply below_drew1)) hb6;obtain ⟨z0,z1,z2,z3,x0,x1,x2,g0,g1,g2,g3,g4,y7⟩:=HCL.out V6 (blk_below BE.out hbb) (blk_below BX5.out hbb) (blk_below HI5.out.bg hbb) (blk_cell (blk_below HI5.out.bx hbb) 7);have HBB:=jM hbb;have BE6:=jM (blk_below BE.out hbb);have BX6:=jM (blk_below BX5.out hbb);have HI6:=jM (HI5.out.below hbb);have HE6:=jM (HE5.out.below hbb);clear hb6 hbb) | (go_at_call 66;refine (HMO5.out _ (by repeat (first | exact HBB.out | exact RowKit.Below.refl _ _ | apply below_drew1))).mono ?_;rintro e7 V7 ⟨rfl,vq4,hL7,hsz7,hk7,hown7⟩;have hE7:=(hk7 eb (blk_lt BE6.out) HNE.out.2.2.1 HNE.out.2.2.2.1 HEQ.out).trans BE6.out;have hX7:=(hk7 xb (blk_lt BX6.out) HNE.out.1 HNE.out.2.1 HQ4.out).trans BX6.out;have hG7:=(hk7 w.heap.size (blk_lt HI6.out.bg) HNE.out.2.2.2.2.1 HNE.out.2.2.2.2.2.1 HNE.out.2.2.2.2.2.2).trans HI6.out.bg;obtain ⟨z0,z1,z2,z3,x0,x1,x2,g0,g1,g2,g3,g4,y7⟩:=HCL.out V7 hE7 hX7 hG7 (blk_cell hL7.bx 7);have HX7:=jM hX7;clear hE7 hX7 hG7;have HL7:=jM hL7;have HK7:=jM (And.intro hsz7 hk7);have HW7:=jM hown7;clear hL7 hsz7 hk7 hown7))
     go_wp2_with fail
     go_roundw
     all_goals first
      | exact ⟨j+1,(moreL F2 q2 e.1 t).1,(moreL F2 q2 e.1 t).2,vq4,rfl,hlt,HZ3,HL7,⟨HE6.out.over HI6.out HS2.out HK7.out.2⟩,HX7,⟨fun h=>by
        rcases HW7.out with h1 | ⟨b,h1,h2⟩
        ·rw [h1] at h;exact HQ4.out h
        ·rw [h1] at h
         injection h with h
         subst h
         exact absurd (blk_lt BX6.out) (Nat.not_lt.2 h2)⟩,⟨Nat.le_trans HSE.out.1 (Nat.le_trans (Nat.le_of_lt (blk_lt BE6.out)) HK7.out.1)⟩⟩
      | (simp [intOf];omega)
    ·have hjb:decide (j < es.length)=false:=decide_eq_false hlt
     have hje:j=es.length:=by omega
     subst hje
     have HZE:=jM (show some (F2,q2)=some Z by have:=HZ2.out;rw [List.drop_length] at this;exact this)
     go_wp2_with fail
     go_roundg k1
     case measure=>exact Nat.lt_succ_self _
     case rel=>exact ⟨F2,q2,vq3,HI4,⟨by have:=Option.some.inj HZE.out;rw [this];exact HN.out⟩⟩
end
end
end Go.Proofs.YtclollnicbcooaaGreatDoor.P
namespace Go.Proofs.YtclollnicbcooaaGreatDoor.P
open Go.RowKit YtclollnicbcooaaGreatDoorW.PrintWords YtclollnicbcooaaGreatDoorW.PrintLast YtclollnicbcooaaGreatDoorW.PrintMore
section
attribute [local go_sem] max2_int min2_int max_two min_two max_three min_three max_four min_four

attribute [local go_sem high] eqA77
/-! ### states_Item_72: function 72 -/
def states_Item_72.l0:Nat→List (S77)→List (S77)→Int→Int→Option (Bool)
 | 0,_,_,_,_=>none
 | k+1,x0,x1,x12,x13=>if x13 < x12 then (if 0≤x13 then (if x13 < (x0.length:Int) then (if x13 < (x1.length:Int) then (if (!(((rd_T77 x0 x13).f0) == ((rd_T77 x1 x13).f0)) || (!(((rd_T77 x0 x13).f1) == ((rd_T77 x1 x13).f1))))=true then (some false) else (states_Item_72.l0 k x0 x1 x12 (wrap64 (x13+1)))) else (none)) else (none)) else (none)) else (some true)
def states_Item_72.f (k:Nat) (l0:List (S77)) (l1:List (S77)):Option (Bool):=if (l0.length:Int)=(l1.length:Int) then (states_Item_72.l0 k l0 l1 (l0.length:Int) 0) else (some false)
set_option maxHeartbeats 8000000 in
set_option maxRecDepth 100000 in
theorem states_Item_72.calls (k:Nat) (A0:Option Addr) (c0:Nat) (l0:List (S77)) (A1:Option Addr) (c1:Nat) (l1:List (S77)) (r:Bool) (w:World) (hr0:Kd.C k77 w A0 l0.length l0) (hc0:l0.length≤c0) (hr1:Kd.C k77 w A1 l1.length l1) (hc1:l1.length≤c1) (h:states_Item_72.f k l0 l1=some r) :
  Calls Tryz.prog 41 #[.slice A0 l0.length c0,.slice A1 l1.length c1] w fun e w'=>e=.returned (.bool r)∧Drawn0 w w':=by
 have hu77:=Tryz.underlying77
 have HR0:=jM hr0
 have HC0:=jM hc0
 clear hr0 hc0
 have HR1:=jM hr1
 have HC1:=jM hc1
 clear hr1 hc1
 have H:(if (l0.length:Int)=(l1.length:Int) then (states_Item_72.l0 k l0 l1 (l0.length:Int) 0) else (some false))=some r:=h
 clear h
 by_cases c3:(l0.length:Int)=(l1.length:Int)
 ·rw [if_pos c3] at H
  have c3b0:((l0.length:Int) == (l1.length:Int))=true:=beq_iff_eq.mpr c3
  have c3b1:((l0.length:Int) != (l1.length:Int))=false:=bne_eq_false_iff_eq.mpr c3
  have c3b2:(l0.length == l1.length)=true:=by first | simpa using c3 | (simp at c3 ⊢;omega)
  clear c3
  have H':=jM H
  clear H
  go_enter Tryz.func41,Tryz.ntmps41
  go_wp2
  repeat (go_quiet (fail);try go_wp2)
  go_loopg [13] k (fun kq v13 w'=>∃ (x13_1:Int),v13=.int .i64 x13_1∧Aside0 (states_Item_72.l0 kq l0 l1 (l0.length:Int) x13_1=some r)∧Aside0 (kq≤k)∧Drawn0 w w')
  case atStart=>exact ⟨(0),tZ,H',⟨Nat.le_refl _⟩,by repeat (first | exact Drawn0.refl _ | apply Drawn0.step)⟩
  case round =>
   clear H'
   try clear c1
   try clear p2
   try clear c3
   try clear c3b0
   try clear c3b1
   try clear c3b2
   obtain ⟨x13_1,rfl,HA,HK1,⟨m1,rfl⟩⟩:=hrel
   cases gk with
   | zero=>exact absurd HA.out (by simp [states_Item_72.l0])
   | succ k1 =>
    have H:=HA.out
    clear HA
    simp only [states_Item_72.l0] at H
    by_cases c4:x13_1 < (l0.length:Int)
    ·rw [if_pos c4] at H
     have c4b0:decide (x13_1 < (l0.length:Int))=true:=decide_eq_true c4
     clear c4
     by_cases c5:0≤x13_1
     ·rw [if_pos c5] at H
      have c5b0:decide (0≤x13_1)=true:=decide_eq_true c5
      clear c5
      by_cases c6:x13_1 < (l0.length:Int)
      ·rw [if_pos c6] at H
       have c6b0:decide (x13_1 < (l0.length:Int))=true:=decide_eq_true c6
       clear c6
       by_cases c7:x13_1 < (l1.length:Int)
       ·rw [if_pos c7] at H
        have c7b0:decide (x13_1 < (l1.length:Int))=true:=decide_eq_true c7
        clear c7
        by_cases c8:(!(((rd_T77 l0 x13_1).f0) == ((rd_T77 l1 x13_1).f0)) || (!(((rd_T77 l0 x13_1).f1) == ((rd_T77 l1 x13_1).f1))))=true
        ·rw [if_pos c8] at H
         have c8b0:(!(((rd_T77 l0 x13_1).f0) == ((rd_T77 l1 x13_1).f0)) || (!(((rd_T77 l0 x13_1).f1) == ((rd_T77 l1 x13_1).f1))))=true:=c8
         clear c8
         obtain rfl:=Option.some.inj H
         have p207:0≤(x13_1:Int):=of_decide_eq_true tD
         have q207:x13_1 < (l0.length:Int):=of_decide_eq_true tD
         obtain ⟨ad207,e207,hx207_0,hx207_1⟩:=at_T77 HR0.out x13_1 p207 q207
         cases e207
         replace p207:=eq_true p207
         replace q207:=eq_true q207
         have p208:0≤(x13_1:Int):=of_decide_eq_true tD
         have q208:x13_1 < (l1.length:Int):=of_decide_eq_true tD
         obtain ⟨ad208,e208,hx208_0,hx208_1⟩:=at_T77 HR1.out x13_1 p208 q208
         cases e208
         replace p208:=eq_true p208
         replace q208:=eq_true q208
         go_wp2
         repeat (go_quiet (fail);try go_wp2)
         go_ret
         exact ⟨by first | rfl | (simp;done) | (simp [*];done),by repeat (first | exact Drawn0.refl _ | apply Drawn0.step)⟩
        ·rw [if_neg c8] at H
         have c8b0:(!(((rd_T77 l0 x13_1).f0) == ((rd_T77 l1 x13_1).f0)) || (!(((rd_T77 l0 x13_1).f1) == ((rd_T77 l1 x13_1).f1))))=false:=by simpa using c8
         clear c8
         have H':=jM H
         clear H
         have p207:0≤(x13_1:Int):=of_decide_eq_true tD
         have q207:x13_1 < (l0.length:Int):=of_decide_eq_true tD
         obtain ⟨ad207,e207,hx207_0,hx207_1⟩:=at_T77 HR0.out x13_1 p207 q207
         cases e207
         replace p207:=eq_true p207
         replace q207:=eq_true q207
         have p208:0≤(x13_1:Int):=of_decide_eq_true tD
         have q208:x13_1 < (l1.length:Int):=of_decide_eq_true tD
         obtain ⟨ad208,e208,hx208_0,hx208_1⟩:=at_T77 HR1.out x13_1 p208 q208
         cases e208
         replace p208:=eq_true p208
         replace q208:=eq_true q208
         go_wp2
         repeat (go_quiet (fail);try go_wp2)
         go_roundg k1
         case measure=>have:=HK1.out;omega
         case rel=>exact ⟨(wrap64 (x13_1+1)),tZ,H',⟨by have:=HK1.out;omega⟩,by repeat (first | exact Drawn0.refl _ | apply Drawn0.step)⟩
       ·rw [if_neg c7] at H
        exact absurd H (by simp)
      ·rw [if_neg c6] at H
       exact absurd H (by simp)
     ·rw [if_neg c5] at H
      exact absurd H (by simp)
    ·rw [if_neg c4] at H
     have c4b0:decide (x13_1 < (l0.length:Int))=false:=decide_eq_false c4
     clear c4
     obtain rfl:=Option.some.inj H
     go_wp2
     repeat (go_quiet (fail);try go_wp2)
     go_ret
     exact ⟨by first | rfl | (simp;done) | (simp [*];done),by repeat (first | exact Drawn0.refl _ | apply Drawn0.step)⟩
 ·rw [if_neg c3] at H
  have c3b0:((l0.length:Int) == (l1.length:Int))=false:=beq_eq_false_iff_ne.mpr c3
  have c3b1:((l0.length:Int) != (l1.length:Int))=true:=bne_iff_ne.mpr c3
  have c3b2:(l0.length == l1.length)=false:=by first | simpa using c3 | (simp at c3 ⊢;omega)
  obtain rfl:=Option.some.inj H
  go_enter Tryz.func41,Tryz.ntmps41
  go_wp2
  repeat (go_quiet (fail);try go_wp2)
  go_ret
  exact ⟨by first | rfl | (simp;done) | (simp [*];done),by repeat (first | exact Drawn0.refl _ | apply Drawn0.step)⟩

-- NOT PRINTED: function 73 (slices_EqualFunc_int_int_int_int)

/-! ### slices_Equal_int_int: function 74 -/
def slices_Equal_int_int.l0:Nat→List Int→List Int→Int→Int→Option (Bool)
 | 0,_,_,_,_=>none
 | k+1,x0,x1,x12,x13=>if x13 < x12 then (if 0≤x13 then (if x13 < (x0.length:Int) then (if x13 < (x1.length:Int) then (if (rd x0 x13)=(rd x1 x13) then (slices_Equal_int_int.l0 k x0 x1 x12 (wrap64 (x13+1))) else (some false)) else (none)) else (none)) else (none)) else (some true)
def slices_Equal_int_int.f (k:Nat) (l0:List Int) (l1:List Int):Option (Bool):=if (l0.length:Int)=(l1.length:Int) then (slices_Equal_int_int.l0 k l0 l1 (l0.length:Int) 0) else (some false)
set_option maxHeartbeats 8000000 in
set_option maxRecDepth 100000 in
theorem slices_Equal_int_int.calls (k:Nat) (A0:Option Addr) (c0:Nat) (l0:List Int) (A1:Option Addr) (c1:Nat) (l1:List Int) (r:Bool) (w:World) (hr0:Kd.C (Kd.int .i64) w A0 l0.length l0) (hc0:l0.length≤c0) (hr1:Kd.C (Kd.int .i64) w A1 l1.length l1) (hc1:l1.length≤c1) (h:slices_Equal_int_int.f k l0 l1=some r) :
  Calls Tryz.prog 43 #[.slice A0 l0.length c0,.slice A1 l1.length c1] w fun e w'=>e=.returned (.bool r)∧Drawn0 w w':=by
 have HR0:=jM hr0
 have HC0:=jM hc0
 clear hr0 hc0
 have HR1:=jM hr1
 have HC1:=jM hc1
 clear hr1 hc1
 have H:(if (l0.length:Int)=(l1.length:Int) then (slices_Equal_int_int.l0 k l0 l1 (l0.length:Int) 0) else (some false))=some r:=h
 clear h
 by_cases c3:(l0.length:Int)=(l1.length:Int)
 ·rw [if_pos c3] at H
  have c3b0:((l0.length:Int) == (l1.length:Int))=true:=beq_iff_eq.mpr c3
  have c3b1:((l0.length:Int) != (l1.length:Int))=false:=bne_eq_false_iff_eq.mpr c3
  have c3b2:(l0.length == l1.length)=true:=by first | simpa using c3 | (simp at c3 ⊢;omega)
  clear c3
  have H':=jM H
  clear H
  go_enter Tryz.func43,Tryz.ntmps43
  go_wp2
  repeat (go_quiet (fail);try go_wp2)
  go_loopg [13] k (fun kq v13 w'=>∃ (x13_1:Int),v13=.int .i64 x13_1∧Aside0 (slices_Equal_int_int.l0 kq l0 l1 (l0.length:Int) x13_1=some r)∧Aside0 (kq≤k)∧Drawn0 w w')
  case atStart=>exact ⟨(0),tZ,H',⟨Nat.le_refl _⟩,by repeat (first | exact Drawn0.refl _ | apply Drawn0.step)⟩
  case round =>
   clear H'
   try clear c1
   try clear p2
   try clear c3
   try clear c3b0
   try clear c3b1
   try clear c3b2
   obtain ⟨x13_1,rfl,HA,HK1,⟨m1,rfl⟩⟩:=hrel
   cases gk with
   | zero=>exact absurd HA.out (by simp [slices_Equal_int_int.l0])
   | succ k1 =>
    have H:=HA.out
    clear HA
    simp only [slices_Equal_int_int.l0] at H
    by_cases c4:x13_1 < (l0.length:Int)
    ·rw [if_pos c4] at H
     have c4b0:decide (x13_1 < (l0.length:Int))=true:=decide_eq_true c4
     clear c4
     by_cases c5:0≤x13_1
     ·rw [if_pos c5] at H
      have c5b0:decide (0≤x13_1)=true:=decide_eq_true c5
      clear c5
      by_cases c6:x13_1 < (l0.length:Int)
      ·rw [if_pos c6] at H
       have c6b0:decide (x13_1 < (l0.length:Int))=true:=decide_eq_true c6
       clear c6
       by_cases c7:x13_1 < (l1.length:Int)
       ·rw [if_pos c7] at H
        have c7b0:decide (x13_1 < (l1.length:Int))=true:=decide_eq_true c7
        clear c7
        by_cases c8:(rd l0 x13_1)=(rd l1 x13_1)
        ·rw [if_pos c8] at H
         have c8b0:((rd l0 x13_1) == (rd l1 x13_1))=true:=beq_iff_eq.mpr c8
         have c8b1:((rd l0 x13_1) != (rd l1 x13_1))=false:=bne_eq_false_iff_eq.mpr c8
         clear c8
         have H':=jM H
         clear H
         have p209:0≤(x13_1:Int):=of_decide_eq_true tD
         have q209:x13_1 < (l0.length:Int):=of_decide_eq_true tD
         obtain ⟨ad209,e209,hx209_0⟩:=Kd.at_int HR0.out x13_1 p209 q209
         cases e209
         replace p209:=eq_true p209
         replace q209:=eq_true q209
         have p210:0≤(x13_1:Int):=of_decide_eq_true tD
         have q210:x13_1 < (l1.length:Int):=of_decide_eq_true tD
         obtain ⟨ad210,e210,hx210_0⟩:=Kd.at_int HR1.out x13_1 p210 q210
         cases e210
         replace p210:=eq_true p210
         replace q210:=eq_true q210
         go_wp2
         repeat (go_quiet (fail);try go_wp2)
         go_roundg k1
         case measure=>have:=HK1.out;omega
         case rel=>exact ⟨(wrap64 (x13_1+1)),tZ,H',⟨by have:=HK1.out;omega⟩,by repeat (first | exact Drawn0.refl _ | apply Drawn0.step)⟩
        ·rw [if_neg c8] at H
         have c8b0:((rd l0 x13_1) == (rd l1 x13_1))=false:=beq_eq_false_iff_ne.mpr c8
         have c8b1:((rd l0 x13_1) != (rd l1 x13_1))=true:=bne_iff_ne.mpr c8
         obtain rfl:=Option.some.inj H
         have p209:0≤(x13_1:Int):=of_decide_eq_true tD
         have q209:x13_1 < (l0.length:Int):=of_decide_eq_true tD
         obtain ⟨ad209,e209,hx209_0⟩:=Kd.at_int HR0.out x13_1 p209 q209
         cases e209
         replace p209:=eq_true p209
         replace q209:=eq_true q209
         have p210:0≤(x13_1:Int):=of_decide_eq_true tD
         have q210:x13_1 < (l1.length:Int):=of_decide_eq_true tD
         obtain ⟨ad210,e210,hx210_0⟩:=Kd.at_int HR1.out x13_1 p210 q210
         cases e210
         replace p210:=eq_true p210
         replace q210:=eq_true q210
         go_wp2
         repeat (go_quiet (fail);try go_wp2)
         go_ret
         exact ⟨by first | rfl | (simp;done) | (simp [*];done),by repeat (first | exact Drawn0.refl _ | apply Drawn0.step)⟩
       ·rw [if_neg c7] at H
        exact absurd H (by simp)
      ·rw [if_neg c6] at H
       exact absurd H (by simp)
     ·rw [if_neg c5] at H
      exact absurd H (by simp)
    ·rw [if_neg c4] at H
     have c4b0:decide (x13_1 < (l0.length:Int))=false:=decide_eq_false c4
     clear c4
     obtain rfl:=Option.some.inj H
     go_wp2
     repeat (go_quiet (fail);try go_wp2)
     go_ret
     exact ⟨by first | rfl | (simp;done) | (simp [*];done),by repeat (first | exact Drawn0.refl _ | apply Drawn0.step)⟩
 ·rw [if_neg c3] at H
  have c3b0:((l0.length:Int) == (l1.length:Int))=false:=beq_eq_false_iff_ne.mpr c3
  have c3b1:((l0.length:Int) != (l1.length:Int))=true:=bne_iff_ne.mpr c3
  have c3b2:(l0.length == l1.length)=false:=by first | simpa using c3 | (simp at c3 ⊢;omega)
  obtain rfl:=Option.some.inj H
  go_enter Tryz.func43,Tryz.ntmps43
  go_wp2
  repeat (go_quiet (fail);try go_wp2)
  go_ret
  exact ⟨by first | rfl | (simp;done) | (simp [*];done),by repeat (first | exact Drawn0.refl _ | apply Drawn0.step)⟩
end
end Go.Proofs.YtclollnicbcooaaGreatDoor.P
namespace Go.Proofs.YtclollnicbcooaaGreatDoor.P
open Go.RowKit Go.Lib Go.Sort YtclollnicbcooaaGreatDoorW.PrintWords YtclollnicbcooaaGreatDoorW.PrintLast YtclollnicbcooaaGreatDoorW.PrintMore St
section
attribute [local go_sem] Oper.semAt_some
theorem up_to (x n:Int) (h:x < n) (hn:n≤9223372036854775807) (h0:0≤x):wrap64 (x+1)=x+1:=IntWalk.wrap64_in _ (by omega)
theorem item72_l0 (a:List S77) (hn:a.length≤9223372036854775807):∀ (m i:Nat),i+m=a.length→states_Item_72.l0 (m+1) a a (a.length:Int) (i:Int)=some true
 | 0,i,h=>by rw [states_Item_72.l0,if_neg (by omega)]
 | m+1,i,h=>by
  rw [states_Item_72.l0,if_pos (by omega),if_pos (by omega),if_pos (by omega),if_pos (by omega),if_neg (by simp),up_to _ (a.length:Int) (by omega) (by omega) (by omega)]
  exact item72_l0 a hn m (i+1) (by omega)
theorem item72_same (a:List S77) (hn:a.length≤9223372036854775807):states_Item_72.f (a.length+1) a a=some true:=by
 unfold states_Item_72.f
 rw [if_pos rfl]
 exact item72_l0 a hn a.length 0 (by omega)
theorem ints74_l0 (a:List Int) (hn:a.length≤9223372036854775807):∀ (m i:Nat),i+m=a.length→slices_Equal_int_int.l0 (m+1) a a (a.length:Int) (i:Int)=some true
 | 0,i,h=>by rw [slices_Equal_int_int.l0,if_neg (by omega)]
 | m+1,i,h=>by
  have:=ints74_l0 a hn m (i+1) (by omega)
  rw [slices_Equal_int_int.l0,if_pos (by omega),if_pos (by omega),if_pos (by omega),if_pos (by omega),up_to _ (a.length:Int) (by omega) (by omega) (by omega)]
  first | exact this | (simpa using this) | (rw [if_pos rfl];exact this)
theorem ints74_same (a:List Int) (hn:a.length≤9223372036854775807):slices_Equal_int_int.f (a.length+1) a a=some true:=by
 unfold slices_Equal_int_int.f
 rw [if_pos rfl]
 exact ints74_l0 a hn a.length 0 (by omega)
set_option maxHeartbeats 4000000 in
set_option maxRecDepth 100000 in
theorem same71_calls (A A':Option Addr) (c c':Nat) (K:List (List S77)) (w:World) (hr:Kd.C (Kd.slice 77 k77) w A K.length K) (hr':Kd.C (Kd.slice 77 k77) w A' K.length K) :
  Calls Tryz.prog 40 #[.slice A K.length c,.slice A' K.length c',.func (.func 41) #[] #[]] w fun e w'=>e=.returned (.bool true)∧Drawn0 w w':=by
 have HR:=jM hr
 have HR':=jM hr'
 have HM:=jM hr.2.1
 clear hr hr'
 go_enter Tryz.func40,Tryz.ntmps40
 go_upto_region 4 with fail
 go_loopw [17] (fun v17 wr=>∃ i:Nat,v17=.int .i64 i∧i≤K.length∧Aside0 (Drawn0 w wr)) (fun v17 _=>K.length - (intOf v17).toNat)
 case atStart=>exact ⟨0,rfl,Nat.zero_le _,⟨Drawn0.refl _⟩⟩
 case round =>
  obtain ⟨i,rfl,hi,HD⟩:=hrel
  obtain ⟨n,rfl⟩:=HD.out
  by_cases hlt:i < K.length
  ·have hib:decide (i < K.length)=true:=decide_eq_true hlt
   have hib2:decide ((i:Int) < (K.length:Int))=true:=decide_eq_true (by omega)
   have hiw:IntKind.i64.wrap ((i:Int)+1)=((i+1:Nat):Int):=by
    have:=HM.out
    rw [IntWalk.i64_in _ (by omega)]
    rfl
   obtain ⟨ad,A1,c1,e,hx,hl,hC⟩:=at_L15 (Kd.C_drewN HR.out n) (i:Int) (by omega) (by omega)
   obtain ⟨ad',A1',c1',e',hx',hl',hC'⟩:=at_L15 (Kd.C_drewN HR'.out n) (i:Int) (by omega) (by omega)
   subst e
   subst e'
   rw [Int.toNat_natCast] at hx hx'
   have HCL:=jM (states_Item_72.calls _ A1 c1 _ A1' c1' _ true _ hC hl hC' hl' (item72_same _ hC.2.1))
   clear hC hC' hl hl'
   go_wp2_with (go_at_call 41;refine HCL.out.mono ?_;rintro e w2 ⟨rfl,⟨n2,rfl⟩⟩)
   go_roundw
   all_goals first
    | exact ⟨i+1,rfl,by omega,⟨⟨_,World.drewN_drewN _ _ _⟩⟩⟩
    | exact ⟨i+1,rfl,by omega,⟨by repeat (first | exact Drawn0.refl _ | apply Drawn0.step | apply Drawn0.steps)⟩⟩
    | (simp [intOf];omega)
    | trace_state
  ·have hib:decide (i < K.length)=false:=decide_eq_false hlt
   have hib2:decide ((i:Int) < (K.length:Int))=false:=decide_eq_false (by omega)
   go_wp2_with fail
   go_ret
   exact ⟨rfl,⟨n,rfl⟩⟩
set_option maxHeartbeats 4000000 in
set_option maxRecDepth 100000 in
theorem same73_calls (A A':Option Addr) (c c':Nat) (K:List (List Int)) (w:World) (hr:Kd.C (Kd.slice 3 (Kd.int .i64)) w A K.length K) (hr':Kd.C (Kd.slice 3 (Kd.int .i64)) w A' K.length K) :
  Calls Tryz.prog 42 #[.slice A K.length c,.slice A' K.length c',.func (.func 43) #[] #[]] w fun e w'=>e=.returned (.bool true)∧Drawn0 w w':=by
 have HR:=jM hr
 have HR':=jM hr'
 have HM:=jM hr.2.1
 clear hr hr'
 go_enter Tryz.func42,Tryz.ntmps42
 go_upto_region 4 with fail
 go_loopw [17] (fun v17 wr=>∃ i:Nat,v17=.int .i64 i∧i≤K.length∧Aside0 (Drawn0 w wr)) (fun v17 _=>K.length - (intOf v17).toNat)
 case atStart=>exact ⟨0,rfl,Nat.zero_le _,⟨Drawn0.refl _⟩⟩
 case round =>
  obtain ⟨i,rfl,hi,HD⟩:=hrel
  obtain ⟨n,rfl⟩:=HD.out
  by_cases hlt:i < K.length
  ·have hib:decide (i < K.length)=true:=decide_eq_true hlt
   have hib2:decide ((i:Int) < (K.length:Int))=true:=decide_eq_true (by omega)
   have hiw:IntKind.i64.wrap ((i:Int)+1)=((i+1:Nat):Int):=by
    have:=HM.out
    rw [IntWalk.i64_in _ (by omega)]
    rfl
   obtain ⟨ad,A1,c1,e,hx,hl,hC⟩:=at_L17 (Kd.C_drewN HR.out n) (i:Int) (by omega) (by omega)
   obtain ⟨ad',A1',c1',e',hx',hl',hC'⟩:=at_L17 (Kd.C_drewN HR'.out n) (i:Int) (by omega) (by omega)
   subst e
   subst e'
   rw [Int.toNat_natCast] at hx hx'
   have HCL:=jM (slices_Equal_int_int.calls _ A1 c1 _ A1' c1' _ true _ hC hl hC' hl' (ints74_same _ hC.2.1))
   clear hC hC' hl hl'
   go_wp2_with (go_at_call 43;refine HCL.out.mono ?_;rintro e w2 ⟨rfl,⟨n2,rfl⟩⟩)
   go_roundw
   all_goals first
    | exact ⟨i+1,rfl,by omega,⟨⟨_,World.drewN_drewN _ _ _⟩⟩⟩
    | exact ⟨i+1,rfl,by omega,⟨by repeat (first | exact Drawn0.refl _ | apply Drawn0.step | apply Drawn0.steps)⟩⟩
    | (simp [intOf];omega)
    | trace_state
  ·have hib:decide (i < K.length)=false:=decide_eq_false hlt
   have hib2:decide ((i:Int) < (K.length:Int))=false:=decide_eq_false (by omega)
   go_wp2_with fail
   go_ret
   exact ⟨rfl,⟨n,rfl⟩⟩
end
end Go.Proofs.YtclollnicbcooaaGreatDoor.P
namespace Go.Proofs.YtclollnicbcooaaGreatDoor.P
open Go.RowKit Go.Lib Go.Sort YtclollnicbcooaaGreatDoorW.PrintWords YtclollnicbcooaaGreatDoorW.PrintLast YtclollnicbcooaaGreatDoorW.PrintMore St Base
section
attribute [local go_sem] Oper.semAt_some

def look_Ahead.f (k:Nat) (l0:List S65) (l1:List S73) (l2:List ByteArray) (l3:List S68) (st:Int) (Ka:List (List S77)) (Na:List (List Int)):Option (List S96) :=
 (states_Build.f l0 l1 l2 l3 st).bind fun b=>if b.2.2=0∧Ka.map (·.map toI)=b.1.map (·.map toI)∧Na=b.2.1 then look_rows.f k l0 l1 l2 l3 st b.1 b.2.1 else none
set_option maxHeartbeats 4000000 in
set_option maxRecDepth 100000 in
theorem look_Ahead.calls (k:Nat) (A0:Option Addr) (c0:Nat) (l0:List S65) (A1:Option Addr) (c1:Nat) (l1:List S73) (A2:Option Addr) (c2:Nat) (l2:List ByteArray) (A3:Option Addr) (c3:Nat) (l3:List S68) (st:Int) (AK:Option Addr) (cK:Nat) (Ka:List (List S77)) (AN:Option Addr) (cN:Nat) (Na:List (List Int)) (r:List S96) (w:World) (hG:GTab w)
  (hr0:Kd.C k65 w A0 l0.length l0) (hc0:l0.length≤c0) (hr1:Kd.C k73 w A1 l1.length l1) (hc1:l1.length≤c1) (hr2:Kd.C Kd.string w A2 l2.length l2) (hc2:l2.length≤c2) (hr3:Kd.C k68 w A3 l3.length l3) (hc3:l3.length≤c3)
  (hrK:Kd.C (Kd.slice 77 k77) w AK Ka.length Ka) (hcK:Ka.length≤cK) (hrN:Kd.C (Kd.slice 3 (Kd.int .i64)) w AN Na.length Na) (hcN:Na.length≤cN) (h:look_Ahead.f k l0 l1 l2 l3 st Ka Na=some r) :
  Calls Tryz.prog 25 #[.agg #[.slice A0 l0.length c0,.slice A1 l1.length c1,.slice A2 l2.length c2,.slice A3 l3.length c3,.int .i64 st],.agg #[.slice AK Ka.length cK,.slice AN Na.length cN]] w fun e w'=>∃ v0_:Value,e=.returned v0_∧Kd.S k96 96 w' w.heap.size (fun _=>True) v0_ r∧Below w.heap.size w w':=by
 have HR0:=jM hr0
 have HR1:=jM hr1
 have HR2:=jM hr2
 have HR3:=jM hr3
 have HC0:=jM hc0
 have HC1:=jM hc1
 have HC2:=jM hc2
 have HC3:=jM hc3
 have HRK:=jM hrK
 have HRN:=jM hrN
 have HG:=jM hG
 unfold look_Ahead.f at h
 obtain ⟨⟨K,N,e⟩,hb,h⟩:=Option.bind_eq_some_iff.1 h
 simp only at h
 split at h
 case isFalse=>cases h
 rename_i hq
 obtain ⟨rfl,hKa,rfl⟩:=hq
 have hKK:Ka=K:=by
  have:=congrArg (fun x:List (List Itm)=>x.map (·.map ofI)) hKa
  simp only [List.map_map] at this
  have e:((fun x:List Itm=>x.map ofI) ∘ fun x:List S77=>x.map toI)=id:=by
   funext x
   exact map_ofI_toI x
  rwa [e,List.map_id,List.map_id] at this
 subst hKK
 have HBU:=jM fun (W':World) (hb':RowKit.Below w.heap.size w W')=>states_Build.calls A0 c0 l0 A1 c1 l1 A2 c2 l2 A3 c3 l3 st Ka Na 0 W' (GTab.below HG.out hb') (Kd.C_below HR0.out hb') HC0.out (Kd.C_below HR1.out hb') HC1.out (Kd.C_below HR2.out hb') HC2.out (Kd.C_below HR3.out hb') HC3.out hb
 have HRR:=jM h
 clear hr0 hr1 hr2 hr3 hc0 hc1 hc2 hc3 hrK hrN hG hb h hKa
 have hu27:=Tryz.underlying27
 have hu44:=Tryz.underlying44
 go_enter Tryz.func25,Tryz.ntmps25
 go_upto_region 1 with fail
 have BG:=jM (blk_alloc (blk_new w (Obj.cells #[.slice A0 l0.length c0,.slice A1 l1.length c1,.slice A2 l2.length c2,.slice A3 l3.length c3,.int .i64 st] 27)) (Obj.cells #[.slice AK Ka.length cK,.slice AN Na.length cN] 44))
 have BA:=jM (show ((w.alloc (Obj.cells #[.slice A0 l0.length c0,.slice A1 l1.length c1,.slice A2 l2.length c2,.slice A3 l3.length c3,.int .i64 st] 27)).alloc (Obj.cells #[.slice AK Ka.length cK,.slice AN Na.length cN] 44)).heap[w.heap.size+1]? = some (.cells #[.slice AK Ka.length cK,.slice AN Na.length cN] 44 (0,0)) by have h:=blk_new (w.alloc (Obj.cells #[.slice A0 l0.length c0,.slice A1 l1.length c1,.slice A2 l2.length c2,.slice A3 l3.length c3,.int .i64 st] 27)) (Obj.cells #[.slice AK Ka.length cK,.slice AN Na.length cN] 44);rw [World.size_alloc] at h;exact h)
 have HB1:=jM (below_alloc (below_alloc (RowKit.Below.refl w.heap.size w) (Obj.cells #[.slice A0 l0.length c0,.slice A1 l1.length c1,.slice A2 l2.length c2,.slice A3 l3.length c3,.int .i64 st] 27)) (Obj.cells #[.slice AK Ka.length cK,.slice AN Na.length cN] 44))
 generalize (w.alloc (Obj.cells #[.slice A0 l0.length c0,.slice A1 l1.length c1,.slice A2 l2.length c2,.slice A3 l3.length c3,.int .i64 st] 27)).alloc (Obj.cells #[.slice AK Ka.length cK,.slice AN Na.length cN] 44)=w1 at *
 obtain ⟨z0,z1,z2,z3,z4⟩:=five5 BG.out
 go_upto_region 2 with (go_at_call 14;refine (HBU.out w1 HB1.out).mono ?_;rintro e1 w2 ⟨vK,vN,rfl,hK,hN,hb2⟩;obtain ⟨AK2,cK2,eK,hcK2,hCK⟩:=Kd.S_reads hK;obtain ⟨AN2,cN2,eN,hcN2,hCN⟩:=Kd.S_reads hN;subst eK;subst eN;have HB2:=jM (below_step HB1.out hb2);have BG2:=jM (blk_below BG.out hb2);have BA2:=jM (blk_below BA.out hb2);have HCK:=jM hCK;have HCN:=jM hCN;have HLK:=jM hcK2;have HLN:=jM hcN2;clear hK hN hb2 hCK hCN hcK2 hcN2)
 have BB:=jM (blk_new w2 (Obj.cells #[.slice AK2 Ka.length cK2,.slice AN2 Na.length cN2] 44))
 have HA:=jM (below_alloc (RowKit.Below.refl w2.heap.size w2) (Obj.cells #[.slice AK2 Ka.length cK2,.slice AN2 Na.length cN2] 44))
 have HB3:=jM (below_step HB2.out HA.out)
 have BG3:=jM (blk_below BG2.out HA.out)
 have BA3:=jM (blk_below BA2.out HA.out)
 have HCK3:=jM (Kd.C_below HCK.out HA.out)
 have HCN3:=jM (Kd.C_below HCN.out HA.out)
 clear z0 z1 z2 z3 z4 HA HCK HCN BG2 BA2 BA HB1 BG
 generalize w2.alloc (Obj.cells #[.slice AK2 Ka.length cK2,.slice AN2 Na.length cN2] 44)=w3 at *
 generalize w2.heap.size=ab at *
 have a0:w3.cell? ⟨ab,0,none⟩=some (.slice AK2 Ka.length cK2):=blk_cell BB.out 0
 have a1:w3.cell? ⟨ab,1,none⟩=some (.slice AN2 Na.length cN2):=blk_cell BB.out 1
 have b0:w3.cell? ⟨w.heap.size+1,0,none⟩=some (.slice AK Ka.length cK):=blk_cell BA3.out 0
 have b1:w3.cell? ⟨w.heap.size+1,1,none⟩=some (.slice AN Na.length cN):=blk_cell BA3.out 1
 go_upto_region 4 with (first | (go_at_call 40;refine (same71_calls AK AK2 cK cK2 Ka _ (Kd.C_below HRK.out HB3.out) HCK3.out).mono ?_;rintro e4 w4 ⟨rfl,⟨n4,rfl⟩⟩) | (go_at_call 42;refine (same73_calls AN AN2 cN cN2 Na _ (by repeat (first | exact Kd.C_below HRN.out HB3.out | apply Kd.C_drewN)) (by repeat (first | exact HCN3.out | apply Kd.C_drewN))).mono ?_;rintro e5 w5 ⟨rfl,⟨n5,rfl⟩⟩))
 have HB4:=jM (pw_below_drewN HB3.out (n4+n5))
 have BB4:=jM (blk_drewN BB.out (n4+n5))
 have BG4:=jM (blk_drewN BG3.out (n4+n5))
 have HCK4:=jM (Kd.C_drewN HCK3.out (n4+n5))
 have HCN4:=jM (Kd.C_drewN HCN3.out (n4+n5))
 clear a0 a1 b0 b1 HCK3 HCN3 BB BG3 BA3
 generalize w3.drewN (n4+n5)=w4 at *
 have a0:w4.cell? ⟨ab,0,none⟩=some (.slice AK2 Ka.length cK2):=blk_cell BB4.out 0
 have a1:w4.cell? ⟨ab,1,none⟩=some (.slice AN2 Na.length cN2):=blk_cell BB4.out 1
 obtain ⟨z0,z1,z2,z3,z4⟩:=five5 BG4.out
 have HRW:=jM (look_rows.calls k A0 c0 l0 A1 c1 l1 A2 c2 l2 A3 c3 l3 st AK2 cK2 Ka AN2 cN2 Na r w4 (Kd.C_below HR0.out HB4.out) HC0.out (Kd.C_below HR1.out HB4.out) HC1.out (Kd.C_below HR2.out HB4.out) HC2.out (Kd.C_below HR3.out HB4.out) HC3.out HCK4.out HLK.out HCN4.out HLN.out HRR.out)
 go_wp2_with (go_at_call 44;refine HRW.out.mono ?_;rintro e6 w6 ⟨v0,rfl,hS,hb6⟩;have HS:=jM hS;have HB6:=jM hb6;clear hS hb6)
 go_ret
 exact ⟨_,rfl,Kd.S_lower HS.out HB4.out.size,below_step HB4.out HB6.out⟩
end
end Go.Proofs.YtclollnicbcooaaGreatDoor.P
namespace Go.Proofs.YtclollnicbcooaaGreatDoor.P
open Go.RowKit YtclollnicbcooaaGreatDoorW.PrintWords YtclollnicbcooaaGreatDoorW.PrintLast YtclollnicbcooaaGreatDoorW.PrintMore
section
attribute [local go_sem] max2_int min2_int max_two min_two max_three min_three max_four min_four

/-! ### table_All: function 12 -/
mutual
def table_All.l0:Nat→List (S96)→List (List (List (S53)))→Int→Int→List (S65)→List (S73)→List ByteArray→List (S68)→Int→List (List (S77))→List (List Int)→Option ((List (List (List (S53)))) × Int)
 | 0,_,_,_,_,_,_,_,_,_,_,_=>none
 | k+1,x6,x7,x24,x25,xA,xB,xC,xD,xE,xF,xG=>if x25 < x24 then (table_All.l1 k x6 x7 x25 ([]:List (List (S53))) x24 x25 (wrap64 ((xA.length:Int)+1)) 0 xA xB xC xD xE xF xG) else (some (x7,0))
def table_All.l1:Nat→List (S96)→List (List (List (S53)))→Int→List (List (S53))→Int→Int→Int→Int→List (S65)→List (S73)→List ByteArray→List (S68)→Int→List (List (S77))→List (List Int)→Option ((List (List (List (S53)))) × Int)
 | 0,_,_,_,_,_,_,_,_,_,_,_,_,_,_,_=>none
 | k+1,x6,x7,x8,x9,x24,x25,x31,x32,xA,xB,xC,xD,xE,xF,xG=>if x32 < x31 then ((table_deeds.f k xA xB xC xD xE xF xG x6 x8 x32).bind fun t226=>(if x9.length < 5864062014805 then (table_All.l1 k x6 x7 x8 (x9 ++ [t226]) x24 x25 x31 (wrap64 (x32+1)) xA xB xC xD xE xF xG) else (none))) else (if x7.length < 5864062014805 then (table_All.l0 k x6 (x7 ++ [x9]) x24 (wrap64 (x25+1)) xA xB xC xD xE xF xG) else (none))
end
def table_All.f (k:Nat) (l0_0:List (S65)) (l0_1:List (S73)) (l0_2:List ByteArray) (l0_3:List (S68)) (a0_4:Int):Option ((List (List (List (S53)))) × Int):=(states_Build.f l0_0 l0_1 l0_2 l0_3 a0_4).bind fun bt215=>(if bt215.2.2=0 then ((look_Ahead.f k l0_0 l0_1 l0_2 l0_3 a0_4 bt215.1 bt215.2.1).bind fun t223=>(table_All.l0 k t223 ([]:List (List (List (S53)))) (bt215.1.length:Int) 0 l0_0 l0_1 l0_2 l0_3 a0_4 bt215.1 bt215.2.1)) else (some (([]:List (List (List (S53)))),bt215.2.2)))
set_option maxHeartbeats 8000000 in
set_option maxRecDepth 100000 in
theorem table_All.calls (k:Nat) (A0_0:Option Addr) (c0_0:Nat) (l0_0:List (S65)) (A0_1:Option Addr) (c0_1:Nat) (l0_1:List (S73)) (A0_2:Option Addr) (c0_2:Nat) (l0_2:List ByteArray) (A0_3:Option Addr) (c0_3:Nat) (l0_3:List (S68)) (a0_4:Int) (r1:List (List (List (S53)))) (r2:Int) (w:World) (hG:GTab w) (hr0_0:Kd.C k65 w A0_0 l0_0.length l0_0) (hc0_0:l0_0.length≤c0_0) (hr0_1:Kd.C k73 w A0_1 l0_1.length l0_1) (hc0_1:l0_1.length≤c0_1) (hr0_2:Kd.C Kd.string w A0_2 l0_2.length l0_2) (hc0_2:l0_2.length≤c0_2) (hr0_3:Kd.C k68 w A0_3 l0_3.length l0_3) (hc0_3:l0_3.length≤c0_3) (h:table_All.f k l0_0 l0_1 l0_2 l0_3 a0_4=some (r1,r2)) :
  Calls Tryz.prog 12 #[.agg #[.slice A0_0 l0_0.length c0_0,.slice A0_1 l0_1.length c0_1,.slice A0_2 l0_2.length c0_2,.slice A0_3 l0_3.length c0_3,.int .i64 a0_4]] w fun e w'=>∃ v0_:Value,e=.returned (.tuple #[v0_,.int .i64 r2])∧Kd.R (Kd.slice 49 (Kd.slice 53 k53)) 30 w' w.heap.size (fun _=>True) v0_ r1∧Below w.heap.size w w':=by
 have hu27:=Tryz.underlying27
 have hu44:=Tryz.underlying44
 have HG:=jM hG
 clear hG
 have HR0_0:=jM hr0_0
 have HC0_0:=jM hc0_0
 clear hr0_0 hc0_0
 have HR0_1:=jM hr0_1
 have HC0_1:=jM hc0_1
 clear hr0_1 hc0_1
 have HR0_2:=jM hr0_2
 have HC0_2:=jM hc0_2
 clear hr0_2 hc0_2
 have HR0_3:=jM hr0_3
 have HC0_3:=jM hc0_3
 clear hr0_3 hc0_3
 have HB:=jM (Below.refl w.heap.size w)
 have H:((states_Build.f l0_0 l0_1 l0_2 l0_3 a0_4).bind fun bt215=>(if bt215.2.2=0 then ((look_Ahead.f k l0_0 l0_1 l0_2 l0_3 a0_4 bt215.1 bt215.2.1).bind fun t223=>(table_All.l0 k t223 ([]:List (List (List (S53)))) (bt215.1.length:Int) 0 l0_0 l0_1 l0_2 l0_3 a0_4 bt215.1 bt215.2.1)) else (some (([]:List (List (List (S53)))),bt215.2.2))))=some (r1,r2):=h
 clear h
 replace H:=Option.bind_eq_some_iff.mp H
 obtain ⟨⟨t215,t218,t221⟩,A20,H⟩:=H
 replace H:(if t221=0 then ((look_Ahead.f k l0_0 l0_1 l0_2 l0_3 a0_4 t215 t218).bind fun t223=>(table_All.l0 k t223 ([]:List (List (List (S53)))) (t215.length:Int) 0 l0_0 l0_1 l0_2 l0_3 a0_4 t215 t218)) else (some (([]:List (List (List (S53)))),t221)))=some (r1,r2):=H
 have A2:=jM A20
 clear A20
 by_cases c3:t221=0
 ·rw [if_pos c3] at H
  have c3b0:(t221 == 0)=true:=beq_iff_eq.mpr c3
  have c3b1:(t221 != 0)=false:=bne_eq_false_iff_eq.mpr c3
  clear c3
  replace H:=Option.bind_eq_some_iff.mp H
  obtain ⟨t223,A40,H⟩:=H
  replace H:(table_All.l0 k t223 ([]:List (List (List (S53)))) (t215.length:Int) 0 l0_0 l0_1 l0_2 l0_3 a0_4 t215 t218)=some (r1,r2):=H
  have A4:=jM A40
  clear A40
  have H':=jM H
  clear H
  go_enter Tryz.func12,Tryz.ntmps12
  go_wp2_with (first | ((with_reducible refine gate_dst (N:=1) rfl ?_);refine box_event ?hg (N:=1) ?hd (cs:=#[.slice A0_0 l0_0.length c0_0,.slice A0_1 l0_1.length c0_1,.slice A0_2 l0_2.length c0_2,.slice A0_3 l0_3.length c0_3,.int .i64 a0_4]) (t:=27) ?hr ?_;(case hd=>rfl);(case hg=>rfl);(case hr=>first | (go_simp;done) | (go_simp;rfl));intro gb214 hg w5 hbox hb;have n0_:=jM (jT (tB HB.out) hb);have n1_:=jM (hbox);have n2_:=jM ((by rw [hg];exact (below_size (tB HB.out)):w.heap.size≤gb214));have n3_:=jM ((by rw [hg];exact (below_size (tB HB.out)):w.heap.size≤gb214));clear HB;have HB:=n0_;have BK214:=n1_;have GW214:=n2_;have GE214:=n3_;clear n0_ n1_ n2_ n3_;clear hb hbox hg;obtain ⟨hcz6_0,hcz6_1,hcz6_2,hcz6_3,hcz6_4⟩:=jC5 BK214.out;have hfz6_0:=jF BK214.out 0;have hfz6_1:=jF BK214.out 1;have hfz6_2:=jF BK214.out 2;have hfz6_3:=jF BK214.out 3;have hfz6_4:=jF BK214.out 4) | ((with_reducible refine gate_callee (f:=14) rfl ?_);refine goesL_ (some 13) rfl rfl Tryz.func14 (by kernel_rfl) rfl #[.agg #[.slice A0_0 l0_0.length c0_0,.slice A0_1 l0_1.length c0_1,.slice A0_2 l0_2.length c0_2,.slice A0_3 l0_3.length c0_3,.int .i64 a0_4]] rfl tM ?_;(with_reducible refine (states_Build.calls _ _ l0_0 _ _ l0_1 _ _ l0_2 _ _ l0_3 a0_4 t215 t218 t221 _ ?side1 ?side2 ?side3 ?side4 ?side5 ?side6 ?side7 ?side8 ?side9 A2.out).mono ?_);(case side1=>exact GTab.below HG.out (tE HB.out));(case side2=>exact tC (jB HR0_0.out HB.out));(case side3=>exact HC0_0.out);(case side4=>exact tC (jB HR0_1.out HB.out));(case side5=>exact HC0_1.out);(case side6=>exact tC (jB HR0_2.out HB.out));(case side7=>exact HC0_2.out);(case side8=>exact tC (jB HR0_3.out HB.out));(case side9=>exact HC0_3.out);rintro e w7 ⟨v216,v219,rfl,ho0,ho1,hb⟩;refine ⟨_,rfl, ?_⟩;have HO217:=jM (Kd.S_lower ho0 (below_size (tE HB.out)));have HO220:=jM (Kd.S_lower ho1 (below_size (tE HB.out)));replace BK214:=jM (jW (g:=gb214) (o:=.cells #[.slice A0_0 l0_0.length c0_0,.slice A0_1 l0_1.length c0_1,.slice A0_2 l0_2.length c0_2,.slice A0_3 l0_3.length c0_3,.int .i64 a0_4] 27 (0,0)) (tK BK214.out) hb);replace HB:=jM (jT (tE HB.out) hb);(try clear hb);(try clear hb2);(try clear hk);(try clear hi);(try clear ho0);(try clear ho1)) | ((with_reducible refine gate_dst (N:=4) rfl ?_);refine box_event ?hg (N:=4) ?hd (cs:=#[.slice none 0 0,.slice none 0 0]) (t:=44) ?hr ?_;(case hd=>rfl);(case hg=>rfl);(case hr=>first | (go_simp;done) | (go_simp;rfl));intro gb222 hg w8 hbox hb;have n0_:=jM (Kd.S_below (by (with_reducible repeat (first | apply Kd.S_alloc | apply Kd.S_drewN | apply Kd.S_drew));exact HO217.out) hb);have n1_:=jM (Kd.S_below (by (with_reducible repeat (first | apply Kd.S_alloc | apply Kd.S_drewN | apply Kd.S_drew));exact HO220.out) hb);have n2_:=jM (jW (g:=gb214) (o:=.cells #[.slice A0_0 l0_0.length c0_0,.slice A0_1 l0_1.length c0_1,.slice A0_2 l0_2.length c0_2,.slice A0_3 l0_3.length c0_3,.int .i64 a0_4] 27 (0,0)) (tK BK214.out) hb);have n3_:=jM (jT (tE HB.out) hb);have n4_:=jM (hbox);have n5_:=jM ((by rw [hg];exact (below_size (tE HB.out)):w.heap.size≤gb222));have n6_:=jM ((by rw [hg];exact (below_size (tE HB.out)):w.heap.size≤gb222));have n7_:=jM ((by rw [hg];exact Nat.ne_of_lt (blk_lt (g:=gb214) (o:=.cells #[.slice A0_0 l0_0.length c0_0,.slice A0_1 l0_1.length c0_1,.slice A0_2 l0_2.length c0_2,.slice A0_3 l0_3.length c0_3,.int .i64 a0_4] 27 (0,0)) (tK BK214.out)):gb214≠gb222));have n8_:=jM ((by rw [hg];exact Nat.ne_of_gt (blk_lt (g:=gb214) (o:=.cells #[.slice A0_0 l0_0.length c0_0,.slice A0_1 l0_1.length c0_1,.slice A0_2 l0_2.length c0_2,.slice A0_3 l0_3.length c0_3,.int .i64 a0_4] 27 (0,0)) (tK BK214.out)):gb222≠gb214));clear HO217 HO220 BK214 HB;have HO217:=n0_;have HO220:=n1_;have BK214:=n2_;have HB:=n3_;have BK222:=n4_;have GW222:=n5_;have GE222:=n6_;have NB214_222:=n7_;have NB222_214:=n8_;clear n0_ n1_ n2_ n3_ n4_ n5_ n6_ n7_ n8_;clear hb hbox hg;obtain ⟨Ao9,co9,eo9⟩:=Kd.S_slice HO217.out;subst eo9;have hnb10:=NB222_214.out;have hnc10:=NB214_222.out;obtain ⟨hcz11_0,hcz11_1⟩:=jC2 BK222.out;have hfz11_0:=jF BK222.out 0;have hfz11_1:=jF BK222.out 1;obtain ⟨Ao12,co12,eo12⟩:=Kd.S_slice HO220.out;subst eo12;obtain ⟨hcz13_0,hcz13_1,hcz13_2,hcz13_3,hcz13_4⟩:=jC5 BK214.out;have hfz13_0:=jF BK214.out 0;have hfz13_1:=jF BK214.out 1;have hfz13_2:=jF BK214.out 2;have hfz13_3:=jF BK214.out 3;have hfz13_4:=jF BK214.out 4) | ((with_reducible refine gate_callee (f:=25) rfl ?_);refine goesL_ (some 21) rfl rfl Tryz.func25 (by kernel_rfl) rfl #[.agg #[.slice A0_0 l0_0.length c0_0,.slice A0_1 l0_1.length c0_1,.slice A0_2 l0_2.length c0_2,.slice A0_3 l0_3.length c0_3,.int .i64 a0_4],.agg #[.slice Ao9 t215.length co9,.slice Ao12 t218.length co12]] rfl tM ?_;(with_reducible refine (look_Ahead.calls k _ _ l0_0 _ _ l0_1 _ _ l0_2 _ _ l0_3 a0_4 _ _ t215 _ _ t218 t223 _ ?side1 ?side2 ?side3 ?side4 ?side5 ?side6 ?side7 ?side8 ?side9 ?side10 ?side11 ?side12 ?side13 A4.out).mono ?_);(case side1=>exact GTab.below HG.out (tE HB.out));(case side2=>exact jB HR0_0.out (tE HB.out));(case side3=>exact HC0_0.out);(case side4=>exact jB HR0_1.out (tE HB.out));(case side5=>exact HC0_1.out);(case side6=>exact jB HR0_2.out (tE HB.out));(case side7=>exact HC0_2.out);(case side8=>exact jB HR0_3.out (tE HB.out));(case side9=>exact HC0_3.out);(case side10=>refine (Kd.S_reads' (e:=75) (base:=w.heap.size) (ok:=fun k_=>True) (n:=t215.length) (c:=co9) ?_).2.2;exact (by (with_reducible repeat (first | apply Kd.S_alloc | apply Kd.S_drewN | apply Kd.S_drew));exact (Kd.S_mono (Kd.S_far (p:=⟨gb222,1,none⟩) (Kd.S_far (p:=⟨gb222,0,none⟩) (Kd.S_types HO217.out BK222.out (by decide)) (fun _ hk=>hk.2) (.slice Ao9 t215.length co9)) (fun _ hk=>hk.2) (.slice Ao12 t218.length co12)) (fun _ h_=>h_.1))));(case side11=>exact (Kd.S_reads' HO217.out).2.1);(case side12=>refine (Kd.S_reads' (e:=50) (base:=w.heap.size) (ok:=fun k_=>True) (n:=t218.length) (c:=co12) ?_).2.2;exact (by (with_reducible repeat (first | apply Kd.S_alloc | apply Kd.S_drewN | apply Kd.S_drew));exact (Kd.S_mono (Kd.S_far (p:=⟨gb222,1,none⟩) (Kd.S_far (p:=⟨gb222,0,none⟩) (Kd.S_types HO220.out BK222.out (by decide)) (fun _ hk=>hk.2) (.slice Ao9 t215.length co9)) (fun _ hk=>hk.2) (.slice Ao12 t218.length co12)) (fun _ h_=>h_.1))));(case side13=>exact (Kd.S_reads' HO220.out).2.1);rintro e w14 ⟨v224,rfl,ho0,hb⟩;refine ⟨_,rfl, ?_⟩;replace HO217:=jM (Kd.S_below (by (with_reducible repeat (first | apply Kd.S_alloc | apply Kd.S_drewN | apply Kd.S_drew));exact (Kd.S_mono (Kd.S_far (p:=⟨gb222,1,none⟩) (Kd.S_far (p:=⟨gb222,0,none⟩) (Kd.S_types HO217.out BK222.out (by decide)) (fun _ hk=>hk.2) (.slice Ao9 t215.length co9)) (fun _ hk=>hk.2) (.slice Ao12 t218.length co12)) (fun _ h_=>h_.1))) hb);replace HO220:=jM (Kd.S_below (by (with_reducible repeat (first | apply Kd.S_alloc | apply Kd.S_drewN | apply Kd.S_drew));exact (Kd.S_mono (Kd.S_far (p:=⟨gb222,1,none⟩) (Kd.S_far (p:=⟨gb222,0,none⟩) (Kd.S_types HO220.out BK222.out (by decide)) (fun _ hk=>hk.2) (.slice Ao9 t215.length co9)) (fun _ hk=>hk.2) (.slice Ao12 t218.length co12)) (fun _ h_=>h_.1))) hb);have HO225:=jM (Kd.S_lower ho0 (below_size (tE HB.out)));replace BK214:=jM (jW (g:=gb214) (o:=.cells #[.slice A0_0 l0_0.length c0_0,.slice A0_1 l0_1.length c0_1,.slice A0_2 l0_2.length c0_2,.slice A0_3 l0_3.length c0_3,.int .i64 a0_4] 27 (0,0)) (by (with_reducible repeat (first | refine jY ?_ _ | refine jZ ?_ | refine jX ?_ _));refine blk_far ?_ NB214_222.out _;(with_reducible repeat (first | refine jY ?_ _ | refine jZ ?_ | refine jX ?_ _));refine blk_far ?_ NB214_222.out _;(with_reducible repeat (first | refine jY ?_ _ | refine jZ ?_ | refine jX ?_ _));exact BK214.out) hb);replace BK222:=jM (jW (g:=gb222) (o:=.cells #[.slice Ao9 t215.length co9,.slice Ao12 t218.length co12] 44 (0,0)) (by (with_reducible repeat (first | refine jY ?_ _ | refine jZ ?_ | refine jX ?_ _));refine blk_put (cs:=#[.slice Ao9 t215.length co9,.slice none 0 0]) ?_ 1 _ rfl;(with_reducible repeat (first | refine jY ?_ _ | refine jZ ?_ | refine jX ?_ _));refine blk_put (cs:=#[.slice none 0 0,.slice none 0 0]) ?_ 0 _ rfl;(with_reducible repeat (first | refine jY ?_ _ | refine jZ ?_ | refine jX ?_ _));exact BK222.out) hb);replace HB:=jM (jT (tE HB.out) hb);(try clear hb);(try clear hb2);(try clear hk);(try clear hi);(try clear ho0);obtain ⟨hcz15_0,hcz15_1⟩:=jC2 BK222.out;have hfz15_0:=jF BK222.out 0;have hfz15_1:=jF BK222.out 1))
  go_loopg [7,25] k (fun kq v7 v25 w'=>∃ (x7_1:List (List (List (S53)))) (x25_1:Int),v25=.int .i64 x25_1∧Aside0 (table_All.l0 kq t223 x7_1 (t215.length:Int) x25_1 l0_0 l0_1 l0_2 l0_3 a0_4 t215 t218=some (r1,r2))∧Aside0 (kq≤k)∧Aside0 (Kd.S k96 96 w' w.heap.size (fun _=>True) v224 t223)∧Aside0 (Kd.R (Kd.slice 49 (Kd.slice 53 k53)) 30 w' w.heap.size (fun _=>True) v7 x7_1)∧Aside0 (Kd.S (Kd.slice 77 k77) 75 w' w.heap.size (fun _=>True) (.slice Ao9 t215.length co9) t215)∧Aside0 (Kd.S (Kd.slice 3 (Kd.int .i64)) 50 w' w.heap.size (fun _=>True) (.slice Ao12 t218.length co12) t218)∧Aside0 (w'.heap[gb214]? = some (.cells #[(.slice A0_0 l0_0.length c0_0),(.slice A0_1 l0_1.length c0_1),(.slice A0_2 l0_2.length c0_2),(.slice A0_3 l0_3.length c0_3),.int .i64 a0_4] 27 (0,0)))∧Aside0 (w'.heap[gb222]? = some (.cells #[(.slice Ao9 t215.length co9),(.slice Ao12 t218.length co12)] 44 (0,0)))∧Aside0 (Below w.heap.size w w'))
  case atStart=>exact ⟨(([]:List (List (List (S53))))),(0),tZ,H',⟨Nat.le_refl _⟩,⟨by (with_reducible repeat (first | apply Kd.S_alloc | apply Kd.S_drewN | apply Kd.S_drew));exact HO225.out⟩,⟨by first | exact Kd.R_nil _ _ _ _ _ | exact Kd.N_nil _ _ _ _ _ | exact Kd.V_nil _ _ _ _ _ | exact Kd.Q_nil _ _ _ _ _ | exact Kd.S_nil _ _ _ _ _⟩,⟨by (with_reducible repeat (first | apply Kd.S_alloc | apply Kd.S_drewN | apply Kd.S_drew));exact HO217.out⟩,⟨by (with_reducible repeat (first | apply Kd.S_alloc | apply Kd.S_drewN | apply Kd.S_drew));exact HO220.out⟩,⟨tK BK214.out⟩,⟨tK BK222.out⟩,⟨tE HB.out⟩⟩
  case round =>
   clear H'
   try clear c1
   try clear c2
   try clear p2
   try clear c3
   try clear c3b0
   try clear c3b1
   try clear c10
   try clear c12
   try clear c14
   try clear hcz11_0
   try clear hcz11_1
   try clear hcz13_0
   try clear hcz13_1
   try clear hcz13_2
   try clear hcz13_3
   try clear hcz13_4
   try clear hcz15_0
   try clear hcz15_1
   try clear hcz6_0
   try clear hcz6_1
   try clear hcz6_2
   try clear hcz6_3
   try clear hcz6_4
   try clear hfz11_0
   try clear hfz11_1
   try clear hfz13_0
   try clear hfz13_1
   try clear hfz13_2
   try clear hfz13_3
   try clear hfz13_4
   try clear hfz15_0
   try clear hfz15_1
   try clear hfz6_0
   try clear hfz6_1
   try clear hfz6_2
   try clear hfz6_3
   try clear hfz6_4
   obtain ⟨x7_1,x25_1,rfl,HA,HK1,HO_6,HO_7,HO_223000,HO_223001,BK214,BK222,HB⟩:=hrel
   cases gk with
   | zero=>exact absurd HA.out (by simp [table_All.l0])
   | succ k1 =>
    have H:=HA.out
    clear HA
    simp only [table_All.l0] at H
    by_cases c16:x25_1 < (t215.length:Int)
    ·rw [if_pos c16] at H
     have c16b0:decide (x25_1 < (t215.length:Int))=true:=decide_eq_true c16
     clear c16
     have H':=jM H
     clear H
     have hnb17:=NB214_222.out
     have hnc17:=NB222_214.out
     have hcz18_0:wr.cell? ⟨gb214,0,none⟩=some (.slice A0_0 l0_0.length c0_0):=(jC BK214.out 0).trans rfl
     have hcz18_1:wr.cell? ⟨gb214,1,none⟩=some (.slice A0_1 l0_1.length c0_1):=(jC BK214.out 1).trans rfl
     have hcz18_2:wr.cell? ⟨gb214,2,none⟩=some (.slice A0_2 l0_2.length c0_2):=(jC BK214.out 2).trans rfl
     have hcz18_3:wr.cell? ⟨gb214,3,none⟩=some (.slice A0_3 l0_3.length c0_3):=(jC BK214.out 3).trans rfl
     have hcz18_4:wr.cell? ⟨gb214,4,none⟩=some (.int .i64 a0_4):=(jC BK214.out 4).trans rfl
     have hfz18_0:=jF BK214.out 0
     have hfz18_1:=jF BK214.out 1
     have hfz18_2:=jF BK214.out 2
     have hfz18_3:=jF BK214.out 3
     have hfz18_4:=jF BK214.out 4
     go_wp2
     go_loopg [9,32] k1 (fun kq v9 v32 w'=>∃ (x9_2:List (List (S53))) (x32_2:Int),v32=.int .i64 x32_2∧Aside0 (table_All.l1 kq t223 x7_1 x25_1 x9_2 (t215.length:Int) x25_1 (wrap64 ((l0_0.length:Int)+1)) x32_2 l0_0 l0_1 l0_2 l0_3 a0_4 t215 t218=some (r1,r2))∧Aside0 (kq≤k1)∧Aside0 (Kd.S k96 96 w' w.heap.size (fun _=>True) v224 t223)∧Aside0 (Kd.R (Kd.slice 49 (Kd.slice 53 k53)) 30 w' w.heap.size (fun k_=>some k_≠(v9:Value).ownBlock) u7 x7_1)∧Aside0 (Kd.S (Kd.slice 53 k53) 49 w' w.heap.size (fun _=>True) v9 x9_2)∧Aside0 (Kd.S (Kd.slice 77 k77) 75 w' w.heap.size (fun _=>True) (.slice Ao9 t215.length co9) t215)∧Aside0 (Kd.S (Kd.slice 3 (Kd.int .i64)) 50 w' w.heap.size (fun _=>True) (.slice Ao12 t218.length co12) t218)∧Aside0 (w'.heap[gb214]? = some (.cells #[(.slice A0_0 l0_0.length c0_0),(.slice A0_1 l0_1.length c0_1),(.slice A0_2 l0_2.length c0_2),(.slice A0_3 l0_3.length c0_3),.int .i64 a0_4] 27 (0,0)))∧Aside0 (w'.heap[gb222]? = some (.cells #[(.slice Ao9 t215.length co9),(.slice Ao12 t218.length co12)] 44 (0,0)))∧Aside0 (Below w.heap.size w w'))
     case atStart=>exact ⟨(([]:List (List (S53)))),(0),tZ,H',⟨Nat.le_refl _⟩,⟨by (with_reducible repeat (first | apply Kd.S_alloc | apply Kd.S_drewN | apply Kd.S_drew));exact HO_6.out⟩,⟨by (with_reducible repeat (first | apply Kd.R_alloc | apply Kd.R_drewN | apply Kd.R_drew));exact Kd.R_mono HO_7.out (fun _ hk=>(by simp [Value.ownBlock]))⟩,⟨by first | exact Kd.S_nil _ _ _ _ _ | exact Kd.N_nil _ _ _ _ _ | exact Kd.V_nil _ _ _ _ _ | exact Kd.Q_nil _ _ _ _ _ | exact Kd.R_nil _ _ _ _ _⟩,⟨by (with_reducible repeat (first | apply Kd.S_alloc | apply Kd.S_drewN | apply Kd.S_drew));exact HO_223000.out⟩,⟨by (with_reducible repeat (first | apply Kd.S_alloc | apply Kd.S_drewN | apply Kd.S_drew));exact HO_223001.out⟩,⟨tK BK214.out⟩,⟨tK BK222.out⟩,⟨tE HB.out⟩⟩
     case round =>
      clear H'
      try clear c1
      try clear c2
      try clear p2
      try clear c3
      try clear c3b0
      try clear c3b1
      try clear p6
      try clear c10
      try clear c12
      try clear c14
      try clear c16
      try clear c16b0
      try clear c17
      try clear hcz11_0
      try clear hcz11_1
      try clear hcz13_0
      try clear hcz13_1
      try clear hcz13_2
      try clear hcz13_3
      try clear hcz13_4
      try clear hcz15_0
      try clear hcz15_1
      try clear hcz18_0
      try clear hcz18_1
      try clear hcz18_2
      try clear hcz18_3
      try clear hcz18_4
      try clear hcz6_0
      try clear hcz6_1
      try clear hcz6_2
      try clear hcz6_3
      try clear hcz6_4
      try clear hfz11_0
      try clear hfz11_1
      try clear hfz13_0
      try clear hfz13_1
      try clear hfz13_2
      try clear hfz13_3
      try clear hfz13_4
      try clear hfz15_0
      try clear hfz15_1
      try clear hfz18_0
      try clear hfz18_1
      try clear hfz18_2
      try clear hfz18_3
      try clear hfz18_4
      try clear hfz6_0
      try clear hfz6_1
      try clear hfz6_2
      try clear hfz6_3
      try clear hfz6_4
      try clear p2
      obtain ⟨x9_2,x32_2,rfl,HA,HK2,HO_6,HO_7,HO_9,HO_223000,HO_223001,BK214,BK222,HB⟩:=hrel
      cases gk with
      | zero=>exact absurd HA.out (by simp [table_All.l1])
      | succ k2 =>
       have H:=HA.out
       clear HA
       simp only [table_All.l1] at H
       by_cases c19:x32_2 < (wrap64 ((l0_0.length:Int)+1))
       ·rw [if_pos c19] at H
        have c19b0:decide (x32_2 < (wrap64 ((l0_0.length:Int)+1)))=true:=decide_eq_true c19
        clear c19
        replace H:=Option.bind_eq_some_iff.mp H
        obtain ⟨t226,A200,H⟩:=H
        replace H:(if x9_2.length < 5864062014805 then (table_All.l1 k2 t223 x7_1 x25_1 (x9_2 ++ [t226]) (t215.length:Int) x25_1 (wrap64 ((l0_0.length:Int)+1)) (wrap64 (x32_2+1)) l0_0 l0_1 l0_2 l0_3 a0_4 t215 t218) else (none))=some (r1,r2):=H
        have A20:=jM A200
        clear A200
        by_cases c21:x9_2.length < 5864062014805
        ·rw [if_pos c21] at H
         have LMc21:=jM c21
         clear c21
         obtain ⟨y229,hy229⟩:∃ y_:List (List (S53)),y_=(x9_2 ++ [t226]):=⟨_,rfl⟩
         replace H:(table_All.l1 k2 t223 x7_1 x25_1 y229 (t215.length:Int) x25_1 (wrap64 ((l0_0.length:Int)+1)) (wrap64 (x32_2+1)) l0_0 l0_1 l0_2 l0_3 a0_4 t215 t218)=some (r1,r2):=by first | (rw [hy229];with_reducible exact H) | (have H2_:=(Option.bind_some _ _).symm.trans H;rw [hy229];with_reducible exact H2_) | (have H2_:=(Option.bind_some _ _).symm.trans H;with_reducible exact H2_) | with_reducible exact H | (rw [hy229];exact H) | exact H
         have Ny229:=jM hy229
         clear hy229
         have H':=jM H
         clear H
         have hnb22:=NB214_222.out
         have hnc22:=NB222_214.out
         have hcz23_0:wr.cell? ⟨gb214,0,none⟩=some (.slice A0_0 l0_0.length c0_0):=(jC BK214.out 0).trans rfl
         have hcz23_1:wr.cell? ⟨gb214,1,none⟩=some (.slice A0_1 l0_1.length c0_1):=(jC BK214.out 1).trans rfl
         have hcz23_2:wr.cell? ⟨gb214,2,none⟩=some (.slice A0_2 l0_2.length c0_2):=(jC BK214.out 2).trans rfl
         have hcz23_3:wr.cell? ⟨gb214,3,none⟩=some (.slice A0_3 l0_3.length c0_3):=(jC BK214.out 3).trans rfl
         have hcz23_4:wr.cell? ⟨gb214,4,none⟩=some (.int .i64 a0_4):=(jC BK214.out 4).trans rfl
         have hfz23_0:=jF BK214.out 0
         have hfz23_1:=jF BK214.out 1
         have hfz23_2:=jF BK214.out 2
         have hfz23_3:=jF BK214.out 3
         have hfz23_4:=jF BK214.out 4
         have hcz24_0:wr.cell? ⟨gb222,0,none⟩=some (.slice Ao9 t215.length co9):=(jC BK222.out 0).trans rfl
         have hcz24_1:wr.cell? ⟨gb222,1,none⟩=some (.slice Ao12 t218.length co12):=(jC BK222.out 1).trans rfl
         have hfz24_0:=jF BK222.out 0
         have hfz24_1:=jF BK222.out 1
         obtain ⟨Ao25,co25,eo25⟩:=Kd.S_slice HO_6.out
         subst eo25
         go_wp2_with (first | ((with_reducible refine gate_callee (f:=26) rfl ?_);refine goesL_ (some 41) rfl rfl Tryz.func26 (by kernel_rfl) rfl #[.agg #[.slice A0_0 l0_0.length c0_0,.slice A0_1 l0_1.length c0_1,.slice A0_2 l0_2.length c0_2,.slice A0_3 l0_3.length c0_3,.int .i64 a0_4],.agg #[.slice Ao9 t215.length co9,.slice Ao12 t218.length co12],.slice Ao25 t223.length co25,.int .i64 x25_1,.int .i64 x32_2] rfl tM ?_;(with_reducible refine (table_deeds.calls k2 _ _ l0_0 _ _ l0_1 _ _ l0_2 _ _ l0_3 a0_4 _ _ t215 _ _ t218 _ _ t223 x25_1 x32_2 t226 _ ?side1 ?side2 ?side3 ?side4 ?side5 ?side6 ?side7 ?side8 ?side9 ?side10 ?side11 ?side12 ?side13 ?side14 A20.out).mono ?_);(case side1=>exact tC (jB HR0_0.out HB.out));(case side2=>exact HC0_0.out);(case side3=>exact tC (jB HR0_1.out HB.out));(case side4=>exact HC0_1.out);(case side5=>exact tC (jB HR0_2.out HB.out));(case side6=>exact HC0_2.out);(case side7=>exact tC (jB HR0_3.out HB.out));(case side8=>exact HC0_3.out);(case side9=>exact tC (Kd.S_reads' HO_223000.out).2.2);(case side10=>exact (Kd.S_reads' HO_223000.out).2.1);(case side11=>exact tC (Kd.S_reads' HO_223001.out).2.2);(case side12=>exact (Kd.S_reads' HO_223001.out).2.1);(case side13=>exact tC (Kd.S_reads' HO_6.out).2.2);(case side14=>exact (Kd.S_reads' HO_6.out).2.1);rintro e w26 ⟨v227,rfl,ho0,hb⟩;refine ⟨_,rfl, ?_⟩;replace HO_6:=jM (Kd.S_below (by (with_reducible repeat (first | apply Kd.S_alloc | apply Kd.S_drewN | apply Kd.S_drew));exact HO_6.out) hb);replace HO_7:=jM (Kd.R_elder' (tR HO_7.out) (Kd.R_base ho0) hb);replace HO_9:=jM (Kd.S_elder' (by (with_reducible repeat (first | apply Kd.S_alloc | apply Kd.S_drewN | apply Kd.S_drew));exact HO_9.out) (Kd.R_base ho0) hb);replace HO_223000:=jM (Kd.S_below (by (with_reducible repeat (first | apply Kd.S_alloc | apply Kd.S_drewN | apply Kd.S_drew));exact HO_223000.out) hb);replace HO_223001:=jM (Kd.S_below (by (with_reducible repeat (first | apply Kd.S_alloc | apply Kd.S_drewN | apply Kd.S_drew));exact HO_223001.out) hb);have HO228:=jM (Kd.R_lower ho0 (below_size (tE HB.out)));replace BK214:=jM (jW (g:=gb214) (o:=.cells #[.slice A0_0 l0_0.length c0_0,.slice A0_1 l0_1.length c0_1,.slice A0_2 l0_2.length c0_2,.slice A0_3 l0_3.length c0_3,.int .i64 a0_4] 27 (0,0)) (tK BK214.out) hb);replace BK222:=jM (jW (g:=gb222) (o:=.cells #[.slice Ao9 t215.length co9,.slice Ao12 t218.length co12] 44 (0,0)) (tK BK222.out) hb);replace HB:=jM (jT (tE HB.out) hb);(try clear hb);(try clear hb2);(try clear hk);(try clear hi);(try clear ho0);obtain ⟨Ao28,co28,eo28⟩:=Kd.R_slice HO228.out;subst eo28) | ((with_reducible refine gate_builtin (b:=.append) (xs:=#[.tmp 35,.tmp 42]) rfl ?_);at_builtin;refine Kd.S_append (Kd.slice 53 k53) (w0:=w) w.heap.size rfl (.tmp 35) (.tmp 42) 30 49 (.slice none 0 0) 24 rfl Tryz.underlying30 info49 rfl (by decide) (by omega) u9 x9_2 t226 [.slice Ao28 t226.length co28] (fun _=>True) (fun k_=>some k_=(.slice Ao28 t226.length co28:Value).ownBlock) rfl rfl ?aP (fun k_ hk_=>((Kd.R_mono (ok':=fun k_=>((fun _=>True)) k_∧some k_≠(u9:Value).ownBlock) (Kd.R_apart' (HO228.out) (Kd.S_typed HO_9.out) (by decide)) (fun k_ hk=>⟨trivial,hk.2⟩))).1 k_ hk_.symm) ?aF ?aO ?aB ?aS ?aL ?_;(case aP=>exact Kd.M_row (Kd.R_mono (Kd.R_tight rfl (Kd.R_mono (ok':=fun k_=>((fun _=>True)) k_∧some k_≠(u9:Value).ownBlock) (Kd.R_apart' (HO228.out) (Kd.S_typed HO_9.out) (by decide)) (fun k_ hk=>⟨trivial,hk.2⟩))) (fun _ h_=>h_)));(case aB=>exact (tE HB.out));(case aF=>exact (fun _ _=>trivial));(case aO=>exact (by (with_reducible repeat (first | apply Kd.S_alloc | apply Kd.S_drewN | apply Kd.S_drew));exact Kd.S_mono HO_9.out (fun k_ hk=>⟨trivial,fun e_=>hk.2 e_⟩)));(case aS=>exact (below_size (tE HB.out)));(case aL=>have:=LMc21.out;omega);intro v230 w27 ho hb hg hat;rw [← Ny229.out] at ho;replace HO_6:=jM (Kd.S_over' (by (with_reducible repeat (first | apply Kd.S_alloc | apply Kd.S_drewN | apply Kd.S_drew));exact HO_6.out) (Kd.S_typed (by (with_reducible repeat (first | apply Kd.S_alloc | apply Kd.S_drewN | apply Kd.S_drew));exact HO_9.out)) (by decide) hg);replace HO_7:=jM (Kd.R_after (ok:=(fun k_=>some k_≠(.slice Ao28 t226.length co28:Value).ownBlock)) (by (with_reducible repeat (first | apply Kd.R_alloc | apply Kd.R_drewN | apply Kd.R_drew));exact Kd.R_mono HO_7.out (fun _ hk=>⟨hk.2,hk.1⟩)) hg hat);replace HO_223000:=jM (Kd.S_over' (by (with_reducible repeat (first | apply Kd.S_alloc | apply Kd.S_drewN | apply Kd.S_drew));exact HO_223000.out) (Kd.S_typed (by (with_reducible repeat (first | apply Kd.S_alloc | apply Kd.S_drewN | apply Kd.S_drew));exact HO_9.out)) (by decide) hg);replace HO_223001:=jM (Kd.S_over' (by (with_reducible repeat (first | apply Kd.S_alloc | apply Kd.S_drewN | apply Kd.S_drew));exact HO_223001.out) (Kd.S_typed (by (with_reducible repeat (first | apply Kd.S_alloc | apply Kd.S_drewN | apply Kd.S_drew));exact HO_9.out)) (by decide) hg);replace BK214:=jM (blk_grown (g:=gb214) (o:=.cells #[.slice A0_0 l0_0.length c0_0,.slice A0_1 l0_1.length c0_1,.slice A0_2 l0_2.length c0_2,.slice A0_3 l0_3.length c0_3,.int .i64 a0_4] 27 (0,0)) (tK BK214.out) hg (Kd.S_ne HO_9.out BK214.out (by decide)));replace BK222:=jM (blk_grown (g:=gb222) (o:=.cells #[.slice Ao9 t215.length co9,.slice Ao12 t218.length co12] 44 (0,0)) (tK BK222.out) hg (Kd.S_ne HO_9.out BK222.out (by decide)));replace HB:=jM (hb);have HO231:=jM (ho);clear HO_9 HO228;clear ho hb hg hat))
         go_roundg k2
         case measure=>have:=HK1.out;have:=HK2.out;omega
         case rel=>exact ⟨(y229),(wrap64 (x32_2+1)),tZ,H',⟨by have:=HK1.out;have:=HK2.out;omega⟩,⟨by (with_reducible repeat (first | apply Kd.S_alloc | apply Kd.S_drewN | apply Kd.S_drew));exact HO_6.out⟩,⟨by (with_reducible repeat (first | apply Kd.R_alloc | apply Kd.R_drewN | apply Kd.R_drew));exact Kd.R_mono HO_7.out (fun _ hk=>hk.2)⟩,⟨by (with_reducible repeat (first | apply Kd.S_alloc | apply Kd.S_drewN | apply Kd.S_drew));exact HO231.out⟩,⟨by (with_reducible repeat (first | apply Kd.S_alloc | apply Kd.S_drewN | apply Kd.S_drew));exact HO_223000.out⟩,⟨by (with_reducible repeat (first | apply Kd.S_alloc | apply Kd.S_drewN | apply Kd.S_drew));exact HO_223001.out⟩,⟨tK BK214.out⟩,⟨tK BK222.out⟩,⟨tE HB.out⟩⟩
        ·rw [if_neg c21] at H
         exact absurd H (by simp)
       ·rw [if_neg c19] at H
        have c19b0:decide (x32_2 < (wrap64 ((l0_0.length:Int)+1)))=false:=decide_eq_false c19
        clear c19
        by_cases c29:x7_1.length < 5864062014805
        ·rw [if_pos c29] at H
         have LMc29:=jM c29
         clear c29
         obtain ⟨y232,hy232⟩:∃ y_:List (List (List (S53))),y_=(x7_1 ++ [x9_2]):=⟨_,rfl⟩
         replace H:(table_All.l0 k2 t223 y232 (t215.length:Int) (wrap64 (x25_1+1)) l0_0 l0_1 l0_2 l0_3 a0_4 t215 t218)=some (r1,r2):=by first | (rw [hy232];with_reducible exact H) | (have H2_:=(Option.bind_some _ _).symm.trans H;rw [hy232];with_reducible exact H2_) | (have H2_:=(Option.bind_some _ _).symm.trans H;with_reducible exact H2_) | with_reducible exact H | (rw [hy232];exact H) | exact H
         have Ny232:=jM hy232
         clear hy232
         have H':=jM H
         clear H
         obtain ⟨Ao31,co31,eo31⟩:=Kd.S_slice HO_9.out
         subst eo31
         go_wp2_with (first | ((with_reducible refine gate_builtin (b:=.append) (xs:=#[.tmp 45,.tmp 47]) rfl ?_);at_builtin;refine Kd.R_append (Kd.slice 49 (Kd.slice 53 k53)) (w0:=w) w.heap.size rfl (.tmp 45) (.tmp 47) 38 30 (.slice none 0 0) 24 rfl Tryz.underlying38 info30 rfl (by decide) (by omega) u7 x7_1 x9_2 [.slice Ao31 x9_2.length co31] (fun _=>True) (fun k_=>((fun _=>True)) k_∧some k_≠(u7:Value).ownBlock) rfl rfl ?aP (fun _ hk=>hk) ?aF ?aO ?aB ?aS ?aL ?_;(case aP=>exact Kd.M_row (Kd.R_mono (Kd.R_apart' ((Kd.S_R HO_9.out)) (Kd.R_typed HO_7.out) (by decide)) (fun k_ hk=>⟨trivial,hk.2⟩)));(case aB=>exact (tE HB.out));(case aF=>exact (fun _ _=>trivial));(case aO=>exact (by (with_reducible repeat (first | apply Kd.R_alloc | apply Kd.R_drewN | apply Kd.R_drew));exact Kd.R_mono HO_7.out (fun _ hk=>trivial)));(case aS=>exact (below_size (tE HB.out)));(case aL=>have:=LMc29.out;omega);intro v233 w30 ho hb hg hat;rw [← Ny232.out] at ho;replace HO_6:=jM (Kd.S_over' (by (with_reducible repeat (first | apply Kd.S_alloc | apply Kd.S_drewN | apply Kd.S_drew));exact HO_6.out) (Kd.R_typed (tR HO_7.out)) (by decide) hg);replace HO_223000:=jM (Kd.S_over' (by (with_reducible repeat (first | apply Kd.S_alloc | apply Kd.S_drewN | apply Kd.S_drew));exact HO_223000.out) (Kd.R_typed (tR HO_7.out)) (by decide) hg);replace HO_223001:=jM (Kd.S_over' (by (with_reducible repeat (first | apply Kd.S_alloc | apply Kd.S_drewN | apply Kd.S_drew));exact HO_223001.out) (Kd.R_typed (tR HO_7.out)) (by decide) hg);replace BK214:=jM (blk_grown (g:=gb214) (o:=.cells #[.slice A0_0 l0_0.length c0_0,.slice A0_1 l0_1.length c0_1,.slice A0_2 l0_2.length c0_2,.slice A0_3 l0_3.length c0_3,.int .i64 a0_4] 27 (0,0)) (tK BK214.out) hg (Kd.R_ne HO_7.out BK214.out (by decide)));replace BK222:=jM (blk_grown (g:=gb222) (o:=.cells #[.slice Ao9 t215.length co9,.slice Ao12 t218.length co12] 44 (0,0)) (tK BK222.out) hg (Kd.R_ne HO_7.out BK222.out (by decide)));replace HB:=jM (hb);have HO234:=jM (ho);clear HO_7 HO_9;clear ho hb hg hat))
         go_roundg k2
         case measure=>have:=HK1.out;have:=HK2.out;omega
         case rel=>exact ⟨(y232),(wrap64 (x25_1+1)),tZ,H',⟨by have:=HK1.out;have:=HK2.out;omega⟩,⟨by (with_reducible repeat (first | apply Kd.S_alloc | apply Kd.S_drewN | apply Kd.S_drew));exact HO_6.out⟩,⟨tR HO234.out⟩,⟨by (with_reducible repeat (first | apply Kd.S_alloc | apply Kd.S_drewN | apply Kd.S_drew));exact HO_223000.out⟩,⟨by (with_reducible repeat (first | apply Kd.S_alloc | apply Kd.S_drewN | apply Kd.S_drew));exact HO_223001.out⟩,⟨tK BK214.out⟩,⟨tK BK222.out⟩,⟨tE HB.out⟩⟩
        ·rw [if_neg c29] at H
         exact absurd H (by simp)
    ·rw [if_neg c16] at H
     have c16b0:decide (x25_1 < (t215.length:Int))=false:=decide_eq_false c16
     clear c16
     simp only [Option.some.injEq,Prod.mk.injEq] at H
     obtain ⟨rfl,rfl⟩:=H
     go_wp2
     go_ret2
     exact ⟨_,by first | rfl | (simp [errW_none,errW_some] <;> rfl) | (simp [*,errW_none,errW_some] <;> rfl),tR HO_7.out,tE HB.out⟩
 ·rw [if_neg c3] at H
  have c3b0:(t221 == 0)=false:=beq_eq_false_iff_ne.mpr c3
  have c3b1:(t221 != 0)=true:=bne_iff_ne.mpr c3
  simp only [Option.some.injEq,Prod.mk.injEq] at H
  obtain ⟨rfl,rfl⟩:=H
  go_enter Tryz.func12,Tryz.ntmps12
  go_wp2_with (first | ((with_reducible refine gate_dst (N:=1) rfl ?_);refine box_event ?hg (N:=1) ?hd (cs:=#[.slice A0_0 l0_0.length c0_0,.slice A0_1 l0_1.length c0_1,.slice A0_2 l0_2.length c0_2,.slice A0_3 l0_3.length c0_3,.int .i64 a0_4]) (t:=27) ?hr ?_;(case hd=>rfl);(case hg=>rfl);(case hr=>first | (go_simp;done) | (go_simp;rfl));intro gb214 hg w32 hbox hb;have n0_:=jM (jT (tB HB.out) hb);have n1_:=jM (hbox);have n2_:=jM ((by rw [hg];exact (below_size (tB HB.out)):w.heap.size≤gb214));have n3_:=jM ((by rw [hg];exact (below_size (tB HB.out)):w.heap.size≤gb214));clear HB;have HB:=n0_;have BK214:=n1_;have GW214:=n2_;have GE214:=n3_;clear n0_ n1_ n2_ n3_;clear hb hbox hg;obtain ⟨hcz33_0,hcz33_1,hcz33_2,hcz33_3,hcz33_4⟩:=jC5 BK214.out;have hfz33_0:=jF BK214.out 0;have hfz33_1:=jF BK214.out 1;have hfz33_2:=jF BK214.out 2;have hfz33_3:=jF BK214.out 3;have hfz33_4:=jF BK214.out 4) | ((with_reducible refine gate_callee (f:=14) rfl ?_);refine goesL_ (some 13) rfl rfl Tryz.func14 (by kernel_rfl) rfl #[.agg #[.slice A0_0 l0_0.length c0_0,.slice A0_1 l0_1.length c0_1,.slice A0_2 l0_2.length c0_2,.slice A0_3 l0_3.length c0_3,.int .i64 a0_4]] rfl tM ?_;(with_reducible refine (states_Build.calls _ _ l0_0 _ _ l0_1 _ _ l0_2 _ _ l0_3 a0_4 t215 t218 t221 _ ?side1 ?side2 ?side3 ?side4 ?side5 ?side6 ?side7 ?side8 ?side9 A2.out).mono ?_);(case side1=>exact GTab.below HG.out (tE HB.out));(case side2=>exact tC (jB HR0_0.out HB.out));(case side3=>exact HC0_0.out);(case side4=>exact tC (jB HR0_1.out HB.out));(case side5=>exact HC0_1.out);(case side6=>exact tC (jB HR0_2.out HB.out));(case side7=>exact HC0_2.out);(case side8=>exact tC (jB HR0_3.out HB.out));(case side9=>exact HC0_3.out);rintro e w34 ⟨v216,v219,rfl,ho0,ho1,hb⟩;refine ⟨_,rfl, ?_⟩;have HO217:=jM (Kd.S_lower ho0 (below_size (tE HB.out)));have HO220:=jM (Kd.S_lower ho1 (below_size (tE HB.out)));replace BK214:=jM (jW (g:=gb214) (o:=.cells #[.slice A0_0 l0_0.length c0_0,.slice A0_1 l0_1.length c0_1,.slice A0_2 l0_2.length c0_2,.slice A0_3 l0_3.length c0_3,.int .i64 a0_4] 27 (0,0)) (tK BK214.out) hb);replace HB:=jM (jT (tE HB.out) hb);(try clear hb);(try clear hb2);(try clear hk);(try clear hi);(try clear ho0);(try clear ho1)) | ((with_reducible refine gate_dst (N:=4) rfl ?_);refine box_event ?hg (N:=4) ?hd (cs:=#[.slice none 0 0,.slice none 0 0]) (t:=44) ?hr ?_;(case hd=>rfl);(case hg=>rfl);(case hr=>first | (go_simp;done) | (go_simp;rfl));intro gb222 hg w35 hbox hb;have n0_:=jM (Kd.S_below (by (with_reducible repeat (first | apply Kd.S_alloc | apply Kd.S_drewN | apply Kd.S_drew));exact HO217.out) hb);have n1_:=jM (Kd.S_below (by (with_reducible repeat (first | apply Kd.S_alloc | apply Kd.S_drewN | apply Kd.S_drew));exact HO220.out) hb);have n2_:=jM (jW (g:=gb214) (o:=.cells #[.slice A0_0 l0_0.length c0_0,.slice A0_1 l0_1.length c0_1,.slice A0_2 l0_2.length c0_2,.slice A0_3 l0_3.length c0_3,.int .i64 a0_4] 27 (0,0)) (tK BK214.out) hb);have n3_:=jM (jT (tE HB.out) hb);have n4_:=jM (hbox);have n5_:=jM ((by rw [hg];exact (below_size (tE HB.out)):w.heap.size≤gb222));have n6_:=jM ((by rw [hg];exact (below_size (tE HB.out)):w.heap.size≤gb222));have n7_:=jM ((by rw [hg];exact Nat.ne_of_lt (blk_lt (g:=gb214) (o:=.cells #[.slice A0_0 l0_0.length c0_0,.slice A0_1 l0_1.length c0_1,.slice A0_2 l0_2.length c0_2,.slice A0_3 l0_3.length c0_3,.int .i64 a0_4] 27 (0,0)) (tK BK214.out)):gb214≠gb222));have n8_:=jM ((by rw [hg];exact Nat.ne_of_gt (blk_lt (g:=gb214) (o:=.cells #[.slice A0_0 l0_0.length c0_0,.slice A0_1 l0_1.length c0_1,.slice A0_2 l0_2.length c0_2,.slice A0_3 l0_3.length c0_3,.int .i64 a0_4] 27 (0,0)) (tK BK214.out)):gb222≠gb214));clear HO217 HO220 BK214 HB;have HO217:=n0_;have HO220:=n1_;have BK214:=n2_;have HB:=n3_;have BK222:=n4_;have GW222:=n5_;have GE222:=n6_;have NB214_222:=n7_;have NB222_214:=n8_;clear n0_ n1_ n2_ n3_ n4_ n5_ n6_ n7_ n8_;clear hb hbox hg;obtain ⟨Ao36,co36,eo36⟩:=Kd.S_slice HO217.out;subst eo36;have hnb37:=NB222_214.out;have hnc37:=NB214_222.out;obtain ⟨hcz38_0,hcz38_1⟩:=jC2 BK222.out;have hfz38_0:=jF BK222.out 0;have hfz38_1:=jF BK222.out 1;obtain ⟨Ao39,co39,eo39⟩:=Kd.S_slice HO220.out;subst eo39))
  go_ret2
  exact ⟨_,by first | rfl | (simp [errW_none,errW_some] <;> rfl) | (simp [*,errW_none,errW_some] <;> rfl),by first | exact Kd.R_nil _ _ _ _ _ | exact Kd.N_nil _ _ _ _ _ | exact Kd.V_nil _ _ _ _ _ | exact Kd.Q_nil _ _ _ _ _ | exact Kd.S_nil _ _ _ _ _,tE HB.out⟩
end
section
attribute [local go_sem] max2_int min2_int max_two min_two max_three min_three max_four min_four

/-! ### table_Build: function 11 -/
mutual
def table_Build.l0:Nat→List (List (List (S53)))→Int→Int→List (S65)→List (S73)→List ByteArray→List (S68)→Int→List (List (S53))→List (List Int)→List Int→List (List (S77))→List (List Int)→Option ((List (List (S53))) × (List (List Int)) × List Int × Int)
 | 0,_,_,_,_,_,_,_,_,_,_,_,_,_=>none
 | k+1,x29,x30,x31,xA,xB,xC,xD,xE,xF,xG,xH,xI,xJ=>if x31 < x30 then (if 0≤x31 then (if x31 < (x29.length:Int) then (if 0≤((rd_L26 x29 x31).length:Int) then (if (((rd_L26 x29 x31).length:Int):Int).toNat≤17592186044416 then (table_Build.l1 k x31 (List.replicate (((rd_L26 x29 x31).length:Int):Int).toNat z53) 0 x29 x30 x31 (rd_L26 x29 x31) ((rd_L26 x29 x31).length:Int) 0 xA xB xC xD xE xF xG xH xI xJ) else (none)) else (none)) else (none)) else (none)) else (some (xF,xG,xH,0))
def table_Build.l1:Nat→Int→List (S53)→Int→List (List (List (S53)))→Int→Int→List (List (S53))→Int→Int→List (S65)→List (S73)→List ByteArray→List (S68)→Int→List (List (S53))→List (List Int)→List Int→List (List (S77))→List (List Int)→Option ((List (List (S53))) × (List (List Int)) × List Int × Int)
 | 0,_,_,_,_,_,_,_,_,_,_,_,_,_,_,_,_,_,_,_=>none
 | k+1,x9,x11,x12,x29,x30,x31,x39,x40,x41,xA,xB,xC,xD,xE,xF,xG,xH,xI,xJ=>if x41 < x40 then (if 0≤x41 then (if x41 < (x39.length:Int) then (if ((rd_L25 x39 x41).length:Int)=0 then (table_Build.l1 k x9 x11 x12 x29 x30 x31 x39 x40 (wrap64 (x41+1)) xA xB xC xD xE xF xG xH xI xJ) else (if ((rd_L25 x39 x41).length:Int)=1 then (if 0 < ((rd_L25 x39 x41).length:Int) then (if x41 < (x11.length:Int) then ((table_bit.f xA xB xC xD xE x41).bind fun t272=>((bits_With.f x12 t272).bind fun t273=>(table_Build.l1 k x9 (x11.set (x41:Int).toNat (⟨(rd_T53 (rd_L25 x39 x41) 0).f0,(rd_T53 (rd_L25 x39 x41) 0).f1⟩:S53)) t273 x29 x30 x31 x39 x40 (wrap64 (x41+1)) xA xB xC xD xE xF xG xH xI xJ))) else (none)) else (none)) else (some (([]:List (List (S53))),([]:List (List Int)),([]:List Int),16)))) else (none)) else (none)) else (if xF.length < 5864062014805 then (if 0≤x9 then (if x9 < (xJ.length:Int) then (if 0≤(xA.length:Int) then (if (xA.length:Int)≤((rd_L17 xJ x9).length:Int) then (if xG.length < 5864062014805 then (if xH.length < 17592186044416 then (table_Build.l0 k x29 x30 (wrap64 (x31+1)) xA xB xC xD xE (xF ++ [x11]) (xG ++ [((rd_L17 xJ x9).drop ((xA.length:Int):Int).toNat)]) (xH ++ [x12]) xI xJ) else (none)) else (none)) else (none)) else (none)) else (none)) else (none)) else (none))
end
def table_Build.f (k:Nat) (l0_0:List (S65)) (l0_1:List (S73)) (l0_2:List ByteArray) (l0_3:List (S68)) (a0_4:Int):Option ((List (List (S53))) × (List (List Int)) × List Int × Int):=(table_All.f k l0_0 l0_1 l0_2 l0_3 a0_4).bind fun bt237=>(if bt237.2=0 then ((states_Build.f l0_0 l0_1 l0_2 l0_3 a0_4).bind fun bt242=>(table_Build.l0 k bt237.1 (bt237.1.length:Int) 0 l0_0 l0_1 l0_2 l0_3 a0_4 ([]:List (List (S53))) ([]:List (List Int)) ([]:List Int) bt242.1 bt242.2.1)) else (some (([]:List (List (S53))),([]:List (List Int)),([]:List Int),bt237.2)))
def table_Build.T22:Bool × List (List Nat × List Nat):=(true,[([],[]),([0],[0]),([],[]),([2],[2]),([],[]),([3,4],[3,4]),([5],[5]),([],[]),([7],[7]),([8],[8]),([6,9],[6,9]),([10],[10]),([1,11],[1,11]),([0,1,2,3,4,5,6,7,8,9,10,11,12],[]),([13,12,12,0,1,2,3,4,5,6,7,8,9,10,11,12],[12,13])])
def table_Build.B22:List Nat:=[0,1,0,4,0,28,60,0,128,384,1020,2044,4095,8191,16383]
theorem table_Build.tab22:rtab .any (opsOf Tryz.f11 22)=table_Build.T22:=by kernel_rfl
theorem table_Build.bits22:waitsOk table_Build.T22.2 table_Build.B22=true:=by kernel_rfl
set_option maxHeartbeats 8000000 in
set_option maxRecDepth 100000 in
theorem table_Build.calls (k:Nat) (A0_0:Option Addr) (c0_0:Nat) (l0_0:List (S65)) (A0_1:Option Addr) (c0_1:Nat) (l0_1:List (S73)) (A0_2:Option Addr) (c0_2:Nat) (l0_2:List ByteArray) (A0_3:Option Addr) (c0_3:Nat) (l0_3:List (S68)) (a0_4:Int) (r1:List (List (S53))) (r2:List (List Int)) (r3:List Int) (r4:Int) (w:World) (hG:GTab w) (hr0_0:Kd.C k65 w A0_0 l0_0.length l0_0) (hc0_0:l0_0.length≤c0_0) (hr0_1:Kd.C k73 w A0_1 l0_1.length l0_1) (hc0_1:l0_1.length≤c0_1) (hr0_2:Kd.C Kd.string w A0_2 l0_2.length l0_2) (hc0_2:l0_2.length≤c0_2) (hr0_3:Kd.C k68 w A0_3 l0_3.length l0_3) (hc0_3:l0_3.length≤c0_3) (h:table_Build.f k l0_0 l0_1 l0_2 l0_3 a0_4=some (r1,r2,r3,r4)) :
  Calls Tryz.prog 11 #[.agg #[.slice A0_0 l0_0.length c0_0,.slice A0_1 l0_1.length c0_1,.slice A0_2 l0_2.length c0_2,.slice A0_3 l0_3.length c0_3,.int .i64 a0_4]] w fun e w'=>∃ v0_ v1_ v2_:Value,e=.returned (.tuple #[.agg #[v0_,v1_,v2_],.int .i64 r4])∧Kd.N (Kd.slice 53 k53) 49 w' w.heap.size (fun k_=>(w.heap.size≤k_)∧some k_≠(v1_:Value).ownBlock∧some k_≠(v2_:Value).ownBlock) v0_ r1∧Kd.N (Kd.slice 3 (Kd.int .i64)) 50 w' w.heap.size (fun k_=>(w.heap.size≤k_)∧some k_≠(v0_:Value).ownBlock∧some k_≠(v2_:Value).ownBlock) v1_ r2∧Kd.R (Kd.int .u64) 48 w' w.heap.size (fun k_=>(w.heap.size≤k_)) v2_ r3∧Below w.heap.size w w':=by
 have hu27:=Tryz.underlying27
 have hu34:=Tryz.underlying34
 have hu44:=Tryz.underlying44
 have hu53:=Tryz.underlying53
 have HG:=jM hG
 clear hG
 have HR0_0:=jM hr0_0
 have HC0_0:=jM hc0_0
 clear hr0_0 hc0_0
 have HR0_1:=jM hr0_1
 have HC0_1:=jM hc0_1
 clear hr0_1 hc0_1
 have HR0_2:=jM hr0_2
 have HC0_2:=jM hc0_2
 clear hr0_2 hc0_2
 have HR0_3:=jM hr0_3
 have HC0_3:=jM hc0_3
 clear hr0_3 hc0_3
 have HB:=jM (Below.refl w.heap.size w)
 have H:((table_All.f k l0_0 l0_1 l0_2 l0_3 a0_4).bind fun bt237=>(if bt237.2=0 then ((states_Build.f l0_0 l0_1 l0_2 l0_3 a0_4).bind fun bt242=>(table_Build.l0 k bt237.1 (bt237.1.length:Int) 0 l0_0 l0_1 l0_2 l0_3 a0_4 ([]:List (List (S53))) ([]:List (List Int)) ([]:List Int) bt242.1 bt242.2.1)) else (some (([]:List (List (S53))),([]:List (List Int)),([]:List Int),bt237.2))))=some (r1,r2,r3,r4):=h
 clear h
 replace H:=Option.bind_eq_some_iff.mp H
 obtain ⟨⟨t237,t240⟩,A20,H⟩:=H
 replace H:(if t240=0 then ((states_Build.f l0_0 l0_1 l0_2 l0_3 a0_4).bind fun bt242=>(table_Build.l0 k t237 (t237.length:Int) 0 l0_0 l0_1 l0_2 l0_3 a0_4 ([]:List (List (S53))) ([]:List (List Int)) ([]:List Int) bt242.1 bt242.2.1)) else (some (([]:List (List (S53))),([]:List (List Int)),([]:List Int),t240)))=some (r1,r2,r3,r4):=H
 have A2:=jM A20
 clear A20
 by_cases c3:t240=0
 ·rw [if_pos c3] at H
  have c3b0:(t240 == 0)=true:=beq_iff_eq.mpr c3
  have c3b1:(t240 != 0)=false:=bne_eq_false_iff_eq.mpr c3
  clear c3
  replace H:=Option.bind_eq_some_iff.mp H
  obtain ⟨⟨t242,t245,t248⟩,A40,H⟩:=H
  replace H:(table_Build.l0 k t237 (t237.length:Int) 0 l0_0 l0_1 l0_2 l0_3 a0_4 ([]:List (List (S53))) ([]:List (List Int)) ([]:List Int) t242 t245)=some (r1,r2,r3,r4):=H
  have A4:=jM A40
  clear A40
  have H':=jM H
  clear H
  go_enter Tryz.func11,Tryz.ntmps11
  go_wp2_with (first | ((with_reducible refine gate_dst (N:=1) rfl ?_);refine box_event ?hg (N:=1) ?hd (cs:=#[.slice A0_0 l0_0.length c0_0,.slice A0_1 l0_1.length c0_1,.slice A0_2 l0_2.length c0_2,.slice A0_3 l0_3.length c0_3,.int .i64 a0_4]) (t:=27) ?hr ?_;(case hd=>rfl);(case hg=>rfl);(case hr=>first | (go_simp;done) | (go_simp;rfl));intro gb235 hg w5 hbox hb;have n0_:=jM (jT (tB HB.out) hb);have n1_:=jM (hbox);have n2_:=jM ((by rw [hg];exact (below_size (tB HB.out)):w.heap.size≤gb235));have n3_:=jM ((by rw [hg];exact (below_size (tB HB.out)):w.heap.size≤gb235));clear HB;have HB:=n0_;have BK235:=n1_;have GW235:=n2_;have GE235:=n3_;clear n0_ n1_ n2_ n3_;clear hb hbox hg) | ((with_reducible refine gate_dst (N:=2) rfl ?_);refine box_event ?hg (N:=2) ?hd (cs:=#[.slice none 0 0,.slice none 0 0,.slice none 0 0]) (t:=34) ?hr ?_;(case hd=>rfl);(case hg=>rfl);(case hr=>first | (go_simp;done) | (go_simp;rfl));intro gb236 hg w6 hbox hb;have n0_:=jM (jW (g:=gb235) (o:=.cells #[.slice A0_0 l0_0.length c0_0,.slice A0_1 l0_1.length c0_1,.slice A0_2 l0_2.length c0_2,.slice A0_3 l0_3.length c0_3,.int .i64 a0_4] 27 (0,0)) (tK BK235.out) hb);have n1_:=jM (jT (tE HB.out) hb);have n2_:=jM (hbox);have n3_:=jM ((by rw [hg];exact (below_size (tE HB.out)):w.heap.size≤gb236));have n4_:=jM ((by rw [hg];exact (below_size (tE HB.out)):w.heap.size≤gb236));have n5_:=jM ((by rw [hg];exact Nat.ne_of_lt (blk_lt (g:=gb235) (o:=.cells #[.slice A0_0 l0_0.length c0_0,.slice A0_1 l0_1.length c0_1,.slice A0_2 l0_2.length c0_2,.slice A0_3 l0_3.length c0_3,.int .i64 a0_4] 27 (0,0)) (tK BK235.out)):gb235≠gb236));have n6_:=jM ((by rw [hg];exact Nat.ne_of_gt (blk_lt (g:=gb235) (o:=.cells #[.slice A0_0 l0_0.length c0_0,.slice A0_1 l0_1.length c0_1,.slice A0_2 l0_2.length c0_2,.slice A0_3 l0_3.length c0_3,.int .i64 a0_4] 27 (0,0)) (tK BK235.out)):gb236≠gb235));clear BK235 HB;have BK235:=n0_;have HB:=n1_;have BK236:=n2_;have GW236:=n3_;have GE236:=n4_;have NB235_236:=n5_;have NB236_235:=n6_;clear n0_ n1_ n2_ n3_ n4_ n5_ n6_;clear hb hbox hg;have hnb7:=NB235_236.out;have hnc7:=NB236_235.out;obtain ⟨hcz8_0,hcz8_1,hcz8_2,hcz8_3,hcz8_4⟩:=jC5 BK235.out;have hfz8_0:=jF BK235.out 0;have hfz8_1:=jF BK235.out 1;have hfz8_2:=jF BK235.out 2;have hfz8_3:=jF BK235.out 3;have hfz8_4:=jF BK235.out 4) | ((with_reducible refine gate_callee (f:=12) rfl ?_);refine goesL_ (some 17) rfl rfl Tryz.func12 (by kernel_rfl) rfl #[.agg #[.slice A0_0 l0_0.length c0_0,.slice A0_1 l0_1.length c0_1,.slice A0_2 l0_2.length c0_2,.slice A0_3 l0_3.length c0_3,.int .i64 a0_4]] rfl tM ?_;(with_reducible refine (table_All.calls k _ _ l0_0 _ _ l0_1 _ _ l0_2 _ _ l0_3 a0_4 t237 t240 _ ?side1 ?side2 ?side3 ?side4 ?side5 ?side6 ?side7 ?side8 ?side9 A2.out).mono ?_);(case side1=>exact GTab.below HG.out (tE HB.out));(case side2=>exact tC (jB HR0_0.out HB.out));(case side3=>exact HC0_0.out);(case side4=>exact tC (jB HR0_1.out HB.out));(case side5=>exact HC0_1.out);(case side6=>exact tC (jB HR0_2.out HB.out));(case side7=>exact HC0_2.out);(case side8=>exact tC (jB HR0_3.out HB.out));(case side9=>exact HC0_3.out);rintro e w9 ⟨v238,rfl,ho0,hb⟩;refine ⟨_,rfl, ?_⟩;have HO239:=jM (Kd.N_lower (Kd.N_mono (ok':=fun k_=>(w.heap.size≤k_)∧k_≠gb235∧k_≠gb236) (Kd.R_N (Kd.R_bound ho0)) (fun k_ hk_=>⟨(Nat.le_trans (below_size (tE HB.out)) hk_.2.1),(Kd.freshB (g:=gb235) (o:=.cells #[.slice A0_0 l0_0.length c0_0,.slice A0_1 l0_1.length c0_1,.slice A0_2 l0_2.length c0_2,.slice A0_3 l0_3.length c0_3,.int .i64 a0_4] 27 (0,0)) (tK BK235.out) k_ hk_.2.1),(Kd.freshB (g:=gb236) (o:=.cells #[.slice none 0 0,.slice none 0 0,.slice none 0 0] 34 (0,0)) (tK BK236.out) k_ hk_.2.1)⟩)) (below_size (tE HB.out)));replace BK235:=jM (jW (g:=gb235) (o:=.cells #[.slice A0_0 l0_0.length c0_0,.slice A0_1 l0_1.length c0_1,.slice A0_2 l0_2.length c0_2,.slice A0_3 l0_3.length c0_3,.int .i64 a0_4] 27 (0,0)) (tK BK235.out) hb);replace BK236:=jM (jW (g:=gb236) (o:=.cells #[.slice none 0 0,.slice none 0 0,.slice none 0 0] 34 (0,0)) (tK BK236.out) hb);replace HB:=jM (jT (tE HB.out) hb);(try clear hb);(try clear hb2);(try clear hk);(try clear hi);(try clear ho0)) | ((with_reducible refine gate_dst (N:=6) rfl ?_);refine box_event ?hg (N:=6) ?hd (cs:=#[.slice none 0 0,.slice none 0 0,.slice none 0 0]) (t:=34) ?hr ?_;(case hd=>rfl);(case hg=>rfl);(case hr=>first | (go_simp;done) | (go_simp;rfl));intro gb241 hg w10 hbox hb;have n0_:=jM (Kd.N_below (Kd.N_elderB (tN HO239.out) gb241 (Nat.le_of_eq hg.symm)) hb);have n1_:=jM (jW (g:=gb235) (o:=.cells #[.slice A0_0 l0_0.length c0_0,.slice A0_1 l0_1.length c0_1,.slice A0_2 l0_2.length c0_2,.slice A0_3 l0_3.length c0_3,.int .i64 a0_4] 27 (0,0)) (tK BK235.out) hb);have n2_:=jM (jW (g:=gb236) (o:=.cells #[.slice none 0 0,.slice none 0 0,.slice none 0 0] 34 (0,0)) (tK BK236.out) hb);have n3_:=jM (jT (tE HB.out) hb);have n4_:=jM (hbox);have n5_:=jM ((by rw [hg];exact (below_size (tE HB.out)):w.heap.size≤gb241));have n6_:=jM ((by rw [hg];exact (below_size (tE HB.out)):w.heap.size≤gb241));have n7_:=jM ((by rw [hg];exact Nat.ne_of_lt (blk_lt (g:=gb235) (o:=.cells #[.slice A0_0 l0_0.length c0_0,.slice A0_1 l0_1.length c0_1,.slice A0_2 l0_2.length c0_2,.slice A0_3 l0_3.length c0_3,.int .i64 a0_4] 27 (0,0)) (tK BK235.out)):gb235≠gb241));have n8_:=jM ((by rw [hg];exact Nat.ne_of_gt (blk_lt (g:=gb235) (o:=.cells #[.slice A0_0 l0_0.length c0_0,.slice A0_1 l0_1.length c0_1,.slice A0_2 l0_2.length c0_2,.slice A0_3 l0_3.length c0_3,.int .i64 a0_4] 27 (0,0)) (tK BK235.out)):gb241≠gb235));have n9_:=jM ((by rw [hg];exact Nat.ne_of_lt (blk_lt (g:=gb236) (o:=.cells #[.slice none 0 0,.slice none 0 0,.slice none 0 0] 34 (0,0)) (tK BK236.out)):gb236≠gb241));have n10_:=jM ((by rw [hg];exact Nat.ne_of_gt (blk_lt (g:=gb236) (o:=.cells #[.slice none 0 0,.slice none 0 0,.slice none 0 0] 34 (0,0)) (tK BK236.out)):gb241≠gb236));clear HO239 BK235 BK236 HB;have HO239:=n0_;have BK235:=n1_;have BK236:=n2_;have HB:=n3_;have BK241:=n4_;have GW241:=n5_;have GE241:=n6_;have NB235_241:=n7_;have NB241_235:=n8_;have NB236_241:=n9_;have NB241_236:=n10_;clear n0_ n1_ n2_ n3_ n4_ n5_ n6_ n7_ n8_ n9_ n10_;clear hb hbox hg;have hnb11:=NB235_241.out;have hnc11:=NB241_235.out;obtain ⟨hcz12_0,hcz12_1,hcz12_2,hcz12_3,hcz12_4⟩:=jC5 BK235.out;have hfz12_0:=jF BK235.out 0;have hfz12_1:=jF BK235.out 1;have hfz12_2:=jF BK235.out 2;have hfz12_3:=jF BK235.out 3;have hfz12_4:=jF BK235.out 4) | ((with_reducible refine gate_callee (f:=14) rfl ?_);refine goesL_ (some 26) rfl rfl Tryz.func14 (by kernel_rfl) rfl #[.agg #[.slice A0_0 l0_0.length c0_0,.slice A0_1 l0_1.length c0_1,.slice A0_2 l0_2.length c0_2,.slice A0_3 l0_3.length c0_3,.int .i64 a0_4]] rfl tM ?_;(with_reducible refine (states_Build.calls _ _ l0_0 _ _ l0_1 _ _ l0_2 _ _ l0_3 a0_4 t242 t245 t248 _ ?side1 ?side2 ?side3 ?side4 ?side5 ?side6 ?side7 ?side8 ?side9 A4.out).mono ?_);(case side1=>exact GTab.below HG.out (tE HB.out));(case side2=>exact tC (jB HR0_0.out HB.out));(case side3=>exact HC0_0.out);(case side4=>exact tC (jB HR0_1.out HB.out));(case side5=>exact HC0_1.out);(case side6=>exact tC (jB HR0_2.out HB.out));(case side7=>exact HC0_2.out);(case side8=>exact tC (jB HR0_3.out HB.out));(case side9=>exact HC0_3.out);rintro e w13 ⟨v243,v246,rfl,ho0,ho1,hb⟩;refine ⟨_,rfl, ?_⟩;have n0_:=jM (Kd.N_mono (Kd.N_told (Kd.N_told (Kd.N_old (tN HO239.out) hb) (Kd.S_base ho0)) (Kd.S_base ho1)) (fun _ h_=>h_.1));have n1_:=jM (Kd.N_lower (Kd.N_mono (ok':=fun k_=>(w.heap.size≤k_)∧some k_≠(v246:Value).ownBlock∧some k_≠(v238:Value).ownBlock∧k_≠gb235∧k_≠gb236∧k_≠gb241) (Kd.S_N (Kd.S_bound (Kd.S_apart' ho0 (Kd.S_typed ho1) (by decide)))) (fun k_ hk_=>⟨(Nat.le_trans (below_size (tE HB.out)) hk_.2.1),hk_.1.2,(Kd.fresh' (Kd.N_lt (tN HO239.out)) k_ hk_.2.1),(Kd.freshB (g:=gb235) (o:=.cells #[.slice A0_0 l0_0.length c0_0,.slice A0_1 l0_1.length c0_1,.slice A0_2 l0_2.length c0_2,.slice A0_3 l0_3.length c0_3,.int .i64 a0_4] 27 (0,0)) (tK BK235.out) k_ hk_.2.1),(Kd.freshB (g:=gb236) (o:=.cells #[.slice none 0 0,.slice none 0 0,.slice none 0 0] 34 (0,0)) (tK BK236.out) k_ hk_.2.1),(Kd.freshB (g:=gb241) (o:=.cells #[.slice none 0 0,.slice none 0 0,.slice none 0 0] 34 (0,0)) (tK BK241.out) k_ hk_.2.1)⟩)) (below_size (tE HB.out)));have n2_:=jM (Kd.N_lower (Kd.N_mono (ok':=fun k_=>(w.heap.size≤k_)∧some k_≠(v243:Value).ownBlock∧some k_≠(v238:Value).ownBlock∧k_≠gb235∧k_≠gb236∧k_≠gb241) (Kd.S_N (Kd.S_bound (Kd.S_apart' ho1 (Kd.S_typed ho0) (by decide)))) (fun k_ hk_=>⟨(Nat.le_trans (below_size (tE HB.out)) hk_.2.1),hk_.1.2,(Kd.fresh' (Kd.N_lt (tN HO239.out)) k_ hk_.2.1),(Kd.freshB (g:=gb235) (o:=.cells #[.slice A0_0 l0_0.length c0_0,.slice A0_1 l0_1.length c0_1,.slice A0_2 l0_2.length c0_2,.slice A0_3 l0_3.length c0_3,.int .i64 a0_4] 27 (0,0)) (tK BK235.out) k_ hk_.2.1),(Kd.freshB (g:=gb236) (o:=.cells #[.slice none 0 0,.slice none 0 0,.slice none 0 0] 34 (0,0)) (tK BK236.out) k_ hk_.2.1),(Kd.freshB (g:=gb241) (o:=.cells #[.slice none 0 0,.slice none 0 0,.slice none 0 0] 34 (0,0)) (tK BK241.out) k_ hk_.2.1)⟩)) (below_size (tE HB.out)));have n3_:=jM (jW (g:=gb235) (o:=.cells #[.slice A0_0 l0_0.length c0_0,.slice A0_1 l0_1.length c0_1,.slice A0_2 l0_2.length c0_2,.slice A0_3 l0_3.length c0_3,.int .i64 a0_4] 27 (0,0)) (tK BK235.out) hb);have n4_:=jM (jW (g:=gb236) (o:=.cells #[.slice none 0 0,.slice none 0 0,.slice none 0 0] 34 (0,0)) (tK BK236.out) hb);have n5_:=jM (jW (g:=gb241) (o:=.cells #[.slice none 0 0,.slice none 0 0,.slice none 0 0] 34 (0,0)) (tK BK241.out) hb);have n6_:=jM (jT (tE HB.out) hb);clear HO239 BK235 BK236 BK241 HB;have HO239:=n0_;have HO244:=n1_;have HO247:=n2_;have BK235:=n3_;have BK236:=n4_;have BK241:=n5_;have HB:=n6_;clear n0_ n1_ n2_ n3_ n4_ n5_ n6_;(try clear hb);(try clear hb2);(try clear hk);(try clear hi);(try clear ho0);(try clear ho1)) | ((with_reducible refine gate_dst (N:=7) rfl ?_);refine box_event ?hg (N:=7) ?hd (cs:=#[.slice none 0 0,.slice none 0 0]) (t:=44) ?hr ?_;(case hd=>rfl);(case hg=>rfl);(case hr=>first | (go_simp;done) | (go_simp;rfl));intro gb249 hg w14 hbox hb;have n0_:=jM (Kd.N_below (Kd.N_elderB (tN HO239.out) gb249 (Nat.le_of_eq hg.symm)) hb);have n1_:=jM (Kd.N_below (Kd.N_elderB (tN HO244.out) gb249 (Nat.le_of_eq hg.symm)) hb);have n2_:=jM (Kd.N_below (Kd.N_elderB (tN HO247.out) gb249 (Nat.le_of_eq hg.symm)) hb);have n3_:=jM (jW (g:=gb235) (o:=.cells #[.slice A0_0 l0_0.length c0_0,.slice A0_1 l0_1.length c0_1,.slice A0_2 l0_2.length c0_2,.slice A0_3 l0_3.length c0_3,.int .i64 a0_4] 27 (0,0)) (tK BK235.out) hb);have n4_:=jM (jW (g:=gb236) (o:=.cells #[.slice none 0 0,.slice none 0 0,.slice none 0 0] 34 (0,0)) (tK BK236.out) hb);have n5_:=jM (jW (g:=gb241) (o:=.cells #[.slice none 0 0,.slice none 0 0,.slice none 0 0] 34 (0,0)) (tK BK241.out) hb);have n6_:=jM (jT (tE HB.out) hb);have n7_:=jM (hbox);have n8_:=jM ((by rw [hg];exact (below_size (tE HB.out)):w.heap.size≤gb249));have n9_:=jM ((by rw [hg];exact (below_size (tE HB.out)):w.heap.size≤gb249));have n10_:=jM ((by rw [hg];exact Nat.ne_of_lt (blk_lt (g:=gb235) (o:=.cells #[.slice A0_0 l0_0.length c0_0,.slice A0_1 l0_1.length c0_1,.slice A0_2 l0_2.length c0_2,.slice A0_3 l0_3.length c0_3,.int .i64 a0_4] 27 (0,0)) (tK BK235.out)):gb235≠gb249));have n11_:=jM ((by rw [hg];exact Nat.ne_of_gt (blk_lt (g:=gb235) (o:=.cells #[.slice A0_0 l0_0.length c0_0,.slice A0_1 l0_1.length c0_1,.slice A0_2 l0_2.length c0_2,.slice A0_3 l0_3.length c0_3,.int .i64 a0_4] 27 (0,0)) (tK BK235.out)):gb249≠gb235));have n12_:=jM ((by rw [hg];exact Nat.ne_of_lt (blk_lt (g:=gb236) (o:=.cells #[.slice none 0 0,.slice none 0 0,.slice none 0 0] 34 (0,0)) (tK BK236.out)):gb236≠gb249));have n13_:=jM ((by rw [hg];exact Nat.ne_of_gt (blk_lt (g:=gb236) (o:=.cells #[.slice none 0 0,.slice none 0 0,.slice none 0 0] 34 (0,0)) (tK BK236.out)):gb249≠gb236));have n14_:=jM ((by rw [hg];exact Nat.ne_of_lt (blk_lt (g:=gb241) (o:=.cells #[.slice none 0 0,.slice none 0 0,.slice none 0 0] 34 (0,0)) (tK BK241.out)):gb241≠gb249));have n15_:=jM ((by rw [hg];exact Nat.ne_of_gt (blk_lt (g:=gb241) (o:=.cells #[.slice none 0 0,.slice none 0 0,.slice none 0 0] 34 (0,0)) (tK BK241.out)):gb249≠gb241));clear HO239 HO244 HO247 BK235 BK236 BK241 HB;have HO239:=n0_;have HO244:=n1_;have HO247:=n2_;have BK235:=n3_;have BK236:=n4_;have BK241:=n5_;have HB:=n6_;have BK249:=n7_;have GW249:=n8_;have GE249:=n9_;have NB235_249:=n10_;have NB249_235:=n11_;have NB236_249:=n12_;have NB249_236:=n13_;have NB241_249:=n14_;have NB249_241:=n15_;clear n0_ n1_ n2_ n3_ n4_ n5_ n6_ n7_ n8_ n9_ n10_ n11_ n12_ n13_ n14_ n15_;clear hb hbox hg;obtain ⟨Ao15,co15,eo15⟩:=Kd.N_slice HO244.out;subst eo15;have hnb16:=NB249_235.out;have hnc16:=NB235_249.out;have hnb17:=NB249_236.out;have hnc17:=NB236_249.out;have hnb18:=NB249_241.out;have hnc18:=NB241_249.out;obtain ⟨hcz19_0,hcz19_1⟩:=jC2 BK249.out;have hfz19_0:=jF BK249.out 0;have hfz19_1:=jF BK249.out 1;obtain ⟨Ao20,co20,eo20⟩:=Kd.N_slice HO247.out;subst eo20;obtain ⟨Ao21,co21,eo21⟩:=Kd.N_slice HO239.out;subst eo21))
  go_loopg [31] k (fun kq v31 w'=>∃ (x31_1:Int) (x242000_1:List (List (S53))) (x242001_1:List (List Int)) (x242002_1:List Int) (u242000:Value) (u242001:Value) (u242002:Value),v31=.int .i64 x31_1∧Aside0 (table_Build.l0 kq t237 (t237.length:Int) x31_1 l0_0 l0_1 l0_2 l0_3 a0_4 x242000_1 x242001_1 x242002_1 t242 t245=some (r1,r2,r3,r4))∧Aside0 (kq≤k)∧Aside0 (Kd.N (Kd.slice 49 (Kd.slice 53 k53)) 30 w' w.heap.size (fun k_=>(w.heap.size≤k_)∧some k_≠(u242000:Value).ownBlock∧some k_≠(u242001:Value).ownBlock∧some k_≠(u242002:Value).ownBlock∧some k_≠((.slice Ao15 t242.length co15):Value).ownBlock∧some k_≠((.slice Ao20 t245.length co20):Value).ownBlock∧k_≠gb235∧k_≠gb236∧k_≠gb241∧k_≠gb249) (.slice Ao21 t237.length co21) t237)∧Aside0 (Kd.N (Kd.slice 53 k53) 49 w' w.heap.size (fun k_=>(w.heap.size≤k_)∧some k_≠((.slice Ao21 t237.length co21):Value).ownBlock∧some k_≠(u242001:Value).ownBlock∧some k_≠(u242002:Value).ownBlock∧some k_≠((.slice Ao15 t242.length co15):Value).ownBlock∧some k_≠((.slice Ao20 t245.length co20):Value).ownBlock∧k_≠gb235∧k_≠gb236∧k_≠gb241∧k_≠gb249) u242000 x242000_1)∧Aside0 (Kd.N (Kd.slice 3 (Kd.int .i64)) 50 w' w.heap.size (fun k_=>(w.heap.size≤k_)∧some k_≠((.slice Ao21 t237.length co21):Value).ownBlock∧some k_≠(u242000:Value).ownBlock∧some k_≠(u242002:Value).ownBlock∧some k_≠((.slice Ao15 t242.length co15):Value).ownBlock∧some k_≠((.slice Ao20 t245.length co20):Value).ownBlock∧k_≠gb235∧k_≠gb236∧k_≠gb241∧k_≠gb249) u242001 x242001_1)∧Aside0 (Kd.R (Kd.int .u64) 48 w' w.heap.size (fun k_=>(w.heap.size≤k_)) u242002 x242002_1)∧Aside0 (Kd.N (Kd.slice 77 k77) 75 w' w.heap.size (fun k_=>(w.heap.size≤k_)∧some k_≠((.slice Ao21 t237.length co21):Value).ownBlock∧some k_≠(u242000:Value).ownBlock∧some k_≠(u242001:Value).ownBlock∧some k_≠(u242002:Value).ownBlock∧some k_≠((.slice Ao20 t245.length co20):Value).ownBlock∧k_≠gb235∧k_≠gb236∧k_≠gb241∧k_≠gb249) (.slice Ao15 t242.length co15) t242)∧Aside0 (Kd.N (Kd.slice 3 (Kd.int .i64)) 50 w' w.heap.size (fun k_=>(w.heap.size≤k_)∧some k_≠((.slice Ao21 t237.length co21):Value).ownBlock∧some k_≠(u242000:Value).ownBlock∧some k_≠(u242001:Value).ownBlock∧some k_≠(u242002:Value).ownBlock∧some k_≠((.slice Ao15 t242.length co15):Value).ownBlock∧k_≠gb235∧k_≠gb236∧k_≠gb241∧k_≠gb249) (.slice Ao20 t245.length co20) t245)∧Aside0 (w'.heap[gb235]? = some (.cells #[(.slice A0_0 l0_0.length c0_0),(.slice A0_1 l0_1.length c0_1),(.slice A0_2 l0_2.length c0_2),(.slice A0_3 l0_3.length c0_3),.int .i64 a0_4] 27 (0,0)))∧Aside0 (w'.heap[gb236]? = some (.cells #[(.slice none 0 0),(.slice none 0 0),(.slice none 0 0)] 34 (0,0)))∧Aside0 (w'.heap[gb241]? = some (.cells #[u242000,u242001,u242002] 34 (0,0)))∧Aside0 (w'.heap[gb249]? = some (.cells #[(.slice Ao15 t242.length co15),(.slice Ao20 t245.length co20)] 44 (0,0)))∧Aside0 (Below w.heap.size w w'))
  case atStart=>exact ⟨(0),(([]:List (List (S53)))),(([]:List (List Int))),(([]:List Int)),(.slice none 0 0),(.slice none 0 0),(.slice none 0 0),tZ,H',⟨Nat.le_refl _⟩,⟨by (with_reducible repeat (first | apply jn | apply jo | apply jp));exact Kd.N_mono (Kd.N_far (p:=⟨gb249,1,none⟩) (Kd.N_far (p:=⟨gb249,0,none⟩) (Kd.N_mono HO239.out (fun k_ hk=>(⟨hk,hk.2⟩:_∧k_≠gb249))) (fun _ hk=>hk.2) (.slice Ao15 t242.length co15)) (fun _ hk=>hk.2) (.slice Ao20 t245.length co20)) (fun _ hk=>⟨hk.1.1.1.1.1.1,⟨(by simp [Value.ownBlock]),⟨(by simp [Value.ownBlock]),⟨(by simp [Value.ownBlock]),⟨hk.1.1.1.2,⟨hk.1.1.2,⟨hk.1.1.1.1.1.2.1,⟨hk.1.1.1.1.1.2.2,⟨hk.1.1.1.1.2,hk.1.2⟩⟩⟩⟩⟩⟩⟩⟩⟩)⟩,⟨by first | exact Kd.S_nil _ _ _ _ _ | exact Kd.N_nil _ _ _ _ _ | exact Kd.V_nil _ _ _ _ _ | exact Kd.Q_nil _ _ _ _ _ | exact Kd.R_nil _ _ _ _ _⟩,⟨by first | exact Kd.S_nil _ _ _ _ _ | exact Kd.N_nil _ _ _ _ _ | exact Kd.V_nil _ _ _ _ _ | exact Kd.Q_nil _ _ _ _ _ | exact Kd.R_nil _ _ _ _ _⟩,⟨by first | exact Kd.R_nil _ _ _ _ _ | exact Kd.N_nil _ _ _ _ _ | exact Kd.V_nil _ _ _ _ _ | exact Kd.Q_nil _ _ _ _ _ | exact Kd.S_nil _ _ _ _ _⟩,⟨by (with_reducible repeat (first | apply jn | apply jo | apply jp));exact Kd.N_mono (Kd.N_far (p:=⟨gb249,1,none⟩) (Kd.N_far (p:=⟨gb249,0,none⟩) (Kd.N_mono HO244.out (fun k_ hk=>(⟨hk,hk.2⟩:_∧k_≠gb249))) (fun _ hk=>hk.2) (.slice Ao15 t242.length co15)) (fun _ hk=>hk.2) (.slice Ao20 t245.length co20)) (fun _ hk=>⟨hk.1.1.1,⟨hk.1.1.2.2.1,⟨(by simp [Value.ownBlock]),⟨(by simp [Value.ownBlock]),⟨(by simp [Value.ownBlock]),⟨hk.1.1.2.1,⟨hk.1.1.2.2.2.1,⟨hk.1.1.2.2.2.2.1,⟨hk.1.1.2.2.2.2.2,hk.1.2⟩⟩⟩⟩⟩⟩⟩⟩⟩)⟩,⟨by (with_reducible repeat (first | apply jn | apply jo | apply jp));exact Kd.N_mono (Kd.N_far (p:=⟨gb249,1,none⟩) (Kd.N_far (p:=⟨gb249,0,none⟩) (Kd.N_mono HO247.out (fun k_ hk=>(⟨hk,hk.2⟩:_∧k_≠gb249))) (fun _ hk=>hk.2) (.slice Ao15 t242.length co15)) (fun _ hk=>hk.2) (.slice Ao20 t245.length co20)) (fun _ hk=>⟨hk.1.1.1,⟨hk.1.1.2.2.1,⟨(by simp [Value.ownBlock]),⟨(by simp [Value.ownBlock]),⟨(by simp [Value.ownBlock]),⟨hk.1.1.2.1,⟨hk.1.1.2.2.2.1,⟨hk.1.1.2.2.2.2.1,⟨hk.1.1.2.2.2.2.2,hk.1.2⟩⟩⟩⟩⟩⟩⟩⟩⟩)⟩,⟨by (with_reducible repeat (first | refine jY ?_ _ | refine jZ ?_ | refine jX ?_ _));refine blk_far ?_ NB235_249.out _;(with_reducible repeat (first | refine jY ?_ _ | refine jZ ?_ | refine jX ?_ _));refine blk_far ?_ NB235_249.out _;(with_reducible repeat (first | refine jY ?_ _ | refine jZ ?_ | refine jX ?_ _));exact BK235.out⟩,⟨by (with_reducible repeat (first | refine jY ?_ _ | refine jZ ?_ | refine jX ?_ _));refine blk_far ?_ NB236_249.out _;(with_reducible repeat (first | refine jY ?_ _ | refine jZ ?_ | refine jX ?_ _));refine blk_far ?_ NB236_249.out _;(with_reducible repeat (first | refine jY ?_ _ | refine jZ ?_ | refine jX ?_ _));exact BK236.out⟩,⟨by (with_reducible repeat (first | refine jY ?_ _ | refine jZ ?_ | refine jX ?_ _));refine blk_far ?_ NB241_249.out _;(with_reducible repeat (first | refine jY ?_ _ | refine jZ ?_ | refine jX ?_ _));refine blk_far ?_ NB241_249.out _;(with_reducible repeat (first | refine jY ?_ _ | refine jZ ?_ | refine jX ?_ _));exact BK241.out⟩,⟨by (with_reducible repeat (first | refine jY ?_ _ | refine jZ ?_ | refine jX ?_ _));refine blk_put (cs:=#[.slice Ao15 t242.length co15,.slice none 0 0]) ?_ 1 _ rfl;(with_reducible repeat (first | refine jY ?_ _ | refine jZ ?_ | refine jX ?_ _));refine blk_put (cs:=#[.slice none 0 0,.slice none 0 0]) ?_ 0 _ rfl;(with_reducible repeat (first | refine jY ?_ _ | refine jZ ?_ | refine jX ?_ _));exact BK249.out⟩,⟨tE HB.out⟩⟩
  case round =>
   clear H'
   try clear c1
   try clear p2
   try clear c3
   try clear c3b0
   try clear c3b1
   try clear c7
   try clear c11
   try clear c12
   try clear c14
   try clear c16
   try clear c17
   try clear c18
   try clear hcz12_0
   try clear hcz12_1
   try clear hcz12_2
   try clear hcz12_3
   try clear hcz12_4
   try clear hcz19_0
   try clear hcz19_1
   try clear hcz8_0
   try clear hcz8_1
   try clear hcz8_2
   try clear hcz8_3
   try clear hcz8_4
   try clear hfz12_0
   try clear hfz12_1
   try clear hfz12_2
   try clear hfz12_3
   try clear hfz12_4
   try clear hfz19_0
   try clear hfz19_1
   try clear hfz8_0
   try clear hfz8_1
   try clear hfz8_2
   try clear hfz8_3
   try clear hfz8_4
   obtain ⟨x31_1,x242000_1,x242001_1,x242002_1,u242000,u242001,u242002,rfl,HA,HK1,HO_29,HO_242000,HO_242001,HO_242002,HO_250000,HO_250001,BK235,BK236,BK241,BK249,HB⟩:=hrel
   cases gk with
   | zero=>exact absurd HA.out (by simp [table_Build.l0])
   | succ k1 =>
    have H:=HA.out
    clear HA
    simp only [table_Build.l0] at H
    by_cases c22:x31_1 < (t237.length:Int)
    ·rw [if_pos c22] at H
     have c22b0:decide (x31_1 < (t237.length:Int))=true:=decide_eq_true c22
     clear c22
     by_cases c23:0≤x31_1
     ·rw [if_pos c23] at H
      have c23b0:decide (0≤x31_1)=true:=decide_eq_true c23
      clear c23
      by_cases c24:x31_1 < (t237.length:Int)
      ·rw [if_pos c24] at H
       have c24b0:decide (x31_1 < (t237.length:Int))=true:=decide_eq_true c24
       clear c24
       by_cases c25:0≤((rd_L26 t237 x31_1).length:Int)
       ·rw [if_pos c25] at H
        have c25b0:=eq_true c25
        have c25b1:decide (0≤((rd_L26 t237 x31_1).length:Int))=true:=decide_eq_true c25
        clear c25
        by_cases c26:(((rd_L26 t237 x31_1).length:Int):Int).toNat≤17592186044416
        ·rw [if_pos c26] at H
         have c26b0:=eq_true c26
         have c26b1:decide ((((rd_L26 t237 x31_1).length:Int):Int).toNat≤17592186044416)=true:=decide_eq_true c26
         clear c26
         obtain ⟨y251,hy251⟩:∃ y_:List (S53),y_=(List.replicate (((rd_L26 t237 x31_1).length:Int):Int).toNat z53):=⟨_,rfl⟩
         replace H:(table_Build.l1 k1 x31_1 y251 0 t237 (t237.length:Int) x31_1 (rd_L26 t237 x31_1) ((rd_L26 t237 x31_1).length:Int) 0 l0_0 l0_1 l0_2 l0_3 a0_4 x242000_1 x242001_1 x242002_1 t242 t245)=some (r1,r2,r3,r4):=by first | (rw [hy251];with_reducible exact H) | (have H2_:=(Option.bind_some _ _).symm.trans H;rw [hy251];with_reducible exact H2_) | (have H2_:=(Option.bind_some _ _).symm.trans H;with_reducible exact H2_) | with_reducible exact H | (rw [hy251];exact H) | exact H
         have Ny251:=jM hy251
         clear hy251
         have H':=jM H
         clear H
         have p250:0≤(x31_1:Int):=of_decide_eq_true tD
         have q250:x31_1 < (t237.length:Int):=of_decide_eq_true tD
         obtain ⟨ad250,A250_0,c250_0,e250,hx250_0,hl250_0,hi250_0⟩:=at_L26 (Kd.N_reads' HO_29.out).2.2 x31_1 p250 q250
         cases e250
         obtain ⟨ce250,hce250,hMe250,hcc250⟩:=Kd.N_get HO_29.out [] x31_1 p250 (by first | exact q250 | exact of_decide_eq_true tD | (have e_:=(Kd.N_reads' HO_29.out).1;omega))
         obtain ⟨ua250_0,uc250_0,rfl,ul250_0,ge250_0⟩:=Kd.FK_slice_open hMe250
         have hv250_0:=hcc250 0 _ rfl
         rw [Nat.add_zero,show ((Kd.slice 49 (Kd.slice 53 k53))).sz=1 from rfl,Nat.mul_one] at hv250_0
         replace hv250_0:=Option.some.inj (hv250_0.symm.trans hx250_0)
         injection hv250_0 with hva_ hvn_ hvc_
         rw [hva_] at ge250_0
         rw [hvc_] at ul250_0
         have HL250_0:=jM (show Kd.V (Kd.slice 53 k53) 49 _ w.heap.size _ _ (rd_L26 t237 x31_1) from Kd.V_mk ul250_0 ge250_0)
         clear hva_ hvn_ hvc_ ge250_0 ul250_0 hcc250 hce250
         have HR250_0:=jM hi250_0
         have HC250_0:=jM hl250_0
         clear hi250_0 hl250_0
         replace p250:=eq_true p250
         replace q250:=eq_true q250
         obtain ⟨wO,hwO⟩:∃ W_:World,W_=wr:=⟨_,rfl⟩
         have HCI:=jM (show Kd.C (Kd.slice 53 k53) wO A250_0 (rd_L26 t237 x31_1).length (rd_L26 t237 x31_1) from by rw [hwO];exact HR250_0.out)
         have HBI:=jM (show Below wO.heap.size wO wr from by rw [hwO];exact Below.refl _ _)
         clear hwO
         go_wp2_with (first | ((with_reducible refine gate_dst (N:=38) rfl ?_);refine Kd.R_make k53 _ 53 rfl (N:=38) rfl 49 _ _ rfl ((rd_L26 t237 x31_1).length:Int) rfl rfl Tryz.underlying49 (.agg #[(.int .i64 0),(.int .i64 0)]) 16 info53 rfl (by decide) (by omega) z53 (ok:=fun _=>True) (okp:=fun _=>True) (k53_mkM _ _ _ z53 ) (fun _ hk=>hk) trivial (of_decide_eq_true tD) (Nat.le_trans (Nat.mul_le_mul_right _ (of_decide_eq_true tD:((rd_L26 t237 x31_1).length:Int).toNat≤17592186044416)) (by omega)) (Below.refl _ _) (Nat.le_refl _) ?_;intro v252 w27 ho28 hb hg_ hnew_;clear hg_ hnew_;(first | rw [← Ny251.out] at ho28 | (simp only [Int.reduceToNat] at ho28;rw [← Ny251.out] at ho28));replace HO_29:=jM (Kd.N_elder' (tN HO_29.out) (Kd.R_base ho28) hb);replace HO_242000:=jM (Kd.N_elder' (tN HO_242000.out) (Kd.R_base ho28) hb);replace HO_242001:=jM (Kd.N_elder' (tN HO_242001.out) (Kd.R_base ho28) hb);replace HO_242002:=jM (Kd.R_below (tR HO_242002.out) hb);replace HO_250000:=jM (Kd.N_elder' (tN HO_250000.out) (Kd.R_base ho28) hb);replace HO_250001:=jM (Kd.N_elder' (tN HO_250001.out) (Kd.R_base ho28) hb);replace HL250_0:=jM (Kd.V_elder' (by (with_reducible repeat (first | apply jt | apply ju | apply jv));exact HL250_0.out) (Kd.R_base ho28) hb);have HO253:=jM (Kd.R_lower (Kd.R_newM (M:=fun k_=>(w.heap.size≤k_)) ho28 (below_size (tE HB.out)) (fun k_ h_=>h_)) (below_size (tE HB.out)));replace BK235:=jM (jW (g:=gb235) (o:=.cells #[.slice A0_0 l0_0.length c0_0,.slice A0_1 l0_1.length c0_1,.slice A0_2 l0_2.length c0_2,.slice A0_3 l0_3.length c0_3,.int .i64 a0_4] 27 (0,0)) (tK BK235.out) hb);replace BK236:=jM (jW (g:=gb236) (o:=.cells #[.slice none 0 0,.slice none 0 0,.slice none 0 0] 34 (0,0)) (tK BK236.out) hb);replace BK241:=jM (jW (g:=gb241) (o:=.cells #[u242000,u242001,u242002] 34 (0,0)) (tK BK241.out) hb);replace BK249:=jM (jW (g:=gb249) (o:=.cells #[.slice Ao15 t242.length co15,.slice Ao20 t245.length co20] 44 (0,0)) (tK BK249.out) hb);replace HR250_0:=jM (jB (by repeat (first | (with_reducible exact HR250_0.out) | (with_reducible refine Kd.C_alloc ?_ _) | (with_reducible refine Kd.C_drewN ?_ _) | (with_reducible refine Kd.C_drew ?_) | exact HR250_0.out)) hb);replace HB:=jM (jT (tE HB.out) hb);have nb_:=jM (jT (by repeat (first | (with_reducible first | exact HBI.out | apply jA | apply jN | apply jD) | exact HBI.out)) hb);have ng_:Aside0 (∀ g_,(v252:Value).ownBlock=some g_→wO.heap.size≤g_):=⟨fun g_ e_=>Nat.le_trans (below_size (by repeat (first | (with_reducible first | exact HBI.out | apply jA | apply jN | apply jD) | exact HBI.out))) (Kd.R_base ho28 g_ e_)⟩;clear HBI;have HBI:=nb_;have HGB:=ng_;clear nb_ ng_;clear hb ho28))
         go_loopg [12,41] k1 (fun kq v12 v41 w'=>∃ (x11_2:List (S53)) (x12_2:Int) (x41_2:Int),v12=.int .u64 x12_2∧v41=.int .i64 x41_2∧Aside0 (table_Build.l1 kq x31_1 x11_2 x12_2 t237 (t237.length:Int) x31_1 (rd_L26 t237 x31_1) ((rd_L26 t237 x31_1).length:Int) x41_2 l0_0 l0_1 l0_2 l0_3 a0_4 x242000_1 x242001_1 x242002_1 t242 t245=some (r1,r2,r3,r4))∧Aside0 (kq≤k1)∧Aside0 (Kd.R k53 53 w' w.heap.size (fun k_=>(w.heap.size≤k_)) v252 x11_2)∧Aside0 (Kd.N (Kd.slice 49 (Kd.slice 53 k53)) 30 w' w.heap.size (fun k_=>(w.heap.size≤k_)∧some k_≠(v252:Value).ownBlock∧some k_≠(u242000:Value).ownBlock∧some k_≠(u242001:Value).ownBlock∧some k_≠(u242002:Value).ownBlock∧some k_≠((.slice Ao15 t242.length co15):Value).ownBlock∧some k_≠((.slice Ao20 t245.length co20):Value).ownBlock∧k_≠gb235∧k_≠gb236∧k_≠gb241∧k_≠gb249) (.slice (some ad250) t237.length co21) t237)∧Aside0 (Kd.N (Kd.slice 53 k53) 49 w' w.heap.size (fun k_=>(w.heap.size≤k_)∧some k_≠(v252:Value).ownBlock∧some k_≠((.slice (some ad250) t237.length co21):Value).ownBlock∧some k_≠(u242001:Value).ownBlock∧some k_≠(u242002:Value).ownBlock∧some k_≠((.slice Ao15 t242.length co15):Value).ownBlock∧some k_≠((.slice Ao20 t245.length co20):Value).ownBlock∧k_≠gb235∧k_≠gb236∧k_≠gb241∧k_≠gb249) u242000 x242000_1)∧Aside0 (Kd.N (Kd.slice 3 (Kd.int .i64)) 50 w' w.heap.size (fun k_=>(w.heap.size≤k_)∧some k_≠(v252:Value).ownBlock∧some k_≠((.slice (some ad250) t237.length co21):Value).ownBlock∧some k_≠(u242000:Value).ownBlock∧some k_≠(u242002:Value).ownBlock∧some k_≠((.slice Ao15 t242.length co15):Value).ownBlock∧some k_≠((.slice Ao20 t245.length co20):Value).ownBlock∧k_≠gb235∧k_≠gb236∧k_≠gb241∧k_≠gb249) u242001 x242001_1)∧Aside0 (Kd.R (Kd.int .u64) 48 w' w.heap.size (fun k_=>(w.heap.size≤k_)) u242002 x242002_1)∧Aside0 (Kd.N (Kd.slice 77 k77) 75 w' w.heap.size (fun k_=>(w.heap.size≤k_)∧some k_≠(v252:Value).ownBlock∧some k_≠((.slice (some ad250) t237.length co21):Value).ownBlock∧some k_≠(u242000:Value).ownBlock∧some k_≠(u242001:Value).ownBlock∧some k_≠(u242002:Value).ownBlock∧some k_≠((.slice Ao20 t245.length co20):Value).ownBlock∧k_≠gb235∧k_≠gb236∧k_≠gb241∧k_≠gb249) (.slice Ao15 t242.length co15) t242)∧Aside0 (Kd.N (Kd.slice 3 (Kd.int .i64)) 50 w' w.heap.size (fun k_=>(w.heap.size≤k_)∧some k_≠(v252:Value).ownBlock∧some k_≠((.slice (some ad250) t237.length co21):Value).ownBlock∧some k_≠(u242000:Value).ownBlock∧some k_≠(u242001:Value).ownBlock∧some k_≠(u242002:Value).ownBlock∧some k_≠((.slice Ao15 t242.length co15):Value).ownBlock∧k_≠gb235∧k_≠gb236∧k_≠gb241∧k_≠gb249) (.slice Ao20 t245.length co20) t245)∧Aside0 (w'.heap[gb235]? = some (.cells #[(.slice A0_0 l0_0.length c0_0),(.slice A0_1 l0_1.length c0_1),(.slice A0_2 l0_2.length c0_2),(.slice A0_3 l0_3.length c0_3),.int .i64 a0_4] 27 (0,0)))∧Aside0 (w'.heap[gb236]? = some (.cells #[(.slice none 0 0),(.slice none 0 0),(.slice none 0 0)] 34 (0,0)))∧Aside0 (w'.heap[gb241]? = some (.cells #[u242000,u242001,u242002] 34 (0,0)))∧Aside0 (w'.heap[gb249]? = some (.cells #[(.slice Ao15 t242.length co15),(.slice Ao20 t245.length co20)] 44 (0,0)))∧Aside0 (Below w.heap.size w w')∧Aside0 (Below wO.heap.size wO w'))
         case atStart=>exact ⟨(y251),(0),(0),tZ,tZ,H',⟨Nat.le_refl _⟩,⟨by (with_reducible repeat (first | apply Kd.R_alloc | apply Kd.R_drewN | apply Kd.R_drew));exact Kd.R_mono HO253.out (fun _ hk=>hk.1)⟩,⟨by (with_reducible repeat (first | apply jn | apply jo | apply jp));exact Kd.N_mono HO_29.out (fun _ hk=>⟨hk.1.1,⟨hk.2,⟨hk.1.2.1,⟨hk.1.2.2.1,⟨hk.1.2.2.2.1,⟨hk.1.2.2.2.2.1,⟨hk.1.2.2.2.2.2.1,⟨hk.1.2.2.2.2.2.2.1,⟨hk.1.2.2.2.2.2.2.2.1,⟨hk.1.2.2.2.2.2.2.2.2.1,hk.1.2.2.2.2.2.2.2.2.2⟩⟩⟩⟩⟩⟩⟩⟩⟩⟩)⟩,⟨by (with_reducible repeat (first | apply jn | apply jo | apply jp));exact Kd.N_mono HO_242000.out (fun _ hk=>⟨hk.1.1,⟨hk.2,⟨hk.1.2.1,⟨hk.1.2.2.1,⟨hk.1.2.2.2.1,⟨hk.1.2.2.2.2.1,⟨hk.1.2.2.2.2.2.1,⟨hk.1.2.2.2.2.2.2.1,⟨hk.1.2.2.2.2.2.2.2.1,⟨hk.1.2.2.2.2.2.2.2.2.1,hk.1.2.2.2.2.2.2.2.2.2⟩⟩⟩⟩⟩⟩⟩⟩⟩⟩)⟩,⟨by (with_reducible repeat (first | apply jn | apply jo | apply jp));exact Kd.N_mono HO_242001.out (fun _ hk=>⟨hk.1.1,⟨hk.2,⟨hk.1.2.1,⟨hk.1.2.2.1,⟨hk.1.2.2.2.1,⟨hk.1.2.2.2.2.1,⟨hk.1.2.2.2.2.2.1,⟨hk.1.2.2.2.2.2.2.1,⟨hk.1.2.2.2.2.2.2.2.1,⟨hk.1.2.2.2.2.2.2.2.2.1,hk.1.2.2.2.2.2.2.2.2.2⟩⟩⟩⟩⟩⟩⟩⟩⟩⟩)⟩,⟨tR HO_242002.out⟩,⟨by (with_reducible repeat (first | apply jn | apply jo | apply jp));exact Kd.N_mono HO_250000.out (fun _ hk=>⟨hk.1.1,⟨hk.2,⟨hk.1.2.1,⟨hk.1.2.2.1,⟨hk.1.2.2.2.1,⟨hk.1.2.2.2.2.1,⟨hk.1.2.2.2.2.2.1,⟨hk.1.2.2.2.2.2.2.1,⟨hk.1.2.2.2.2.2.2.2.1,⟨hk.1.2.2.2.2.2.2.2.2.1,hk.1.2.2.2.2.2.2.2.2.2⟩⟩⟩⟩⟩⟩⟩⟩⟩⟩)⟩,⟨by (with_reducible repeat (first | apply jn | apply jo | apply jp));exact Kd.N_mono HO_250001.out (fun _ hk=>⟨hk.1.1,⟨hk.2,⟨hk.1.2.1,⟨hk.1.2.2.1,⟨hk.1.2.2.2.1,⟨hk.1.2.2.2.2.1,⟨hk.1.2.2.2.2.2.1,⟨hk.1.2.2.2.2.2.2.1,⟨hk.1.2.2.2.2.2.2.2.1,⟨hk.1.2.2.2.2.2.2.2.2.1,hk.1.2.2.2.2.2.2.2.2.2⟩⟩⟩⟩⟩⟩⟩⟩⟩⟩)⟩,⟨tK BK235.out⟩,⟨tK BK236.out⟩,⟨tK BK241.out⟩,⟨tK BK249.out⟩,⟨tE HB.out⟩,⟨(by repeat (first | (with_reducible first | exact HBI.out | apply jA | apply jN | apply jD) | exact HBI.out))⟩⟩
         case round =>
          clear H'
          try clear c1
          try clear c2
          try clear p2
          try clear q2
          try clear hx2
          try clear c3
          try clear c3b0
          try clear c3b1
          try clear c7
          try clear c11
          try clear c12
          try clear c14
          try clear c16
          try clear c17
          try clear c18
          try clear c22
          try clear c22b0
          try clear c23
          try clear c23b0
          try clear c24
          try clear c24b0
          try clear c25
          try clear c25b0
          try clear c25b1
          try clear p25
          try clear q25
          try clear hx25
          try clear c26
          try clear c26b0
          try clear c26b1
          try clear hcz12_0
          try clear hcz12_1
          try clear hcz12_2
          try clear hcz12_3
          try clear hcz12_4
          try clear hcz19_0
          try clear hcz19_1
          try clear hcz8_0
          try clear hcz8_1
          try clear hcz8_2
          try clear hcz8_3
          try clear hcz8_4
          try clear hfz12_0
          try clear hfz12_1
          try clear hfz12_2
          try clear hfz12_3
          try clear hfz12_4
          try clear hfz19_0
          try clear hfz19_1
          try clear hfz8_0
          try clear hfz8_1
          try clear hfz8_2
          try clear hfz8_3
          try clear hfz8_4
          try clear hx250_0
          try clear p2
          try clear p250
          try clear q250
          obtain ⟨x11_2,x12_2,x41_2,rfl,rfl,HA,HK2,HO_11,HO_29,HO_242000,HO_242001,HO_242002,HO_250000,HO_250001,BK235,BK236,BK241,BK249,HB,HBI⟩:=hrel
          cases gk with
          | zero=>exact absurd HA.out (by simp [table_Build.l1])
          | succ k2 =>
           have H:=HA.out
           clear HA
           simp only [table_Build.l1] at H
           by_cases c29:x41_2 < ((rd_L26 t237 x31_1).length:Int)
           ·rw [if_pos c29] at H
            have c29b0:decide (x41_2 < ((rd_L26 t237 x31_1).length:Int))=true:=decide_eq_true c29
            clear c29
            by_cases c30:0≤x41_2
            ·rw [if_pos c30] at H
             have c30b0:decide (0≤x41_2)=true:=decide_eq_true c30
             clear c30
             by_cases c31:x41_2 < ((rd_L26 t237 x31_1).length:Int)
             ·rw [if_pos c31] at H
              have c31b0:decide (x41_2 < ((rd_L26 t237 x31_1).length:Int))=true:=decide_eq_true c31
              clear c31
              by_cases c32:((rd_L25 (rd_L26 t237 x31_1) x41_2).length:Int)=0
              ·rw [if_pos c32] at H
               have c32b0:(((rd_L25 (rd_L26 t237 x31_1) x41_2).length:Int) == 0)=true:=beq_iff_eq.mpr c32
               have c32b1:(((rd_L25 (rd_L26 t237 x31_1) x41_2).length:Int) != 0)=false:=bne_eq_false_iff_eq.mpr c32
               clear c32
               have H':=jM H
               clear H
               have p269:0≤(x41_2:Int):=of_decide_eq_true tD
               have q269:x41_2 < ((rd_L26 t237 x31_1).length:Int):=of_decide_eq_true tD
               obtain ⟨ad269,A269_0,c269_0,e269,hx269_0,hl269_0,hi269_0⟩:=at_L25 HCI.out x41_2 p269 q269
               cases e269
               replace hx269_0:=(HBI.out.cell (jL wO _ hx269_0)).trans hx269_0
               have HR269_0:=jM hi269_0
               have HC269_0:=jM hl269_0
               clear hi269_0 hl269_0
               replace p269:=eq_true p269
               replace q269:=eq_true q269
               go_wp2
               go_roundg k2
               case measure=>have:=HK1.out;have:=HK2.out;omega
               case rel=>exact ⟨(x11_2),(x12_2),(wrap64 (x41_2+1)),tZ,tZ,H',⟨by have:=HK1.out;have:=HK2.out;omega⟩,⟨tR HO_11.out⟩,⟨tN HO_29.out⟩,⟨tN HO_242000.out⟩,⟨tN HO_242001.out⟩,⟨tR HO_242002.out⟩,⟨tN HO_250000.out⟩,⟨tN HO_250001.out⟩,⟨tK BK235.out⟩,⟨tK BK236.out⟩,⟨tK BK241.out⟩,⟨tK BK249.out⟩,⟨tE HB.out⟩,⟨(by repeat (first | (with_reducible first | exact HBI.out | apply jA | apply jN | apply jD) | exact HBI.out))⟩⟩
              ·rw [if_neg c32] at H
               have c32b0:(((rd_L25 (rd_L26 t237 x31_1) x41_2).length:Int) == 0)=false:=beq_eq_false_iff_ne.mpr c32
               have c32b1:(((rd_L25 (rd_L26 t237 x31_1) x41_2).length:Int) != 0)=true:=bne_iff_ne.mpr c32
               have c32b2:¬ ((rd_L25 (rd_L26 t237 x31_1) x41_2)=[]):=fun h_=>c32 (by rw [h_];rfl)
               by_cases c33:((rd_L25 (rd_L26 t237 x31_1) x41_2).length:Int)=1
               ·rw [if_pos c33] at H
                have c33b0:(((rd_L25 (rd_L26 t237 x31_1) x41_2).length:Int) == 1)=true:=beq_iff_eq.mpr c33
                have c33b1:(((rd_L25 (rd_L26 t237 x31_1) x41_2).length:Int) != 1)=false:=bne_eq_false_iff_eq.mpr c33
                clear c33
                by_cases c34:0 < ((rd_L25 (rd_L26 t237 x31_1) x41_2).length:Int)
                ·rw [if_pos c34] at H
                 have c34b0:decide (0 < ((rd_L25 (rd_L26 t237 x31_1) x41_2).length:Int))=true:=decide_eq_true c34
                 have c34b1:decide (0 < (rd_L25 (rd_L26 t237 x31_1) x41_2).length)=true:=decide_eq_true (by omega)
                 clear c34
                 by_cases c35:x41_2 < (x11_2.length:Int)
                 ·rw [if_pos c35] at H
                  have c35b0:decide (x41_2 < (x11_2.length:Int))=true:=decide_eq_true c35
                  clear c35
                  obtain ⟨y271,hy271⟩:∃ y_:List (S53),y_=(x11_2.set (x41_2:Int).toNat (⟨(rd_T53 (rd_L25 (rd_L26 t237 x31_1) x41_2) 0).f0,(rd_T53 (rd_L25 (rd_L26 t237 x31_1) x41_2) 0).f1⟩:S53)):=⟨_,rfl⟩
                  replace H:((table_bit.f l0_0 l0_1 l0_2 l0_3 a0_4 x41_2).bind fun t272=>((bits_With.f x12_2 t272).bind fun t273=>(table_Build.l1 k2 x31_1 y271 t273 t237 (t237.length:Int) x31_1 (rd_L26 t237 x31_1) ((rd_L26 t237 x31_1).length:Int) (wrap64 (x41_2+1)) l0_0 l0_1 l0_2 l0_3 a0_4 x242000_1 x242001_1 x242002_1 t242 t245)))=some (r1,r2,r3,r4):=by first | (rw [hy271];with_reducible exact H) | (have H2_:=(Option.bind_some _ _).symm.trans H;rw [hy271];with_reducible exact H2_) | (have H2_:=(Option.bind_some _ _).symm.trans H;with_reducible exact H2_) | with_reducible exact H | (rw [hy271];exact H) | exact H
                  have Ny271:=jM hy271
                  clear hy271
                  replace H:=Option.bind_eq_some_iff.mp H
                  obtain ⟨t272,A370,H⟩:=H
                  replace H:((bits_With.f x12_2 t272).bind fun t273=>(table_Build.l1 k2 x31_1 y271 t273 t237 (t237.length:Int) x31_1 (rd_L26 t237 x31_1) ((rd_L26 t237 x31_1).length:Int) (wrap64 (x41_2+1)) l0_0 l0_1 l0_2 l0_3 a0_4 x242000_1 x242001_1 x242002_1 t242 t245))=some (r1,r2,r3,r4):=H
                  have A37:=jM A370
                  clear A370
                  replace H:=Option.bind_eq_some_iff.mp H
                  obtain ⟨t273,A380,H⟩:=H
                  replace H:(table_Build.l1 k2 x31_1 y271 t273 t237 (t237.length:Int) x31_1 (rd_L26 t237 x31_1) ((rd_L26 t237 x31_1).length:Int) (wrap64 (x41_2+1)) l0_0 l0_1 l0_2 l0_3 a0_4 x242000_1 x242001_1 x242002_1 t242 t245)=some (r1,r2,r3,r4):=H
                  have A38:=jM A380
                  clear A380
                  have H':=jM H
                  clear H
                  have p269:0≤(x41_2:Int):=of_decide_eq_true tD
                  have q269:x41_2 < ((rd_L26 t237 x31_1).length:Int):=of_decide_eq_true tD
                  obtain ⟨ad269,A269_0,c269_0,e269,hx269_0,hl269_0,hi269_0⟩:=at_L25 HCI.out x41_2 p269 q269
                  cases e269
                  replace hx269_0:=(HBI.out.cell (jL wO _ hx269_0)).trans hx269_0
                  have HR269_0:=jM hi269_0
                  have HC269_0:=jM hl269_0
                  clear hi269_0 hl269_0
                  replace p269:=eq_true p269
                  replace q269:=eq_true q269
                  have p270:0≤(0:Int):=(by omega)
                  have q270:0 < ((rd_L25 (rd_L26 t237 x31_1) x41_2).length:Int):=of_decide_eq_true tD
                  obtain ⟨ad270,e270,hx270_0,hx270_1⟩:=at_T53 HR269_0.out 0 p270 q270
                  cases e270
                  have qi270:(0 < (rd_L25 (rd_L26 t237 x31_1) x41_2).length)=True:=eq_true (by omega)
                  (try rw [show ((0:Int)).toNat=0 from rfl] at hx270_0)
                  (try rw [show 0 * 2=0 from rfl] at hx270_0)
                  (try rw [Addr.add_zero'] at hx270_0)
                  (try rw [show ((0:Int)).toNat=0 from rfl] at hx270_1)
                  (try rw [show 0 * 2=0 from rfl] at hx270_1)
                  (try rw [Addr.add_zero'] at hx270_1)
                  replace hx270_0:=(HBI.out.cell (jL wO _ hx270_0)).trans hx270_0
                  replace hx270_1:=(HBI.out.cell (jL wO _ hx270_1)).trans hx270_1
                  replace p270:=eq_true p270
                  replace q270:=eq_true q270
                  have p36:0≤(x41_2:Int):=of_decide_eq_true tD
                  have q36:(x41_2:Int) < ((x11_2.length:Int):Int):=of_decide_eq_true tD
                  obtain ⟨go36,co36,eo36,gb36,gl36,cl36,HG36⟩:=Kd.R_form HO_11.out (by omega)
                  (first | cases eo36 | (injection eo36 with ea_ en_ ec_;(first | subst ea_ | (injection ea_ with ea_;subst ea_));subst ec_;clear en_))
                  have GB36:=jM gb36
                  have GG36:=jM HG36
                  clear gb36 gl36 HG36
                  obtain ⟨ce36,hcl36,hM36,hcc36,hfr36⟩:=Kd.R_elem HO_11.out z53 (x41_2:Int) p36 q36
                  obtain rfl:=k53_openM hM36
                  have hx36_0:wr.cell? ⟨go36,(x41_2:Int).toNat * 2,none⟩=some (.int .i64 ((rd_T53 x11_2 x41_2).f0)):=hcc36 0 _ rfl
                  have hx36_1:wr.cell? ⟨go36,(x41_2:Int).toNat * 2+1,none⟩=some (.int .i64 ((rd_T53 x11_2 x41_2).f1)):=hcc36 1 _ rfl
                  have hf36_0:wr.frozen? ⟨go36,(x41_2:Int).toNat * 2,none⟩=false:=hfr36 0
                  have hf36_1:wr.frozen? ⟨go36,(x41_2:Int).toNat * 2+1,none⟩=false:=hfr36 1
                  clear hcl36 hcc36 hfr36 hM36
                  replace p36:=eq_true p36
                  replace q36:=eq_true q36
                  have HX39:=jM (show Kd.R k53 53 wr w.heap.size (fun k_=>(w.heap.size≤k_)) (.slice (some ⟨go36,0,none⟩) x11_2.length co36) x11_2 from (tR HO_11.out))
                  obtain ⟨ce39,hcl39,hM39,hcc39,hfr39⟩:=Kd.R_elem HX39.out z53 (x41_2:Int) (of_decide_eq_true tD) (by have h_:(x41_2:Int) < ((x11_2.length:Int):Int):=of_decide_eq_true tD;first | exact h_ | (have e_:=(Kd.R_reads' HO_11.out).1;omega) | simpa using h_)
                  obtain rfl:=k53_openM hM39
                  have HP39:=Kd.R_seg HX39.out (x41_2:Int) (of_decide_eq_true tD) (by have h_:(x41_2:Int) < ((x11_2.length:Int):Int):=of_decide_eq_true tD;first | exact h_ | (have e_:=(Kd.R_reads' HO_11.out).1;omega) | simpa using h_) (seg:=[.int .i64 ((rd_T53 (rd_L25 (rd_L26 t237 x31_1) x41_2) 0).f0),.int .i64 ((rd_T53 (rd_L25 (rd_L26 t237 x31_1) x41_2) 0).f1)]) (j:=0) hcl39 hcc39 (show 2≤2 from by decide) (x':=(⟨(rd_T53 (rd_L25 (rd_L26 t237 x31_1) x41_2) 0).f0,(rd_T53 (rd_L25 (rd_L26 t237 x31_1) x41_2) 0).f1⟩:S53)) (k53_mkM _ _ _ (⟨(rd_T53 (rd_L25 (rd_L26 t237 x31_1) x41_2) 0).f0,(rd_T53 (rd_L25 (rd_L26 t237 x31_1) x41_2) 0).f1⟩:S53) ) (fun _ hk=>hk)
                  have hx39_0:=hcc39 0 _ rfl
                  (try simp only [show (k53).sz=2 from rfl,Nat.mul_one,Nat.add_zero] at hx39_0)
                  have hf39_0:=hfr39 0
                  (try simp only [show (k53).sz=2 from rfl,Nat.mul_one,Nat.add_zero] at hf39_0)
                  have hx39_1:=hcc39 1 _ rfl
                  (try simp only [show (k53).sz=2 from rfl,Nat.mul_one,Nat.add_zero] at hx39_1)
                  have hf39_1:=hfr39 1
                  (try simp only [show (k53).sz=2 from rfl,Nat.mul_one,Nat.add_zero] at hf39_1)
                  clear hcl39 hcc39 hfr39 hM39
                  have GBI:=jM (HGB.out go36 rfl)
                  go_wp2_with (first | ((with_reducible refine gate_store (t:=53) (p:=58) rfl ?_);refine store_event (t:=53) (p:=58) (v:=?vo_w40) (w1:=((wr.setCell ⟨go36,(x41_2:Int).toNat * 2,none⟩ (.int .i64 ((rd_T53 (rd_L25 (rd_L26 t237 x31_1) x41_2) 0).f0))).setCell ⟨go36,(x41_2:Int).toNat * 2+1,none⟩ (.int .i64 ((rd_T53 (rd_L25 (rd_L26 t237 x31_1) x41_2) 0).f1)))) ?hg ?ho ?hn ?hr ?_;(case ho=>rfl);(case hg=>rfl);(case hn=>rfl);(case hr=>first | (go_simp;done) | (go_simp;rfl));intro w40 hw;have hg:wr.grownBy w40 (some go36):=(by rw [hw];exact HP39.2);have hp_:Kd.R k53 53 w40 w.heap.size (fun k_=>(w.heap.size≤k_)) (.slice (some ⟨go36,0,none⟩) x11_2.length co36) y271:=(by rw [hw,Ny271.out];exact HP39.1);clear HP39;have n0_:=jM (hp_);have n1_:=jM (Kd.N_afterv (v:=(.slice (some ⟨go36,0,none⟩) x11_2.length co36)) (v1:=(.slice (some ⟨go36,0,none⟩) x11_2.length co36)) (ok:=(fun k_=>(w.heap.size≤k_)∧some k_≠(u242000:Value).ownBlock∧some k_≠(u242001:Value).ownBlock∧some k_≠(u242002:Value).ownBlock∧some k_≠(.slice Ao15 t242.length co15:Value).ownBlock∧some k_≠(.slice Ao20 t245.length co20:Value).ownBlock∧k_≠gb235∧k_≠gb236∧k_≠gb241∧k_≠gb249)) (by (with_reducible repeat (first | apply jn | apply jo | apply jp));exact Kd.N_mono HO_29.out (fun _ hk=>⟨⟨hk.1,⟨hk.2.2.1,⟨hk.2.2.2.1,⟨hk.2.2.2.2.1,⟨hk.2.2.2.2.2.1,⟨hk.2.2.2.2.2.2.1,⟨hk.2.2.2.2.2.2.2.1,⟨hk.2.2.2.2.2.2.2.2.1,⟨hk.2.2.2.2.2.2.2.2.2.1,hk.2.2.2.2.2.2.2.2.2.2⟩⟩⟩⟩⟩⟩⟩⟩⟩,hk.2.1⟩)) hg (.inl rfl));have n2_:=jM (Kd.N_afterv (v:=(.slice (some ⟨go36,0,none⟩) x11_2.length co36)) (v1:=(.slice (some ⟨go36,0,none⟩) x11_2.length co36)) (ok:=(fun k_=>(w.heap.size≤k_)∧some k_≠(.slice (some ad250) t237.length co21:Value).ownBlock∧some k_≠(u242001:Value).ownBlock∧some k_≠(u242002:Value).ownBlock∧some k_≠(.slice Ao15 t242.length co15:Value).ownBlock∧some k_≠(.slice Ao20 t245.length co20:Value).ownBlock∧k_≠gb235∧k_≠gb236∧k_≠gb241∧k_≠gb249)) (by (with_reducible repeat (first | apply jn | apply jo | apply jp));exact Kd.N_mono HO_242000.out (fun _ hk=>⟨⟨hk.1,⟨hk.2.2.1,⟨hk.2.2.2.1,⟨hk.2.2.2.2.1,⟨hk.2.2.2.2.2.1,⟨hk.2.2.2.2.2.2.1,⟨hk.2.2.2.2.2.2.2.1,⟨hk.2.2.2.2.2.2.2.2.1,⟨hk.2.2.2.2.2.2.2.2.2.1,hk.2.2.2.2.2.2.2.2.2.2⟩⟩⟩⟩⟩⟩⟩⟩⟩,hk.2.1⟩)) hg (.inl rfl));have n3_:=jM (Kd.N_afterv (v:=(.slice (some ⟨go36,0,none⟩) x11_2.length co36)) (v1:=(.slice (some ⟨go36,0,none⟩) x11_2.length co36)) (ok:=(fun k_=>(w.heap.size≤k_)∧some k_≠(.slice (some ad250) t237.length co21:Value).ownBlock∧some k_≠(u242000:Value).ownBlock∧some k_≠(u242002:Value).ownBlock∧some k_≠(.slice Ao15 t242.length co15:Value).ownBlock∧some k_≠(.slice Ao20 t245.length co20:Value).ownBlock∧k_≠gb235∧k_≠gb236∧k_≠gb241∧k_≠gb249)) (by (with_reducible repeat (first | apply jn | apply jo | apply jp));exact Kd.N_mono HO_242001.out (fun _ hk=>⟨⟨hk.1,⟨hk.2.2.1,⟨hk.2.2.2.1,⟨hk.2.2.2.2.1,⟨hk.2.2.2.2.2.1,⟨hk.2.2.2.2.2.2.1,⟨hk.2.2.2.2.2.2.2.1,⟨hk.2.2.2.2.2.2.2.2.1,⟨hk.2.2.2.2.2.2.2.2.2.1,hk.2.2.2.2.2.2.2.2.2.2⟩⟩⟩⟩⟩⟩⟩⟩⟩,hk.2.1⟩)) hg (.inl rfl));have n4_:=jM (Kd.R_over' (v:=(.slice (some ⟨go36,0,none⟩) x11_2.length co36)) (tR HO_242002.out) (Kd.R_typed HO_11.out) (by decide) hg);have n5_:=jM (Kd.N_afterv (v:=(.slice (some ⟨go36,0,none⟩) x11_2.length co36)) (v1:=(.slice (some ⟨go36,0,none⟩) x11_2.length co36)) (ok:=(fun k_=>(w.heap.size≤k_)∧some k_≠(.slice (some ad250) t237.length co21:Value).ownBlock∧some k_≠(u242000:Value).ownBlock∧some k_≠(u242001:Value).ownBlock∧some k_≠(u242002:Value).ownBlock∧some k_≠(.slice Ao20 t245.length co20:Value).ownBlock∧k_≠gb235∧k_≠gb236∧k_≠gb241∧k_≠gb249)) (by (with_reducible repeat (first | apply jn | apply jo | apply jp));exact Kd.N_mono HO_250000.out (fun _ hk=>⟨⟨hk.1,⟨hk.2.2.1,⟨hk.2.2.2.1,⟨hk.2.2.2.2.1,⟨hk.2.2.2.2.2.1,⟨hk.2.2.2.2.2.2.1,⟨hk.2.2.2.2.2.2.2.1,⟨hk.2.2.2.2.2.2.2.2.1,⟨hk.2.2.2.2.2.2.2.2.2.1,hk.2.2.2.2.2.2.2.2.2.2⟩⟩⟩⟩⟩⟩⟩⟩⟩,hk.2.1⟩)) hg (.inl rfl));have n6_:=jM (Kd.N_afterv (v:=(.slice (some ⟨go36,0,none⟩) x11_2.length co36)) (v1:=(.slice (some ⟨go36,0,none⟩) x11_2.length co36)) (ok:=(fun k_=>(w.heap.size≤k_)∧some k_≠(.slice (some ad250) t237.length co21:Value).ownBlock∧some k_≠(u242000:Value).ownBlock∧some k_≠(u242001:Value).ownBlock∧some k_≠(u242002:Value).ownBlock∧some k_≠(.slice Ao15 t242.length co15:Value).ownBlock∧k_≠gb235∧k_≠gb236∧k_≠gb241∧k_≠gb249)) (by (with_reducible repeat (first | apply jn | apply jo | apply jp));exact Kd.N_mono HO_250001.out (fun _ hk=>⟨⟨hk.1,⟨hk.2.2.1,⟨hk.2.2.2.1,⟨hk.2.2.2.2.1,⟨hk.2.2.2.2.2.1,⟨hk.2.2.2.2.2.2.1,⟨hk.2.2.2.2.2.2.2.1,⟨hk.2.2.2.2.2.2.2.2.1,⟨hk.2.2.2.2.2.2.2.2.2.1,hk.2.2.2.2.2.2.2.2.2.2⟩⟩⟩⟩⟩⟩⟩⟩⟩,hk.2.1⟩)) hg (.inl rfl));have n7_:=jM (blk_grown (g:=gb235) (o:=.cells #[.slice A0_0 l0_0.length c0_0,.slice A0_1 l0_1.length c0_1,.slice A0_2 l0_2.length c0_2,.slice A0_3 l0_3.length c0_3,.int .i64 a0_4] 27 (0,0)) (tK BK235.out) hg (Kd.R_ne HO_11.out BK235.out (by decide)));have n8_:=jM (blk_grown (g:=gb236) (o:=.cells #[.slice none 0 0,.slice none 0 0,.slice none 0 0] 34 (0,0)) (tK BK236.out) hg (Kd.R_ne HO_11.out BK236.out (by decide)));have n9_:=jM (blk_grown (g:=gb241) (o:=.cells #[u242000,u242001,u242002] 34 (0,0)) (tK BK241.out) hg (Kd.R_ne HO_11.out BK241.out (by decide)));have n10_:=jM (blk_grown (g:=gb249) (o:=.cells #[.slice Ao15 t242.length co15,.slice Ao20 t245.length co20] 44 (0,0)) (tK BK249.out) hg (Kd.R_ne HO_11.out BK249.out (by decide)));have n11_:=jM ((by rw [hw];exact jS (jS (HB.out) GB36.out) GB36.out:Below w.heap.size w w40));have nb_:=jM ((by rw [hw];exact jS (jS HBI.out GBI.out) GBI.out:Below wO.heap.size wO w40));clear HBI;have HBI:=nb_;clear nb_ HO_11 HO_29 HO_242000 HO_242001 HO_242002 HO_250000 HO_250001 BK235 BK236 BK241 BK249 HB;have HO_11:=n0_;have HO_29:=n1_;have HO_242000:=n2_;have HO_242001:=n3_;have HO_242002:=n4_;have HO_250000:=n5_;have HO_250001:=n6_;have BK235:=n7_;have BK236:=n8_;have BK241:=n9_;have BK249:=n10_;have HB:=n11_;clear n0_ n1_ n2_ n3_ n4_ n5_ n6_ n7_ n8_ n9_ n10_ n11_;clear hg hw hp_;have hnb41:=NB235_236.out;have hnc41:=NB236_235.out;have hnb42:=NB235_241.out;have hnc42:=NB241_235.out;have hnb43:=NB235_249.out;have hnc43:=NB249_235.out;obtain ⟨hcz44_0,hcz44_1,hcz44_2,hcz44_3,hcz44_4⟩:=jC5 BK235.out;have hfz44_0:=jF BK235.out 0;have hfz44_1:=jF BK235.out 1;have hfz44_2:=jF BK235.out 2;have hfz44_3:=jF BK235.out 3;have hfz44_4:=jF BK235.out 4) | ((with_reducible refine gate_callee (f:=24) rfl ?_);refine goesL_ (some 62) rfl rfl Tryz.func24 (by kernel_rfl) rfl #[.agg #[.slice A0_0 l0_0.length c0_0,.slice A0_1 l0_1.length c0_1,.slice A0_2 l0_2.length c0_2,.slice A0_3 l0_3.length c0_3,.int .i64 a0_4],.int .i64 x41_2] rfl tM ?_;(with_reducible refine (table_bit.calls _ _ l0_0 _ _ l0_1 _ _ l0_2 _ _ l0_3 a0_4 x41_2 t272 _ ?side1 ?side2 ?side3 ?side4 ?side5 ?side6 ?side7 ?side8 A37.out).mono ?_);(case side1=>exact tC (jB HR0_0.out HB.out));(case side2=>exact HC0_0.out);(case side3=>exact tC (jB HR0_1.out HB.out));(case side4=>exact HC0_1.out);(case side5=>exact tC (jB HR0_2.out HB.out));(case side6=>exact HC0_2.out);(case side7=>exact tC (jB HR0_3.out HB.out));(case side8=>exact HC0_3.out);rintro e w45 ⟨rfl,hb⟩;refine ⟨_,rfl, ?_⟩;replace HO_11:=jM (Kd.R_below (tR HO_11.out) hb);replace HO_29:=jM (Kd.N_below (tN HO_29.out) hb);replace HO_242000:=jM (Kd.N_below (tN HO_242000.out) hb);replace HO_242001:=jM (Kd.N_below (tN HO_242001.out) hb);replace HO_242002:=jM (Kd.R_below (tR HO_242002.out) hb);replace HO_250000:=jM (Kd.N_below (tN HO_250000.out) hb);replace HO_250001:=jM (Kd.N_below (tN HO_250001.out) hb);replace BK235:=jM (jW (g:=gb235) (o:=.cells #[.slice A0_0 l0_0.length c0_0,.slice A0_1 l0_1.length c0_1,.slice A0_2 l0_2.length c0_2,.slice A0_3 l0_3.length c0_3,.int .i64 a0_4] 27 (0,0)) (tK BK235.out) hb);replace BK236:=jM (jW (g:=gb236) (o:=.cells #[.slice none 0 0,.slice none 0 0,.slice none 0 0] 34 (0,0)) (tK BK236.out) hb);replace BK241:=jM (jW (g:=gb241) (o:=.cells #[u242000,u242001,u242002] 34 (0,0)) (tK BK241.out) hb);replace BK249:=jM (jW (g:=gb249) (o:=.cells #[.slice Ao15 t242.length co15,.slice Ao20 t245.length co20] 44 (0,0)) (tK BK249.out) hb);replace HB:=jM (jT (tE HB.out) hb);have nb_:=jM (jT (by repeat (first | (with_reducible first | exact HBI.out | apply jA | apply jN | apply jD) | exact HBI.out)) hb);clear HBI;have HBI:=nb_;clear nb_;(try clear hb);(try clear hb2);(try clear hk);(try clear hi)) | ((with_reducible refine gate_callee (f:=15) rfl ?_);refine goesL_ (some 63) rfl rfl Tryz.func15 (by kernel_rfl) rfl #[.int .u64 x12_2,.int .i64 t272] rfl tM ?_;(with_reducible refine (bits_With.calls x12_2 t272 t273 _ A38.out).mono ?_);rintro e w' ⟨rfl,⟨nd,rfl⟩⟩;refine ⟨_,rfl, ?_⟩))
                  go_roundg k2
                  case measure=>have:=HK1.out;have:=HK2.out;omega
                  case rel=>exact ⟨(y271),(t273),(wrap64 (x41_2+1)),tZ,tZ,H',⟨by have:=HK1.out;have:=HK2.out;omega⟩,⟨tR HO_11.out⟩,⟨by (with_reducible repeat (first | apply jn | apply jo | apply jp));exact Kd.N_mono HO_29.out (fun _ hk=>⟨hk.1.1,⟨hk.2,⟨hk.1.2.1,⟨hk.1.2.2.1,⟨hk.1.2.2.2.1,⟨hk.1.2.2.2.2.1,⟨hk.1.2.2.2.2.2.1,⟨hk.1.2.2.2.2.2.2.1,⟨hk.1.2.2.2.2.2.2.2.1,⟨hk.1.2.2.2.2.2.2.2.2.1,hk.1.2.2.2.2.2.2.2.2.2⟩⟩⟩⟩⟩⟩⟩⟩⟩⟩)⟩,⟨by (with_reducible repeat (first | apply jn | apply jo | apply jp));exact Kd.N_mono HO_242000.out (fun _ hk=>⟨hk.1.1,⟨hk.2,⟨hk.1.2.1,⟨hk.1.2.2.1,⟨hk.1.2.2.2.1,⟨hk.1.2.2.2.2.1,⟨hk.1.2.2.2.2.2.1,⟨hk.1.2.2.2.2.2.2.1,⟨hk.1.2.2.2.2.2.2.2.1,⟨hk.1.2.2.2.2.2.2.2.2.1,hk.1.2.2.2.2.2.2.2.2.2⟩⟩⟩⟩⟩⟩⟩⟩⟩⟩)⟩,⟨by (with_reducible repeat (first | apply jn | apply jo | apply jp));exact Kd.N_mono HO_242001.out (fun _ hk=>⟨hk.1.1,⟨hk.2,⟨hk.1.2.1,⟨hk.1.2.2.1,⟨hk.1.2.2.2.1,⟨hk.1.2.2.2.2.1,⟨hk.1.2.2.2.2.2.1,⟨hk.1.2.2.2.2.2.2.1,⟨hk.1.2.2.2.2.2.2.2.1,⟨hk.1.2.2.2.2.2.2.2.2.1,hk.1.2.2.2.2.2.2.2.2.2⟩⟩⟩⟩⟩⟩⟩⟩⟩⟩)⟩,⟨tR HO_242002.out⟩,⟨by (with_reducible repeat (first | apply jn | apply jo | apply jp));exact Kd.N_mono HO_250000.out (fun _ hk=>⟨hk.1.1,⟨hk.2,⟨hk.1.2.1,⟨hk.1.2.2.1,⟨hk.1.2.2.2.1,⟨hk.1.2.2.2.2.1,⟨hk.1.2.2.2.2.2.1,⟨hk.1.2.2.2.2.2.2.1,⟨hk.1.2.2.2.2.2.2.2.1,⟨hk.1.2.2.2.2.2.2.2.2.1,hk.1.2.2.2.2.2.2.2.2.2⟩⟩⟩⟩⟩⟩⟩⟩⟩⟩)⟩,⟨by (with_reducible repeat (first | apply jn | apply jo | apply jp));exact Kd.N_mono HO_250001.out (fun _ hk=>⟨hk.1.1,⟨hk.2,⟨hk.1.2.1,⟨hk.1.2.2.1,⟨hk.1.2.2.2.1,⟨hk.1.2.2.2.2.1,⟨hk.1.2.2.2.2.2.1,⟨hk.1.2.2.2.2.2.2.1,⟨hk.1.2.2.2.2.2.2.2.1,⟨hk.1.2.2.2.2.2.2.2.2.1,hk.1.2.2.2.2.2.2.2.2.2⟩⟩⟩⟩⟩⟩⟩⟩⟩⟩)⟩,⟨tK BK235.out⟩,⟨tK BK236.out⟩,⟨tK BK241.out⟩,⟨tK BK249.out⟩,⟨tE HB.out⟩,⟨(by repeat (first | (with_reducible first | exact HBI.out | apply jA | apply jN | apply jD) | exact HBI.out))⟩⟩
                 ·rw [if_neg c35] at H
                  exact absurd H (by simp)
                ·rw [if_neg c34] at H
                 exact absurd H (by simp)
               ·rw [if_neg c33] at H
                have c33b0:(((rd_L25 (rd_L26 t237 x31_1) x41_2).length:Int) == 1)=false:=beq_eq_false_iff_ne.mpr c33
                have c33b1:(((rd_L25 (rd_L26 t237 x31_1) x41_2).length:Int) != 1)=true:=bne_iff_ne.mpr c33
                simp only [Option.some.injEq,Prod.mk.injEq] at H
                obtain ⟨rfl,rfl,rfl,rfl⟩:=H
                have p269:0≤(x41_2:Int):=of_decide_eq_true tD
                have q269:x41_2 < ((rd_L26 t237 x31_1).length:Int):=of_decide_eq_true tD
                obtain ⟨ad269,A269_0,c269_0,e269,hx269_0,hl269_0,hi269_0⟩:=at_L25 HCI.out x41_2 p269 q269
                cases e269
                replace hx269_0:=(HBI.out.cell (jL wO _ hx269_0)).trans hx269_0
                have HR269_0:=jM hi269_0
                have HC269_0:=jM hl269_0
                clear hi269_0 hl269_0
                replace p269:=eq_true p269
                replace q269:=eq_true q269
                have hnb46:=NB236_235.out
                have hnc46:=NB235_236.out
                have hnb47:=NB236_241.out
                have hnc47:=NB241_236.out
                have hnb48:=NB236_249.out
                have hnc48:=NB249_236.out
                have hcz49_0:wr.cell? ⟨gb236,0,none⟩=some (.slice none 0 0):=(jC BK236.out 0).trans rfl
                have hcz49_1:wr.cell? ⟨gb236,1,none⟩=some (.slice none 0 0):=(jC BK236.out 1).trans rfl
                have hcz49_2:wr.cell? ⟨gb236,2,none⟩=some (.slice none 0 0):=(jC BK236.out 2).trans rfl
                have hfz49_0:=jF BK236.out 0
                have hfz49_1:=jF BK236.out 1
                have hfz49_2:=jF BK236.out 2
                go_wp2
                refine bodyPost_ret (results_ct rfl _ _ gb236 34 #[.slice none 0 0,.slice none 0 0,.slice none 0 0] (0,0) _ rfl (by (with_reducible repeat (first | refine jY ?_ _ | refine jZ ?_ | refine jX ?_ _));refine blk_put (cs:=#[.slice none 0 0,.slice none 0 0,.slice none 0 0]) ?_ 2 _ rfl;(with_reducible repeat (first | refine jY ?_ _ | refine jZ ?_ | refine jX ?_ _));refine blk_put (cs:=#[.slice none 0 0,.slice none 0 0,.slice none 0 0]) ?_ 1 _ rfl;(with_reducible repeat (first | refine jY ?_ _ | refine jZ ?_ | refine jX ?_ _));refine blk_put (cs:=#[.slice none 0 0,.slice none 0 0,.slice none 0 0]) ?_ 0 _ rfl;(with_reducible repeat (first | refine jY ?_ _ | refine jZ ?_ | refine jX ?_ _));exact BK236.out) Tryz.underlying34 rfl (by kernel_rfl)) rfl ?_
                exact ⟨_,_,_,by first | rfl | (simp [errW_none,errW_some] <;> rfl) | (simp [*,errW_none,errW_some] <;> rfl),by first | exact Kd.S_nil _ _ _ _ _ | exact Kd.N_nil _ _ _ _ _ | exact Kd.V_nil _ _ _ _ _ | exact Kd.Q_nil _ _ _ _ _ | exact Kd.R_nil _ _ _ _ _,by first | exact Kd.S_nil _ _ _ _ _ | exact Kd.N_nil _ _ _ _ _ | exact Kd.V_nil _ _ _ _ _ | exact Kd.Q_nil _ _ _ _ _ | exact Kd.R_nil _ _ _ _ _,by first | exact Kd.R_nil _ _ _ _ _ | exact Kd.N_nil _ _ _ _ _ | exact Kd.V_nil _ _ _ _ _ | exact Kd.Q_nil _ _ _ _ _ | exact Kd.S_nil _ _ _ _ _,tE HB.out⟩
             ·rw [if_neg c31] at H
              exact absurd H (by simp)
            ·rw [if_neg c30] at H
             exact absurd H (by simp)
           ·rw [if_neg c29] at H
            have c29b0:decide (x41_2 < ((rd_L26 t237 x31_1).length:Int))=false:=decide_eq_false c29
            clear c29
            by_cases c50:x242000_1.length < 5864062014805
            ·rw [if_pos c50] at H
             have LMc50:=jM c50
             clear c50
             obtain ⟨y254,hy254⟩:∃ y_:List (List (S53)),y_=(x242000_1 ++ [x11_2]):=⟨_,rfl⟩
             replace H:(if 0≤x31_1 then (if x31_1 < (t245.length:Int) then (if 0≤(l0_0.length:Int) then (if (l0_0.length:Int)≤((rd_L17 t245 x31_1).length:Int) then (if x242001_1.length < 5864062014805 then (if x242002_1.length < 17592186044416 then (table_Build.l0 k2 t237 (t237.length:Int) (wrap64 (x31_1+1)) l0_0 l0_1 l0_2 l0_3 a0_4 y254 (x242001_1 ++ [((rd_L17 t245 x31_1).drop ((l0_0.length:Int):Int).toNat)]) (x242002_1 ++ [x12_2]) t242 t245) else (none)) else (none)) else (none)) else (none)) else (none)) else (none))=some (r1,r2,r3,r4):=by first | (rw [hy254];with_reducible exact H) | (have H2_:=(Option.bind_some _ _).symm.trans H;rw [hy254];with_reducible exact H2_) | (have H2_:=(Option.bind_some _ _).symm.trans H;with_reducible exact H2_) | with_reducible exact H | (rw [hy254];exact H) | exact H
             have Ny254:=jM hy254
             clear hy254
             by_cases c51:0≤x31_1
             ·rw [if_pos c51] at H
              have c51b0:decide (0≤x31_1)=true:=decide_eq_true c51
              clear c51
              by_cases c52:x31_1 < (t245.length:Int)
              ·rw [if_pos c52] at H
               have c52b0:decide (x31_1 < (t245.length:Int))=true:=decide_eq_true c52
               clear c52
               by_cases c53:0≤(l0_0.length:Int)
               ·rw [if_pos c53] at H
                have c53b0:=eq_true c53
                have c53b1:decide (0≤(l0_0.length:Int))=true:=decide_eq_true c53
                clear c53
                by_cases c54:(l0_0.length:Int)≤((rd_L17 t245 x31_1).length:Int)
                ·rw [if_pos c54] at H
                 have c54b0:=eq_true c54
                 have c54b1:decide ((l0_0.length:Int)≤((rd_L17 t245 x31_1).length:Int))=true:=decide_eq_true c54
                 clear c54
                 obtain ⟨y258,hy258⟩:∃ y_:List Int,y_=((rd_L17 t245 x31_1).drop ((l0_0.length:Int):Int).toNat):=⟨_,rfl⟩
                 replace H:(if x242001_1.length < 5864062014805 then (if x242002_1.length < 17592186044416 then (table_Build.l0 k2 t237 (t237.length:Int) (wrap64 (x31_1+1)) l0_0 l0_1 l0_2 l0_3 a0_4 y254 (x242001_1 ++ [y258]) (x242002_1 ++ [x12_2]) t242 t245) else (none)) else (none))=some (r1,r2,r3,r4):=by first | (rw [hy258];with_reducible exact H) | (have H2_:=(Option.bind_some _ _).symm.trans H;rw [hy258];with_reducible exact H2_) | (have H2_:=(Option.bind_some _ _).symm.trans H;with_reducible exact H2_) | with_reducible exact H | (rw [hy258];exact H) | exact H
                 have Ny258:=jM hy258
                 clear hy258
                 by_cases c55:x242001_1.length < 5864062014805
                 ·rw [if_pos c55] at H
                  have LMc55:=jM c55
                  clear c55
                  obtain ⟨y263,hy263⟩:∃ y_:List (List Int),y_=(x242001_1 ++ [y258]):=⟨_,rfl⟩
                  replace H:(if x242002_1.length < 17592186044416 then (table_Build.l0 k2 t237 (t237.length:Int) (wrap64 (x31_1+1)) l0_0 l0_1 l0_2 l0_3 a0_4 y254 y263 (x242002_1 ++ [x12_2]) t242 t245) else (none))=some (r1,r2,r3,r4):=by first | (rw [hy263];with_reducible exact H) | (have H2_:=(Option.bind_some _ _).symm.trans H;rw [hy263];with_reducible exact H2_) | (have H2_:=(Option.bind_some _ _).symm.trans H;with_reducible exact H2_) | with_reducible exact H | (rw [hy263];exact H) | exact H
                  have Ny263:=jM hy263
                  clear hy263
                  by_cases c56:x242002_1.length < 17592186044416
                  ·rw [if_pos c56] at H
                   have LMc56:=jM c56
                   clear c56
                   obtain ⟨y266,hy266⟩:∃ y_:List Int,y_=(x242002_1 ++ [x12_2]):=⟨_,rfl⟩
                   replace H:(table_Build.l0 k2 t237 (t237.length:Int) (wrap64 (x31_1+1)) l0_0 l0_1 l0_2 l0_3 a0_4 y254 y263 y266 t242 t245)=some (r1,r2,r3,r4):=by first | (rw [hy266];with_reducible exact H) | (have H2_:=(Option.bind_some _ _).symm.trans H;rw [hy266];with_reducible exact H2_) | (have H2_:=(Option.bind_some _ _).symm.trans H;with_reducible exact H2_) | with_reducible exact H | (rw [hy266];exact H) | exact H
                   have Ny266:=jM hy266
                   clear hy266
                   have H':=jM H
                   clear H
                   have hnb57:=NB241_235.out
                   have hnc57:=NB235_241.out
                   have hnb58:=NB241_236.out
                   have hnc58:=NB236_241.out
                   have hnb59:=NB241_249.out
                   have hnc59:=NB249_241.out
                   have hcz60_0:wr.cell? ⟨gb241,0,none⟩=some (u242000):=(jC BK241.out 0).trans rfl
                   have hcz60_1:wr.cell? ⟨gb241,1,none⟩=some (u242001):=(jC BK241.out 1).trans rfl
                   have hcz60_2:wr.cell? ⟨gb241,2,none⟩=some (u242002):=(jC BK241.out 2).trans rfl
                   have hfz60_0:=jF BK241.out 0
                   have hfz60_1:=jF BK241.out 1
                   have hfz60_2:=jF BK241.out 2
                   obtain ⟨Ao62,co62,eo62⟩:=Kd.R_slice HO_11.out
                   subst eo62
                   try go_wp2_with (first | ((with_reducible refine gate_builtin (b:=.append) (xs:=#[.tmp 66,.tmp 68]) rfl ?_);at_builtin;refine Kd.N_append (Kd.slice 53 k53) (w0:=w) w.heap.size rfl (.tmp 66) (.tmp 68) 30 49 (.slice none 0 0) 24 rfl Tryz.underlying30 info49 rfl (by decide) (by omega) u242000 x242000_1 x11_2 [.slice Ao62 x11_2.length co62] (fun k_=>(w.heap.size≤k_)∧some k_≠(.slice (some ad250) t237.length co21:Value).ownBlock∧some k_≠(u242001:Value).ownBlock∧some k_≠(u242002:Value).ownBlock∧some k_≠(.slice Ao15 t242.length co15:Value).ownBlock∧some k_≠(.slice Ao20 t245.length co20:Value).ownBlock∧k_≠gb235∧k_≠gb236∧k_≠gb241∧k_≠gb249) (fun k_=>((fun k_=>(w.heap.size≤k_)∧some k_≠(.slice (some ad250) t237.length co21:Value).ownBlock∧some k_≠(u242001:Value).ownBlock∧some k_≠(u242002:Value).ownBlock∧some k_≠(.slice Ao15 t242.length co15:Value).ownBlock∧some k_≠(.slice Ao20 t245.length co20:Value).ownBlock∧k_≠gb235∧k_≠gb236∧k_≠gb241∧k_≠gb249)) k_∧some k_≠(u242000:Value).ownBlock) rfl rfl ?aP (fun _ hk=>hk) ?aF ?aO ?aB ?aS ?aL ?_;(case aP=>exact (Kd.FK_slice_mk (Kd.R_reads' (Kd.R_mono (ok':=(fun k_=>((fun k_=>(w.heap.size≤k_)∧some k_≠(.slice (some ad250) t237.length co21:Value).ownBlock∧some k_≠(u242001:Value).ownBlock∧some k_≠(u242002:Value).ownBlock∧some k_≠(.slice Ao15 t242.length co15:Value).ownBlock∧some k_≠(.slice Ao20 t245.length co20:Value).ownBlock∧k_≠gb235∧k_≠gb236∧k_≠gb241∧k_≠gb249)) k_∧some k_≠(u242000:Value).ownBlock)) (Kd.R_types (Kd.R_types (Kd.R_types (Kd.R_types (Kd.R_apart' (Kd.R_apart' (Kd.R_apart' (Kd.R_apart' (Kd.R_apart' (Kd.R_apart' (HO_11.out) (Kd.N_typed HO_29.out) (by decide)) (Kd.N_typed HO_242001.out) (by decide)) (Kd.R_typed HO_242002.out) (by decide)) (Kd.N_typed HO_250000.out) (by decide)) (Kd.N_typed HO_250001.out) (by decide)) (Kd.N_typed HO_242000.out) (by decide)) BK235.out (by decide)) BK236.out (by decide)) BK241.out (by decide)) BK249.out (by decide)) (fun k_ hk=>⟨⟨hk.1.1.1.1.1.1.1.1.1.1,⟨hk.1.1.1.1.1.1.1.1.1.2,⟨hk.1.1.1.1.1.1.1.1.2,⟨hk.1.1.1.1.1.1.1.2,⟨hk.1.1.1.1.1.1.2,⟨hk.1.1.1.1.1.2,⟨hk.1.1.1.2,⟨hk.1.1.2,⟨hk.1.2,hk.2⟩⟩⟩⟩⟩⟩⟩⟩⟩,hk.1.1.1.1.2⟩))).2.1 (Kd.R_F (Kd.R_mono (ok':=(fun k_=>((fun k_=>(w.heap.size≤k_)∧some k_≠(.slice (some ad250) t237.length co21:Value).ownBlock∧some k_≠(u242001:Value).ownBlock∧some k_≠(u242002:Value).ownBlock∧some k_≠(.slice Ao15 t242.length co15:Value).ownBlock∧some k_≠(.slice Ao20 t245.length co20:Value).ownBlock∧k_≠gb235∧k_≠gb236∧k_≠gb241∧k_≠gb249)) k_∧some k_≠(u242000:Value).ownBlock)) (Kd.R_types (Kd.R_types (Kd.R_types (Kd.R_types (Kd.R_apart' (Kd.R_apart' (Kd.R_apart' (Kd.R_apart' (Kd.R_apart' (Kd.R_apart' (HO_11.out) (Kd.N_typed HO_29.out) (by decide)) (Kd.N_typed HO_242001.out) (by decide)) (Kd.R_typed HO_242002.out) (by decide)) (Kd.N_typed HO_250000.out) (by decide)) (Kd.N_typed HO_250001.out) (by decide)) (Kd.N_typed HO_242000.out) (by decide)) BK235.out (by decide)) BK236.out (by decide)) BK241.out (by decide)) BK249.out (by decide)) (fun k_ hk=>⟨⟨hk.1.1.1.1.1.1.1.1.1.1,⟨hk.1.1.1.1.1.1.1.1.1.2,⟨hk.1.1.1.1.1.1.1.1.2,⟨hk.1.1.1.1.1.1.1.2,⟨hk.1.1.1.1.1.1.2,⟨hk.1.1.1.1.1.2,⟨hk.1.1.1.2,⟨hk.1.1.2,⟨hk.1.2,hk.2⟩⟩⟩⟩⟩⟩⟩⟩⟩,hk.1.1.1.1.2⟩)))));(case aB=>exact (tE HB.out));(case aF=>exact (fun k_ hk=>⟨(Nat.le_trans (below_size (tE HB.out)) hk),Kd.fresh' (Kd.N_lt (tN HO_29.out)) k_ hk,Kd.fresh' (Kd.N_lt (tN HO_242001.out)) k_ hk,Kd.fresh' (Kd.R_lt (tR HO_242002.out)) k_ hk,Kd.fresh' (Kd.N_lt (tN HO_250000.out)) k_ hk,Kd.fresh' (Kd.N_lt (tN HO_250001.out)) k_ hk,Kd.freshB (g:=gb235) (o:=.cells #[.slice A0_0 l0_0.length c0_0,.slice A0_1 l0_1.length c0_1,.slice A0_2 l0_2.length c0_2,.slice A0_3 l0_3.length c0_3,.int .i64 a0_4] 27 (0,0)) (tK BK235.out) k_ hk,Kd.freshB (g:=gb236) (o:=.cells #[.slice none 0 0,.slice none 0 0,.slice none 0 0] 34 (0,0)) (tK BK236.out) k_ hk,Kd.freshB (g:=gb241) (o:=.cells #[u242000,u242001,u242002] 34 (0,0)) (tK BK241.out) k_ hk,Kd.freshB (g:=gb249) (o:=.cells #[.slice Ao15 t242.length co15,.slice Ao20 t245.length co20] 44 (0,0)) (tK BK249.out) k_ hk⟩));(case aO=>exact (by (with_reducible repeat (first | apply jn | apply jo | apply jp));exact Kd.N_mono HO_242000.out (fun _ hk=>⟨hk.1,⟨hk.2.2.1,⟨hk.2.2.2.1,⟨hk.2.2.2.2.1,⟨hk.2.2.2.2.2.1,⟨hk.2.2.2.2.2.2.1,⟨hk.2.2.2.2.2.2.2.1,⟨hk.2.2.2.2.2.2.2.2.1,⟨hk.2.2.2.2.2.2.2.2.2.1,hk.2.2.2.2.2.2.2.2.2.2⟩⟩⟩⟩⟩⟩⟩⟩⟩)));(case aS=>exact (below_size (tE HB.out)));(case aL=>have:=LMc50.out;omega);intro v255 w61 ho hb hg hat;rw [← Ny254.out] at ho;replace HO_29:=jM (Kd.N_afterv (ok:=(fun k_=>(w.heap.size≤k_)∧some k_≠(.slice Ao62 x11_2.length co62:Value).ownBlock∧some k_≠(u242001:Value).ownBlock∧some k_≠(u242002:Value).ownBlock∧some k_≠(.slice Ao15 t242.length co15:Value).ownBlock∧some k_≠(.slice Ao20 t245.length co20:Value).ownBlock∧k_≠gb235∧k_≠gb236∧k_≠gb241∧k_≠gb249)) (by (with_reducible repeat (first | apply jn | apply jo | apply jp));exact Kd.N_mono HO_29.out (fun _ hk=>⟨⟨hk.1,⟨hk.2.1,⟨hk.2.2.2.1,⟨hk.2.2.2.2.1,⟨hk.2.2.2.2.2.1,⟨hk.2.2.2.2.2.2.1,⟨hk.2.2.2.2.2.2.2.1,⟨hk.2.2.2.2.2.2.2.2.1,⟨hk.2.2.2.2.2.2.2.2.2.1,hk.2.2.2.2.2.2.2.2.2.2⟩⟩⟩⟩⟩⟩⟩⟩⟩,hk.2.2.1⟩)) hg hat);replace HO_242001:=jM (Kd.N_afterv (ok:=(fun k_=>(w.heap.size≤k_)∧some k_≠(.slice Ao62 x11_2.length co62:Value).ownBlock∧some k_≠(.slice (some ad250) t237.length co21:Value).ownBlock∧some k_≠(u242002:Value).ownBlock∧some k_≠(.slice Ao15 t242.length co15:Value).ownBlock∧some k_≠(.slice Ao20 t245.length co20:Value).ownBlock∧k_≠gb235∧k_≠gb236∧k_≠gb241∧k_≠gb249)) (by (with_reducible repeat (first | apply jn | apply jo | apply jp));exact Kd.N_mono HO_242001.out (fun _ hk=>⟨⟨hk.1,⟨hk.2.1,⟨hk.2.2.1,⟨hk.2.2.2.2.1,⟨hk.2.2.2.2.2.1,⟨hk.2.2.2.2.2.2.1,⟨hk.2.2.2.2.2.2.2.1,⟨hk.2.2.2.2.2.2.2.2.1,⟨hk.2.2.2.2.2.2.2.2.2.1,hk.2.2.2.2.2.2.2.2.2.2⟩⟩⟩⟩⟩⟩⟩⟩⟩,hk.2.2.2.1⟩)) hg hat);replace HO_242002:=jM (Kd.R_over' (tR HO_242002.out) (Kd.N_typed (tN HO_242000.out)) (by decide) hg);replace HO_250000:=jM (Kd.N_afterv (ok:=(fun k_=>(w.heap.size≤k_)∧some k_≠(.slice Ao62 x11_2.length co62:Value).ownBlock∧some k_≠(.slice (some ad250) t237.length co21:Value).ownBlock∧some k_≠(u242001:Value).ownBlock∧some k_≠(u242002:Value).ownBlock∧some k_≠(.slice Ao20 t245.length co20:Value).ownBlock∧k_≠gb235∧k_≠gb236∧k_≠gb241∧k_≠gb249)) (by (with_reducible repeat (first | apply jn | apply jo | apply jp));exact Kd.N_mono HO_250000.out (fun _ hk=>⟨⟨hk.1,⟨hk.2.1,⟨hk.2.2.1,⟨hk.2.2.2.2.1,⟨hk.2.2.2.2.2.1,⟨hk.2.2.2.2.2.2.1,⟨hk.2.2.2.2.2.2.2.1,⟨hk.2.2.2.2.2.2.2.2.1,⟨hk.2.2.2.2.2.2.2.2.2.1,hk.2.2.2.2.2.2.2.2.2.2⟩⟩⟩⟩⟩⟩⟩⟩⟩,hk.2.2.2.1⟩)) hg hat);replace HO_250001:=jM (Kd.N_afterv (ok:=(fun k_=>(w.heap.size≤k_)∧some k_≠(.slice Ao62 x11_2.length co62:Value).ownBlock∧some k_≠(.slice (some ad250) t237.length co21:Value).ownBlock∧some k_≠(u242001:Value).ownBlock∧some k_≠(u242002:Value).ownBlock∧some k_≠(.slice Ao15 t242.length co15:Value).ownBlock∧k_≠gb235∧k_≠gb236∧k_≠gb241∧k_≠gb249)) (by (with_reducible repeat (first | apply jn | apply jo | apply jp));exact Kd.N_mono HO_250001.out (fun _ hk=>⟨⟨hk.1,⟨hk.2.1,⟨hk.2.2.1,⟨hk.2.2.2.2.1,⟨hk.2.2.2.2.2.1,⟨hk.2.2.2.2.2.2.1,⟨hk.2.2.2.2.2.2.2.1,⟨hk.2.2.2.2.2.2.2.2.1,⟨hk.2.2.2.2.2.2.2.2.2.1,hk.2.2.2.2.2.2.2.2.2.2⟩⟩⟩⟩⟩⟩⟩⟩⟩,hk.2.2.2.1⟩)) hg hat);replace BK235:=jM (blk_grown (g:=gb235) (o:=.cells #[.slice A0_0 l0_0.length c0_0,.slice A0_1 l0_1.length c0_1,.slice A0_2 l0_2.length c0_2,.slice A0_3 l0_3.length c0_3,.int .i64 a0_4] 27 (0,0)) (tK BK235.out) hg (Kd.N_ne HO_242000.out BK235.out (by decide)));replace BK236:=jM (blk_grown (g:=gb236) (o:=.cells #[.slice none 0 0,.slice none 0 0,.slice none 0 0] 34 (0,0)) (tK BK236.out) hg (Kd.N_ne HO_242000.out BK236.out (by decide)));replace BK241:=jM (blk_grown (g:=gb241) (o:=.cells #[u242000,u242001,u242002] 34 (0,0)) (tK BK241.out) hg (Kd.N_ne HO_242000.out BK241.out (by decide)));replace BK249:=jM (blk_grown (g:=gb249) (o:=.cells #[.slice Ao15 t242.length co15,.slice Ao20 t245.length co20] 44 (0,0)) (tK BK249.out) hg (Kd.N_ne HO_242000.out BK249.out (by decide)));replace HB:=jM (hb);have HO256:=jM (ho);clear HO_242000 HO_11;clear ho hb hg hat;obtain ⟨Ao63,co63,eo63⟩:=Kd.N_slice HO256.out;subst eo63;obtain ⟨hcz64_0,hcz64_1,hcz64_2⟩:=jC3 BK241.out;have hfz64_0:=jF BK241.out 0;have hfz64_1:=jF BK241.out 1;have hfz64_2:=jF BK241.out 2))
                   have n0_:Aside0 (Kd.N (Kd.slice 49 (Kd.slice 53 k53)) 30 (w61.setCell ⟨gb241,0,none⟩ (.slice Ao63 y254.length co63)) w.heap.size (fun k_=>(w.heap.size≤k_)∧some k_≠(u242001:Value).ownBlock∧some k_≠(u242002:Value).ownBlock∧some k_≠(.slice Ao15 t242.length co15:Value).ownBlock∧some k_≠(.slice Ao20 t245.length co20:Value).ownBlock∧some k_≠(.slice Ao63 y254.length co63:Value).ownBlock∧k_≠gb235∧k_≠gb236∧k_≠gb241∧k_≠gb249) (.slice (some ad250) t237.length co21) t237):=⟨by (with_reducible repeat (first | apply jn | apply jo | apply jp));exact Kd.N_mono (Kd.N_far (p:=⟨gb241,0,none⟩) (Kd.N_mono HO_29.out (fun k_ hk=>(⟨hk,hk.1.2.2.2.2.2.2.2.2.1⟩:_∧k_≠gb241))) (fun _ hk=>hk.2) (.slice Ao63 y254.length co63)) (fun _ hk=>⟨hk.1.1.1,⟨hk.1.1.2.2.1,⟨hk.1.1.2.2.2.1,⟨hk.1.1.2.2.2.2.1,⟨hk.1.1.2.2.2.2.2.1,⟨hk.1.2,⟨hk.1.1.2.2.2.2.2.2.1,⟨hk.1.1.2.2.2.2.2.2.2.1,⟨hk.1.1.2.2.2.2.2.2.2.2.1,hk.1.1.2.2.2.2.2.2.2.2.2⟩⟩⟩⟩⟩⟩⟩⟩⟩)⟩
                   have n1_:Aside0 (Kd.N (Kd.slice 3 (Kd.int .i64)) 50 (w61.setCell ⟨gb241,0,none⟩ (.slice Ao63 y254.length co63)) w.heap.size (fun k_=>(w.heap.size≤k_)∧some k_≠(.slice (some ad250) t237.length co21:Value).ownBlock∧some k_≠(u242002:Value).ownBlock∧some k_≠(.slice Ao15 t242.length co15:Value).ownBlock∧some k_≠(.slice Ao20 t245.length co20:Value).ownBlock∧some k_≠(.slice Ao63 y254.length co63:Value).ownBlock∧k_≠gb235∧k_≠gb236∧k_≠gb241∧k_≠gb249) u242001 x242001_1):=⟨by (with_reducible repeat (first | apply jn | apply jo | apply jp));exact Kd.N_mono (Kd.N_far (p:=⟨gb241,0,none⟩) (Kd.N_mono HO_242001.out (fun k_ hk=>(⟨hk,hk.1.2.2.2.2.2.2.2.2.1⟩:_∧k_≠gb241))) (fun _ hk=>hk.2) (.slice Ao63 y254.length co63)) (fun _ hk=>⟨hk.1.1.1,⟨hk.1.1.2.2.1,⟨hk.1.1.2.2.2.1,⟨hk.1.1.2.2.2.2.1,⟨hk.1.1.2.2.2.2.2.1,⟨hk.1.2,⟨hk.1.1.2.2.2.2.2.2.1,⟨hk.1.1.2.2.2.2.2.2.2.1,⟨hk.1.1.2.2.2.2.2.2.2.2.1,hk.1.1.2.2.2.2.2.2.2.2.2⟩⟩⟩⟩⟩⟩⟩⟩⟩)⟩
                   have n2_:Aside0 (Kd.R (Kd.int .u64) 48 (w61.setCell ⟨gb241,0,none⟩ (.slice Ao63 y254.length co63)) w.heap.size (fun k_=>(w.heap.size≤k_)) u242002 x242002_1):=⟨by (with_reducible repeat (first | apply Kd.R_alloc | apply Kd.R_drewN | apply Kd.R_drew));exact Kd.R_mono (Kd.R_far (p:=⟨gb241,0,none⟩) (Kd.R_types HO_242002.out BK241.out (by decide)) (fun _ hk=>hk.2) (.slice Ao63 y254.length co63)) (fun _ hk=>hk.1)⟩
                   have n3_:Aside0 (Kd.N (Kd.slice 77 k77) 75 (w61.setCell ⟨gb241,0,none⟩ (.slice Ao63 y254.length co63)) w.heap.size (fun k_=>(w.heap.size≤k_)∧some k_≠(.slice (some ad250) t237.length co21:Value).ownBlock∧some k_≠(u242001:Value).ownBlock∧some k_≠(u242002:Value).ownBlock∧some k_≠(.slice Ao20 t245.length co20:Value).ownBlock∧some k_≠(.slice Ao63 y254.length co63:Value).ownBlock∧k_≠gb235∧k_≠gb236∧k_≠gb241∧k_≠gb249) (.slice Ao15 t242.length co15) t242):=⟨by (with_reducible repeat (first | apply jn | apply jo | apply jp));exact Kd.N_mono (Kd.N_far (p:=⟨gb241,0,none⟩) (Kd.N_mono HO_250000.out (fun k_ hk=>(⟨hk,hk.1.2.2.2.2.2.2.2.2.1⟩:_∧k_≠gb241))) (fun _ hk=>hk.2) (.slice Ao63 y254.length co63)) (fun _ hk=>⟨hk.1.1.1,⟨hk.1.1.2.2.1,⟨hk.1.1.2.2.2.1,⟨hk.1.1.2.2.2.2.1,⟨hk.1.1.2.2.2.2.2.1,⟨hk.1.2,⟨hk.1.1.2.2.2.2.2.2.1,⟨hk.1.1.2.2.2.2.2.2.2.1,⟨hk.1.1.2.2.2.2.2.2.2.2.1,hk.1.1.2.2.2.2.2.2.2.2.2⟩⟩⟩⟩⟩⟩⟩⟩⟩)⟩
                   have n4_:Aside0 (Kd.N (Kd.slice 3 (Kd.int .i64)) 50 (w61.setCell ⟨gb241,0,none⟩ (.slice Ao63 y254.length co63)) w.heap.size (fun k_=>(w.heap.size≤k_)∧some k_≠(.slice (some ad250) t237.length co21:Value).ownBlock∧some k_≠(u242001:Value).ownBlock∧some k_≠(u242002:Value).ownBlock∧some k_≠(.slice Ao15 t242.length co15:Value).ownBlock∧some k_≠(.slice Ao63 y254.length co63:Value).ownBlock∧k_≠gb235∧k_≠gb236∧k_≠gb241∧k_≠gb249) (.slice Ao20 t245.length co20) t245):=⟨by (with_reducible repeat (first | apply jn | apply jo | apply jp));exact Kd.N_mono (Kd.N_far (p:=⟨gb241,0,none⟩) (Kd.N_mono HO_250001.out (fun k_ hk=>(⟨hk,hk.1.2.2.2.2.2.2.2.2.1⟩:_∧k_≠gb241))) (fun _ hk=>hk.2) (.slice Ao63 y254.length co63)) (fun _ hk=>⟨hk.1.1.1,⟨hk.1.1.2.2.1,⟨hk.1.1.2.2.2.1,⟨hk.1.1.2.2.2.2.1,⟨hk.1.1.2.2.2.2.2.1,⟨hk.1.2,⟨hk.1.1.2.2.2.2.2.2.1,⟨hk.1.1.2.2.2.2.2.2.2.1,⟨hk.1.1.2.2.2.2.2.2.2.2.1,hk.1.1.2.2.2.2.2.2.2.2.2⟩⟩⟩⟩⟩⟩⟩⟩⟩)⟩
                   have n5_:Aside0 (Kd.N (Kd.slice 53 k53) 49 (w61.setCell ⟨gb241,0,none⟩ (.slice Ao63 y254.length co63)) w.heap.size (fun k_=>(w.heap.size≤k_)∧some k_≠(.slice (some ad250) t237.length co21:Value).ownBlock∧some k_≠(u242001:Value).ownBlock∧some k_≠(u242002:Value).ownBlock∧some k_≠(.slice Ao15 t242.length co15:Value).ownBlock∧some k_≠(.slice Ao20 t245.length co20:Value).ownBlock∧k_≠gb235∧k_≠gb236∧k_≠gb241∧k_≠gb249) (.slice Ao63 y254.length co63) y254):=⟨by (with_reducible repeat (first | apply jn | apply jo | apply jp));exact Kd.N_mono (Kd.N_far (p:=⟨gb241,0,none⟩) (Kd.N_mono HO256.out (fun k_ hk=>(⟨hk,hk.2.2.2.2.2.2.2.2.1⟩:_∧k_≠gb241))) (fun _ hk=>hk.2) (.slice Ao63 y254.length co63)) (fun _ hk=>⟨hk.1.1,⟨hk.1.2.1,⟨hk.1.2.2.1,⟨hk.1.2.2.2.1,⟨hk.1.2.2.2.2.1,⟨hk.1.2.2.2.2.2.1,⟨hk.1.2.2.2.2.2.2.1,⟨hk.1.2.2.2.2.2.2.2.1,⟨hk.1.2.2.2.2.2.2.2.2.1,hk.1.2.2.2.2.2.2.2.2.2⟩⟩⟩⟩⟩⟩⟩⟩⟩)⟩
                   have n6_:Aside0 ((w61.setCell ⟨gb241,0,none⟩ (.slice Ao63 y254.length co63)).heap[gb235]? = some (.cells #[.slice A0_0 l0_0.length c0_0,.slice A0_1 l0_1.length c0_1,.slice A0_2 l0_2.length c0_2,.slice A0_3 l0_3.length c0_3,.int .i64 a0_4] 27 (0,0))):=⟨by (with_reducible repeat (first | refine jY ?_ _ | refine jZ ?_ | refine jX ?_ _));refine blk_far ?_ NB235_241.out _;(with_reducible repeat (first | refine jY ?_ _ | refine jZ ?_ | refine jX ?_ _));exact BK235.out⟩
                   have n7_:Aside0 ((w61.setCell ⟨gb241,0,none⟩ (.slice Ao63 y254.length co63)).heap[gb236]? = some (.cells #[.slice none 0 0,.slice none 0 0,.slice none 0 0] 34 (0,0))):=⟨by (with_reducible repeat (first | refine jY ?_ _ | refine jZ ?_ | refine jX ?_ _));refine blk_far ?_ NB236_241.out _;(with_reducible repeat (first | refine jY ?_ _ | refine jZ ?_ | refine jX ?_ _));exact BK236.out⟩
                   have n8_:Aside0 ((w61.setCell ⟨gb241,0,none⟩ (.slice Ao63 y254.length co63)).heap[gb241]? = some (.cells #[.slice Ao63 y254.length co63,u242001,u242002] 34 (0,0))):=⟨by (with_reducible repeat (first | refine jY ?_ _ | refine jZ ?_ | refine jX ?_ _));refine blk_put (cs:=#[u242000,u242001,u242002]) ?_ 0 _ rfl;(with_reducible repeat (first | refine jY ?_ _ | refine jZ ?_ | refine jX ?_ _));exact BK241.out⟩
                   have n9_:Aside0 ((w61.setCell ⟨gb241,0,none⟩ (.slice Ao63 y254.length co63)).heap[gb249]? = some (.cells #[.slice Ao15 t242.length co15,.slice Ao20 t245.length co20] 44 (0,0))):=⟨by (with_reducible repeat (first | refine jY ?_ _ | refine jZ ?_ | refine jX ?_ _));refine blk_far ?_ NB249_241.out _;(with_reducible repeat (first | refine jY ?_ _ | refine jZ ?_ | refine jX ?_ _));exact BK249.out⟩
                   have n10_:Aside0 (Below w.heap.size w (w61.setCell ⟨gb241,0,none⟩ (.slice Ao63 y254.length co63))):=⟨tE HB.out⟩
                   (try clear HO_29)
                   (try clear HO_242001)
                   (try clear HO_242002)
                   (try clear HO_250000)
                   (try clear HO_250001)
                   (try clear HO256)
                   (try clear BK235)
                   (try clear BK236)
                   (try clear BK241)
                   (try clear BK249)
                   (try clear HB)
                   generalize (w61.setCell ⟨gb241,0,none⟩ (.slice Ao63 y254.length co63))=w65 at n0_ n1_ n2_ n3_ n4_ n5_ n6_ n7_ n8_ n9_ n10_ ⊢
                   have HO_29:=n0_
                   have HO_242001:=n1_
                   have HO_242002:=n2_
                   have HO_250000:=n3_
                   have HO_250001:=n4_
                   have HO256:=n5_
                   have BK235:=n6_
                   have BK236:=n7_
                   have BK241:=n8_
                   have BK249:=n9_
                   have HB:=n10_
                   clear n0_ n1_ n2_ n3_ n4_ n5_ n6_ n7_ n8_ n9_ n10_
                   have n0_:=jM (jp HO_29.out)
                   have n1_:=jM (jp HO_242001.out)
                   have n2_:=jM (Kd.R_drew HO_242002.out)
                   have n3_:=jM (jp HO_250000.out)
                   have n4_:=jM (jp HO_250001.out)
                   have n5_:=jM (jp HO256.out)
                   have n6_:=jM (jZ BK235.out)
                   have n7_:=jM (jZ BK236.out)
                   have n8_:=jM (jZ BK241.out)
                   have n9_:=jM (jZ BK249.out)
                   have n10_:=jM (jD HB.out)
                   clear HO_29 HO_242001 HO_242002 HO_250000 HO_250001 HO256 BK235 BK236 BK241 BK249 HB
                   have HO_29:=n0_
                   have HO_242001:=n1_
                   have HO_242002:=n2_
                   have HO_250000:=n3_
                   have HO_250001:=n4_
                   have HO256:=n5_
                   have BK235:=n6_
                   have BK236:=n7_
                   have BK241:=n8_
                   have BK249:=n9_
                   have HB:=n10_
                   clear n0_ n1_ n2_ n3_ n4_ n5_ n6_ n7_ n8_ n9_ n10_
                   have p257:0≤(x31_1:Int):=of_decide_eq_true tD
                   have q257:x31_1 < (t245.length:Int):=of_decide_eq_true tD
                   obtain ⟨ad257,A257_0,c257_0,e257,hx257_0,hl257_0,hi257_0⟩:=at_L17 (Kd.N_reads' HO_250001.out).2.2 x31_1 p257 q257
                   cases e257
                   obtain ⟨ce257,hce257,hMe257,hcc257⟩:=Kd.N_get HO_250001.out [] x31_1 p257 (by first | exact q257 | exact of_decide_eq_true tD | (have e_:=(Kd.N_reads' HO_250001.out).1;omega))
                   obtain ⟨ua257_0,uc257_0,rfl,ul257_0,ge257_0⟩:=Kd.FK_slice_open hMe257
                   have hv257_0:=hcc257 0 _ rfl
                   rw [Nat.add_zero,show ((Kd.slice 3 (Kd.int .i64))).sz=1 from rfl,Nat.mul_one] at hv257_0
                   replace hv257_0:=Option.some.inj (hv257_0.symm.trans hx257_0)
                   injection hv257_0 with hva_ hvn_ hvc_
                   rw [hva_] at ge257_0
                   rw [hvc_] at ul257_0
                   have HL257_0:=jM (show Kd.V (Kd.int .i64) 3 _ w.heap.size _ _ (rd_L17 t245 x31_1) from Kd.V_mk ul257_0 ge257_0)
                   clear hva_ hvn_ hvc_ ge257_0 ul257_0 hcc257 hce257
                   have HR257_0:=jM hi257_0
                   have HC257_0:=jM hl257_0
                   clear hi257_0 hl257_0
                   replace p257:=eq_true p257
                   replace q257:=eq_true q257
                   have q67:((l0_0.length:Int):Int)≤(((rd_L17 t245 x31_1).length:Int):Int):=of_decide_eq_true tD
                   obtain ⟨i067,hi067,_,hsz67,_⟩:=info_parts info3
                   have hroom67:(rd_L17 t245 x31_1).length≤c257_0:=HC257_0.out
                   have hC67:Kd.F (Kd.int .i64) _ _ A257_0 (rd_L17 t245 x31_1).length (rd_L17 t245 x31_1):=(Kd.V_at (base:=w.heap.size) HL257_0.out).2.2
                   have q067:(0:Int)≤((l0_0.length:Int):Int):=of_decide_eq_true tD
                   have hcut67:=cut_from (P:=Tryz.prog) 50 3 .i64 Tryz.underlying50 hi067 1 hsz67 A257_0 (rd_L17 t245 x31_1).length c257_0 (l0_0.length:Int) q067 q67
                   have hr67:=Kd.F_cut (m:=((l0_0.length:Int):Int).toNat) (c:=c257_0) hC67 (by omega) hroom67
                   obtain ⟨A67,hA67⟩:∃ A1,A1=(if c257_0=((l0_0.length:Int):Int).toNat then A257_0 else (A257_0:Option Addr).map (·.add (((l0_0.length:Int):Int).toNat * 1))):=⟨_,rfl⟩
                   obtain ⟨c67,hc67⟩:∃ c1,c1=c257_0 - ((l0_0.length:Int):Int).toNat:=⟨_,rfl⟩
                   have hy67:y258.length=(rd_L17 t245 x31_1).length - ((l0_0.length:Int):Int).toNat:=(by rw [Ny258.out,List.length_drop] <;> omega)
                   rw [show (rd_L17 t245 x31_1).drop ((l0_0.length:Int):Int).toNat=y258 from Ny258.out.symm] at hr67
                   replace hr67:Kd.F (Kd.int .i64) _ _ A67 y258.length y258:=(by rw [hA67];exact hr67)
                   rw [← hy67,← hA67,← hc67] at hcut67
                   have HO262:=jM (show Kd.V (Kd.int .i64) 3 _ w.heap.size _ (.slice A67 y258.length c67) y258 from Kd.V_mk (by rw [hy67,hc67];exact Nat.sub_le_sub_right hroom67 _) hr67)
                   have HC262:=jM (show y258.length≤c67 from by rw [hy67,hc67];exact Nat.sub_le_sub_right hroom67 _)
                   clear hr67 hC67 hroom67 hi067 hsz67 hc67
                   have KY67:=jM hy67
                   have KA67:=jM hA67
                   clear hy67 hA67
                   replace q67:=eq_true q67
                   refine start_ (n:=15) (S:=fun w'=>w'.cell? ⟨gb241,0,none⟩=some (.slice Ao63 y254.length co63)∧w'.cell? ⟨gb241,1,none⟩=some (u242001)∧w'.cell? ⟨gb241,2,none⟩=some (u242002)∧w'.cell? ⟨gb249,0,none⟩=some (.slice Ao15 t242.length co15)∧w'.cell? ⟨gb249,1,none⟩=some (.slice (some ad257) t245.length co20)∧w'.cell? ⟨gb235,0,none⟩=some (.slice A0_0 l0_0.length c0_0)∧w'.cell? ⟨gb235,1,none⟩=some (.slice A0_1 l0_1.length c0_1)∧w'.cell? ⟨gb235,2,none⟩=some (.slice A0_2 l0_2.length c0_2)∧w'.cell? ⟨gb235,3,none⟩=some (.slice A0_3 l0_3.length c0_3)∧w'.cell? ⟨gb235,4,none⟩=some (.int .i64 a0_4)∧w'.cell? (ad257.add (x31_1).toNat)=some (.slice A257_0 (rd_L17 t245 x31_1).length c257_0)) (ds:=[12,14]) (tf 0 15) (by kernel_rfl) rfl rfl ⟨(jC BK241.out 0).trans rfl,(jC BK241.out 1).trans rfl,(jC BK241.out 2).trans rfl,(jC BK249.out 0).trans rfl,(jC BK249.out 1).trans rfl,(jC BK235.out 0).trans rfl,(jC BK235.out 1).trans rfl,(jC BK235.out 2).trans rfl,(jC BK235.out 3).trans rfl,(jC BK235.out 4).trans rfl,hx257_0⟩ (fun hHeld=>?_);refine with_tabW table_Build.tab22 table_Build.bits22 (fun HT_ HW_=>?_)
                   generalize w65.drew=w66 at HO_29 HO_242001 HO_242002 HO_250000 HO_250001 HO256 BK235 BK236 BK241 BK249 HB HL257_0 HO262 HR257_0 hx257_0 hHeld ⊢
                   refine pU (i:=0) (N:=some 71) (tf 1 14) HT_ ?_
                   refine pU (i:=2) (N:=some 73) #[true,false,true,false,false,false,false,false,false,false,false,false,false,false,false] HT_ ?_
                   refine pU (i:=4) (N:=some 75) #[true,false,true,false,true,false,false,false,false,false,false,false,false,false,false] HT_ ?_
                   refine pU (i:=7) (N:=some 78) #[true,false,true,false,true,false,false,true,false,false,false,false,false,false,false] HT_ ?_
                   refine tU (i:=1) (N:=some 72) #[true,true,true,false,true,false,false,true,false,false,false,false,false,false,false] HT_ HW_ hHeld ?_
                   refine tU (i:=3) (N:=some 74) #[true,true,true,true,true,false,false,true,false,false,false,false,false,false,false] HT_ HW_ hHeld ?_
                   refine pU (i:=5) (N:=some 76) #[true,true,true,true,true,true,false,true,false,false,false,false,false,false,false] HT_ ?_
                   refine tU (i:=6) (N:=some 77) (tf 8 7) HT_ HW_ hHeld ?_
                   refine tU (i:=8) (N:=some 79) (tf 9 6) HT_ HW_ hHeld ?_
                   refine pU (i:=9) (N:=some 80) (tf 10 5) HT_ ?_
                   refine pU (i:=10) (N:=some 81) (tf 11 4) HT_ ?_
                   refine one_ (i:=11) (N:=some 82) (tf 12 3) rfl rfl (one_of HT_.out (by kernel_rfl)) (by decide) (fun K hK=>?_)
                   refine value_ (w1:=?_) (v:=?_) (by rfl) rfl ?_ ?_
                   rotate_left 2
                   ·go_simp
                    constructor
                    ·rfl
                    ·rfl
                   refine hK.out _ _ ⟨(jC (jX BK241.out _) 0).trans rfl,(jC (jX BK241.out _) 1).trans rfl,(jC (jX BK241.out _) 2).trans rfl,(jC (jX BK249.out _) 0).trans rfl,(jC (jX BK249.out _) 1).trans rfl,(jC (jX BK235.out _) 0).trans rfl,(jC (jX BK235.out _) 1).trans rfl,(jC (jX BK235.out _) 2).trans rfl,(jC (jX BK235.out _) 3).trans rfl,(jC (jX BK235.out _) 4).trans rfl,(World.cell?_alloc_lt _ _ _ (jL _ _ (hHeld.2.2.2.2.2.2.2.2.2.2))).trans (hHeld.2.2.2.2.2.2.2.2.2.2)⟩ (fun hHeld=>?_)
                   clear hK K
                   refine nU (N:=some 82) ?_
                   refine last_ (i:=12) (N:=some 83) (tf 13 2) rfl rfl (one_of HT_.out (by kernel_rfl)) (by decide) (fun K hK=>?_)
                   refine Kd.N_append_step (Kd.slice 3 (Kd.int .i64)) (w0:=w) w.heap.size (by rfl) (.tmp 72) (.tmp 82) 31 50 (.slice none 0 0) 24 rfl Tryz.underlying31 info50 rfl (by decide) (by omega) u242001 x242001_1 y258 [.slice A67 y258.length c67] (fun k_=>(w.heap.size≤k_)∧some k_≠(.slice (some ad250) t237.length co21:Value).ownBlock∧some k_≠(u242002:Value).ownBlock∧some k_≠(.slice Ao15 t242.length co15:Value).ownBlock∧some k_≠(.slice (some ad257) t245.length co20:Value).ownBlock∧some k_≠(.slice Ao63 y254.length co63:Value).ownBlock∧k_≠gb235∧k_≠gb236∧k_≠gb241∧k_≠gb249) (fun k_=>((fun k_=>(w.heap.size≤k_)∧some k_≠(.slice (some ad250) t237.length co21:Value).ownBlock∧some k_≠(u242002:Value).ownBlock∧some k_≠(.slice Ao15 t242.length co15:Value).ownBlock∧some k_≠(.slice (some ad257) t245.length co20:Value).ownBlock∧some k_≠(.slice Ao63 y254.length co63:Value).ownBlock∧k_≠gb235∧k_≠gb236∧k_≠gb241∧k_≠gb249)) k_∧some k_≠(u242001:Value).ownBlock) rfl rfl ?aP (fun _ hk=>hk) ?aF ?aO ?aB ?aS ?aL ?_
                   (case aP=>exact (Kd.FK_slice_mk (Kd.V_reads' (Kd.V_mono (ok':=(fun k_=>((fun k_=>(w.heap.size≤k_)∧some k_≠(.slice (some ad250) t237.length co21:Value).ownBlock∧some k_≠(u242002:Value).ownBlock∧some k_≠(.slice Ao15 t242.length co15:Value).ownBlock∧some k_≠(.slice (some ad257) t245.length co20:Value).ownBlock∧some k_≠(.slice Ao63 y254.length co63:Value).ownBlock∧k_≠gb235∧k_≠gb236∧k_≠gb241∧k_≠gb249)) k_∧some k_≠(u242001:Value).ownBlock)) (HO262.out) (fun k_ hk=>⟨⟨hk.1.1,⟨hk.1.2.1,⟨hk.1.2.2.2.1,⟨hk.1.2.2.2.2.1,⟨hk.2,⟨hk.1.2.2.2.2.2.1,⟨hk.1.2.2.2.2.2.2.1,⟨hk.1.2.2.2.2.2.2.2.1,⟨hk.1.2.2.2.2.2.2.2.2.1,hk.1.2.2.2.2.2.2.2.2.2⟩⟩⟩⟩⟩⟩⟩⟩⟩,hk.1.2.2.1⟩))).2.1 (Kd.V_F (Kd.V_mono (ok':=(fun k_=>((fun k_=>(w.heap.size≤k_)∧some k_≠(.slice (some ad250) t237.length co21:Value).ownBlock∧some k_≠(u242002:Value).ownBlock∧some k_≠(.slice Ao15 t242.length co15:Value).ownBlock∧some k_≠(.slice (some ad257) t245.length co20:Value).ownBlock∧some k_≠(.slice Ao63 y254.length co63:Value).ownBlock∧k_≠gb235∧k_≠gb236∧k_≠gb241∧k_≠gb249)) k_∧some k_≠(u242001:Value).ownBlock)) (HO262.out) (fun k_ hk=>⟨⟨hk.1.1,⟨hk.1.2.1,⟨hk.1.2.2.2.1,⟨hk.1.2.2.2.2.1,⟨hk.2,⟨hk.1.2.2.2.2.2.1,⟨hk.1.2.2.2.2.2.2.1,⟨hk.1.2.2.2.2.2.2.2.1,⟨hk.1.2.2.2.2.2.2.2.2.1,hk.1.2.2.2.2.2.2.2.2.2⟩⟩⟩⟩⟩⟩⟩⟩⟩,hk.1.2.2.1⟩)))))
                   (case aB=>exact (tE HB.out))
                   (case aF=>exact (fun k_ hk=>⟨(Nat.le_trans (below_size (tE HB.out)) hk),Kd.fresh' (Kd.N_lt (tN HO_29.out)) k_ hk,Kd.fresh' (Kd.R_lt (tR HO_242002.out)) k_ hk,Kd.fresh' (Kd.N_lt (tN HO_250000.out)) k_ hk,Kd.fresh' (Kd.N_lt (tN HO_250001.out)) k_ hk,Kd.fresh' (Kd.N_lt (tN HO256.out)) k_ hk,Kd.freshB (g:=gb235) (o:=.cells #[.slice A0_0 l0_0.length c0_0,.slice A0_1 l0_1.length c0_1,.slice A0_2 l0_2.length c0_2,.slice A0_3 l0_3.length c0_3,.int .i64 a0_4] 27 (0,0)) (tK BK235.out) k_ hk,Kd.freshB (g:=gb236) (o:=.cells #[.slice none 0 0,.slice none 0 0,.slice none 0 0] 34 (0,0)) (tK BK236.out) k_ hk,Kd.freshB (g:=gb241) (o:=.cells #[.slice Ao63 y254.length co63,u242001,u242002] 34 (0,0)) (tK BK241.out) k_ hk,Kd.freshB (g:=gb249) (o:=.cells #[.slice Ao15 t242.length co15,.slice (some ad257) t245.length co20] 44 (0,0)) (tK BK249.out) k_ hk⟩))
                   (case aO=>exact (tN HO_242001.out))
                   (case aS=>exact (below_size (tE HB.out)))
                   (case aL=>have:=LMc55.out;omega)
                   intro v264 w68 ho hb hg hat
                   rw [← Ny263.out] at ho
                   have n0_:=jM (Kd.N_afterv (ok:=(fun k_=>(w.heap.size≤k_)∧some k_≠(u242002:Value).ownBlock∧some k_≠(.slice Ao15 t242.length co15:Value).ownBlock∧some k_≠(.slice (some ad257) t245.length co20:Value).ownBlock∧some k_≠(.slice Ao63 y254.length co63:Value).ownBlock∧k_≠gb235∧k_≠gb236∧k_≠gb241∧k_≠gb249)) (by (with_reducible repeat (first | apply jn | apply jo | apply jp));exact Kd.N_mono HO_29.out (fun _ hk=>⟨⟨hk.1,⟨hk.2.2.1,⟨hk.2.2.2.1,⟨hk.2.2.2.2.1,⟨hk.2.2.2.2.2.1,⟨hk.2.2.2.2.2.2.1,⟨hk.2.2.2.2.2.2.2.1,⟨hk.2.2.2.2.2.2.2.2.1,hk.2.2.2.2.2.2.2.2.2⟩⟩⟩⟩⟩⟩⟩⟩,hk.2.1⟩)) hg hat)
                   have n1_:=jM (Kd.R_over' (tR HO_242002.out) (Kd.N_typed (tN HO_242001.out)) (by decide) hg)
                   have n2_:=jM (Kd.N_afterv (ok:=(fun k_=>(w.heap.size≤k_)∧some k_≠(.slice (some ad250) t237.length co21:Value).ownBlock∧some k_≠(u242002:Value).ownBlock∧some k_≠(.slice (some ad257) t245.length co20:Value).ownBlock∧some k_≠(.slice Ao63 y254.length co63:Value).ownBlock∧k_≠gb235∧k_≠gb236∧k_≠gb241∧k_≠gb249)) (by (with_reducible repeat (first | apply jn | apply jo | apply jp));exact Kd.N_mono HO_250000.out (fun _ hk=>⟨⟨hk.1,⟨hk.2.1,⟨hk.2.2.2.1,⟨hk.2.2.2.2.1,⟨hk.2.2.2.2.2.1,⟨hk.2.2.2.2.2.2.1,⟨hk.2.2.2.2.2.2.2.1,⟨hk.2.2.2.2.2.2.2.2.1,hk.2.2.2.2.2.2.2.2.2⟩⟩⟩⟩⟩⟩⟩⟩,hk.2.2.1⟩)) hg hat)
                   have n3_:=jM (Kd.N_afterv (ok:=(fun k_=>(w.heap.size≤k_)∧some k_≠(.slice (some ad250) t237.length co21:Value).ownBlock∧some k_≠(u242002:Value).ownBlock∧some k_≠(.slice Ao15 t242.length co15:Value).ownBlock∧some k_≠(.slice Ao63 y254.length co63:Value).ownBlock∧k_≠gb235∧k_≠gb236∧k_≠gb241∧k_≠gb249)) (by (with_reducible repeat (first | apply jn | apply jo | apply jp));exact Kd.N_mono HO_250001.out (fun _ hk=>⟨⟨hk.1,⟨hk.2.1,⟨hk.2.2.2.1,⟨hk.2.2.2.2.1,⟨hk.2.2.2.2.2.1,⟨hk.2.2.2.2.2.2.1,⟨hk.2.2.2.2.2.2.2.1,⟨hk.2.2.2.2.2.2.2.2.1,hk.2.2.2.2.2.2.2.2.2⟩⟩⟩⟩⟩⟩⟩⟩,hk.2.2.1⟩)) hg hat)
                   have n4_:=jM (blk_grown (g:=gb235) (o:=.cells #[.slice A0_0 l0_0.length c0_0,.slice A0_1 l0_1.length c0_1,.slice A0_2 l0_2.length c0_2,.slice A0_3 l0_3.length c0_3,.int .i64 a0_4] 27 (0,0)) (tK BK235.out) hg (Kd.N_ne HO_242001.out BK235.out (by decide)))
                   have n5_:=jM (blk_grown (g:=gb236) (o:=.cells #[.slice none 0 0,.slice none 0 0,.slice none 0 0] 34 (0,0)) (tK BK236.out) hg (Kd.N_ne HO_242001.out BK236.out (by decide)))
                   have n6_:=jM (blk_grown (g:=gb241) (o:=.cells #[.slice Ao63 y254.length co63,u242001,u242002] 34 (0,0)) (tK BK241.out) hg (Kd.N_ne HO_242001.out BK241.out (by decide)))
                   have n7_:=jM (blk_grown (g:=gb249) (o:=.cells #[.slice Ao15 t242.length co15,.slice (some ad257) t245.length co20] 44 (0,0)) (tK BK249.out) hg (Kd.N_ne HO_242001.out BK249.out (by decide)))
                   have n8_:=jM (Kd.N_afterv (ok:=(fun k_=>(w.heap.size≤k_)∧some k_≠(.slice (some ad250) t237.length co21:Value).ownBlock∧some k_≠(u242002:Value).ownBlock∧some k_≠(.slice Ao15 t242.length co15:Value).ownBlock∧some k_≠(.slice (some ad257) t245.length co20:Value).ownBlock∧k_≠gb235∧k_≠gb236∧k_≠gb241∧k_≠gb249)) (by (with_reducible repeat (first | apply jn | apply jo | apply jp));exact Kd.N_mono HO256.out (fun _ hk=>⟨⟨hk.1,⟨hk.2.1,⟨hk.2.2.2.1,⟨hk.2.2.2.2.1,⟨hk.2.2.2.2.2.1,⟨hk.2.2.2.2.2.2.1,⟨hk.2.2.2.2.2.2.2.1,⟨hk.2.2.2.2.2.2.2.2.1,hk.2.2.2.2.2.2.2.2.2⟩⟩⟩⟩⟩⟩⟩⟩,hk.2.2.1⟩)) hg hat)
                   have n9_:=jM (Kd.V_afterv (ok:=(fun k_=>(w.heap.size≤k_)∧some k_≠(.slice (some ad250) t237.length co21:Value).ownBlock∧some k_≠(u242002:Value).ownBlock∧some k_≠(.slice Ao15 t242.length co15:Value).ownBlock∧some k_≠(.slice (some ad257) t245.length co20:Value).ownBlock∧some k_≠(.slice Ao63 y254.length co63:Value).ownBlock∧k_≠gb235∧k_≠gb236∧k_≠gb241∧k_≠gb249)) (by (with_reducible repeat (first | apply jt | apply ju | apply jv));exact Kd.V_mono HL257_0.out (fun _ hk=>⟨⟨hk.1.1,⟨hk.1.2.1,⟨hk.1.2.2.2.1,⟨hk.1.2.2.2.2.1,⟨hk.2,⟨hk.1.2.2.2.2.2.1,⟨hk.1.2.2.2.2.2.2.1,⟨hk.1.2.2.2.2.2.2.2.1,⟨hk.1.2.2.2.2.2.2.2.2.1,hk.1.2.2.2.2.2.2.2.2.2⟩⟩⟩⟩⟩⟩⟩⟩⟩,hk.1.2.2.1⟩)) hg hat)
                   have n10_:=jM (Kd.V_afterv (ok:=(fun k_=>(w.heap.size≤k_)∧some k_≠(.slice (some ad250) t237.length co21:Value).ownBlock∧some k_≠(u242002:Value).ownBlock∧some k_≠(.slice Ao15 t242.length co15:Value).ownBlock∧some k_≠(.slice (some ad257) t245.length co20:Value).ownBlock∧some k_≠(.slice Ao63 y254.length co63:Value).ownBlock∧k_≠gb235∧k_≠gb236∧k_≠gb241∧k_≠gb249)) (by (with_reducible repeat (first | apply jt | apply ju | apply jv));exact Kd.V_mono HO262.out (fun _ hk=>⟨⟨hk.1.1,⟨hk.1.2.1,⟨hk.1.2.2.2.1,⟨hk.1.2.2.2.2.1,⟨hk.2,⟨hk.1.2.2.2.2.2.1,⟨hk.1.2.2.2.2.2.2.1,⟨hk.1.2.2.2.2.2.2.2.1,⟨hk.1.2.2.2.2.2.2.2.2.1,hk.1.2.2.2.2.2.2.2.2.2⟩⟩⟩⟩⟩⟩⟩⟩⟩,hk.1.2.2.1⟩)) hg hat)
                   have n11_:=jM (hb)
                   have n12_:=jM (ho)
                   clear HO_29 HO_242002 HO_250000 HO_250001 BK235 BK236 BK241 BK249 HO256 HL257_0 HO262 HB HO_242001
                   have HO_29:=n0_
                   have HO_242002:=n1_
                   have HO_250000:=n2_
                   have HO_250001:=n3_
                   have BK235:=n4_
                   have BK236:=n5_
                   have BK241:=n6_
                   have BK249:=n7_
                   have HO256:=n8_
                   have HL257_0:=n9_
                   have HO262:=n10_
                   have HB:=n11_
                   have HO265:=n12_
                   clear n0_ n1_ n2_ n3_ n4_ n5_ n6_ n7_ n8_ n9_ n10_ n11_ n12_ ho hb hg hat
                   obtain ⟨Ao69,co69,eo69⟩:=Kd.N_slice HO265.out
                   (first | subst eo69 | (injection eo69 with f1_ f2_ f3_;have f4_:=f1_.symm;have f5_:=f3_.symm;clear f1_ f2_ f3_;subst f4_;subst f5_))
                   refine hK.out _ _ ?_
                   clear hK K
                   refine nU (N:=some 83) ?_
                   refine pU (i:=13) (N:=some 84) (tf 14 1) HT_ ?_
                   refine last_ (i:=14) (N:=none) (tf 15 0) rfl rfl (one_of HT_.out (by kernel_rfl)) (by decide) (fun K hK=>?_)
                   have hs70:w68.cell? ⟨gb241,1,none⟩=some (u242001):=(jC BK241.out 1).trans rfl
                   have hfs70:=jF BK241.out 1
                   have hns70_0:=NB235_241.out
                   have hns70_1:=NB236_241.out
                   have hns70_3:=NB249_241.out
                   have hms70_0:=NB241_235.out
                   have hms70_1:=NB241_236.out
                   have hms70_3:=NB241_249.out
                   refine skip_ (w1:=?_) (by rfl) rfl ?_ ?_
                   rotate_left
                   ·go_simp
                    rfl
                   refine hK.out _ _ ?_
                   clear hK K
                   refine done_ (done_of HT_.out (by kernel_rfl)) ?_
                   have hcz71_0:w68.cell? ⟨gb241,0,none⟩=some (.slice Ao63 y254.length co63):=(jC BK241.out 0).trans rfl
                   have hcz71_1:w68.cell? ⟨gb241,1,none⟩=some (u242001):=(jC BK241.out 1).trans rfl
                   have hcz71_2:w68.cell? ⟨gb241,2,none⟩=some (u242002):=(jC BK241.out 2).trans rfl
                   have hfz71_0:=jF BK241.out 0
                   have hfz71_1:=jF BK241.out 1
                   have hfz71_2:=jF BK241.out 2
                   try go_wp2_with (first | ((with_reducible refine gate_builtin (b:=.append) (xs:=#[.tmp 86,.tmp 88]) rfl ?_);at_builtin;refine Kd.R_append (Kd.int .u64) (w0:=w) w.heap.size rfl (.tmp 86) (.tmp 88) 32 48 (.int .u64 0) 8 rfl Tryz.underlying32 info48 rfl (by decide) (by omega) u242002 x242002_1 x12_2 [.int .u64 x12_2] (fun k_=>(w.heap.size≤k_)) (fun _=>False) rfl (by first | (go_simp;done) | (go_simp;rfl)) ?aP (fun _ hk=>hk.elim) ?aF ?aO ?aB ?aS ?aL ?_;(case aP=>exact rfl);(case aB=>exact (tE HB.out));(case aF=>exact (fun k_ hk=>(Nat.le_trans (below_size (tE HB.out)) hk)));(case aO=>exact (by (with_reducible repeat (first | apply Kd.R_alloc | apply Kd.R_drewN | apply Kd.R_drew));exact Kd.R_mono (Kd.R_far (p:=⟨gb241,1,none⟩) (Kd.R_types HO_242002.out BK241.out (by decide)) (fun _ hk=>hk.2) (.slice Ao69 y263.length co69)) (fun _ hk=>hk.1)));(case aS=>exact (below_size (tE HB.out)));(case aL=>have:=LMc56.out;omega);intro v267 w72 ho hb hg hat;rw [← Ny266.out] at ho;replace HO_29:=jM (Kd.N_afterv (ok:=(fun k_=>(w.heap.size≤k_)∧some k_≠(.slice Ao15 t242.length co15:Value).ownBlock∧some k_≠(.slice (some ad257) t245.length co20:Value).ownBlock∧some k_≠(.slice Ao63 y254.length co63:Value).ownBlock∧some k_≠(.slice Ao69 y263.length co69:Value).ownBlock∧k_≠gb235∧k_≠gb236∧k_≠gb241∧k_≠gb249)) (by (with_reducible repeat (first | apply jn | apply jo | apply jp));exact Kd.N_mono (Kd.N_far (p:=⟨gb241,1,none⟩) (Kd.N_mono HO_29.out (fun k_ hk=>(⟨hk,hk.1.2.2.2.2.2.2.2.1⟩:_∧k_≠gb241))) (fun _ hk=>hk.2) (.slice Ao69 y263.length co69)) (fun _ hk=>⟨⟨hk.1.1.1,⟨hk.1.1.2.2.1,⟨hk.1.1.2.2.2.1,⟨hk.1.1.2.2.2.2.1,⟨hk.1.2,⟨hk.1.1.2.2.2.2.2.1,⟨hk.1.1.2.2.2.2.2.2.1,⟨hk.1.1.2.2.2.2.2.2.2.1,hk.1.1.2.2.2.2.2.2.2.2⟩⟩⟩⟩⟩⟩⟩⟩,hk.1.1.2.1⟩)) hg hat);replace HO_250000:=jM (Kd.N_afterv (ok:=(fun k_=>(w.heap.size≤k_)∧some k_≠(.slice (some ad250) t237.length co21:Value).ownBlock∧some k_≠(.slice (some ad257) t245.length co20:Value).ownBlock∧some k_≠(.slice Ao63 y254.length co63:Value).ownBlock∧some k_≠(.slice Ao69 y263.length co69:Value).ownBlock∧k_≠gb235∧k_≠gb236∧k_≠gb241∧k_≠gb249)) (by (with_reducible repeat (first | apply jn | apply jo | apply jp));exact Kd.N_mono (Kd.N_far (p:=⟨gb241,1,none⟩) (Kd.N_mono HO_250000.out (fun k_ hk=>(⟨hk,hk.1.2.2.2.2.2.2.2.1⟩:_∧k_≠gb241))) (fun _ hk=>hk.2) (.slice Ao69 y263.length co69)) (fun _ hk=>⟨⟨hk.1.1.1,⟨hk.1.1.2.1,⟨hk.1.1.2.2.2.1,⟨hk.1.1.2.2.2.2.1,⟨hk.1.2,⟨hk.1.1.2.2.2.2.2.1,⟨hk.1.1.2.2.2.2.2.2.1,⟨hk.1.1.2.2.2.2.2.2.2.1,hk.1.1.2.2.2.2.2.2.2.2⟩⟩⟩⟩⟩⟩⟩⟩,hk.1.1.2.2.1⟩)) hg hat);replace HO_250001:=jM (Kd.N_afterv (ok:=(fun k_=>(w.heap.size≤k_)∧some k_≠(.slice (some ad250) t237.length co21:Value).ownBlock∧some k_≠(.slice Ao15 t242.length co15:Value).ownBlock∧some k_≠(.slice Ao63 y254.length co63:Value).ownBlock∧some k_≠(.slice Ao69 y263.length co69:Value).ownBlock∧k_≠gb235∧k_≠gb236∧k_≠gb241∧k_≠gb249)) (by (with_reducible repeat (first | apply jn | apply jo | apply jp));exact Kd.N_mono (Kd.N_far (p:=⟨gb241,1,none⟩) (Kd.N_mono HO_250001.out (fun k_ hk=>(⟨hk,hk.1.2.2.2.2.2.2.2.1⟩:_∧k_≠gb241))) (fun _ hk=>hk.2) (.slice Ao69 y263.length co69)) (fun _ hk=>⟨⟨hk.1.1.1,⟨hk.1.1.2.1,⟨hk.1.1.2.2.2.1,⟨hk.1.1.2.2.2.2.1,⟨hk.1.2,⟨hk.1.1.2.2.2.2.2.1,⟨hk.1.1.2.2.2.2.2.2.1,⟨hk.1.1.2.2.2.2.2.2.2.1,hk.1.1.2.2.2.2.2.2.2.2⟩⟩⟩⟩⟩⟩⟩⟩,hk.1.1.2.2.1⟩)) hg hat);replace BK235:=jM (blk_grown (g:=gb235) (o:=.cells #[.slice A0_0 l0_0.length c0_0,.slice A0_1 l0_1.length c0_1,.slice A0_2 l0_2.length c0_2,.slice A0_3 l0_3.length c0_3,.int .i64 a0_4] 27 (0,0)) (by (with_reducible repeat (first | refine jY ?_ _ | refine jZ ?_ | refine jX ?_ _));refine blk_far ?_ NB235_241.out _;(with_reducible repeat (first | refine jY ?_ _ | refine jZ ?_ | refine jX ?_ _));exact BK235.out) hg (Kd.R_ne HO_242002.out BK235.out (by decide)));replace BK236:=jM (blk_grown (g:=gb236) (o:=.cells #[.slice none 0 0,.slice none 0 0,.slice none 0 0] 34 (0,0)) (by (with_reducible repeat (first | refine jY ?_ _ | refine jZ ?_ | refine jX ?_ _));refine blk_far ?_ NB236_241.out _;(with_reducible repeat (first | refine jY ?_ _ | refine jZ ?_ | refine jX ?_ _));exact BK236.out) hg (Kd.R_ne HO_242002.out BK236.out (by decide)));replace BK241:=jM (blk_grown (g:=gb241) (o:=.cells #[.slice Ao63 y254.length co63,.slice Ao69 y263.length co69,u242002] 34 (0,0)) (by (with_reducible repeat (first | refine jY ?_ _ | refine jZ ?_ | refine jX ?_ _));refine blk_put (cs:=#[.slice Ao63 y254.length co63,u242001,u242002]) ?_ 1 _ rfl;(with_reducible repeat (first | refine jY ?_ _ | refine jZ ?_ | refine jX ?_ _));exact BK241.out) hg (Kd.R_ne HO_242002.out BK241.out (by decide)));replace BK249:=jM (blk_grown (g:=gb249) (o:=.cells #[.slice Ao15 t242.length co15,.slice (some ad257) t245.length co20] 44 (0,0)) (by (with_reducible repeat (first | refine jY ?_ _ | refine jZ ?_ | refine jX ?_ _));refine blk_far ?_ NB249_241.out _;(with_reducible repeat (first | refine jY ?_ _ | refine jZ ?_ | refine jX ?_ _));exact BK249.out) hg (Kd.R_ne HO_242002.out BK249.out (by decide)));replace HO256:=jM (Kd.N_afterv (ok:=(fun k_=>(w.heap.size≤k_)∧some k_≠(.slice (some ad250) t237.length co21:Value).ownBlock∧some k_≠(.slice Ao15 t242.length co15:Value).ownBlock∧some k_≠(.slice (some ad257) t245.length co20:Value).ownBlock∧some k_≠(.slice Ao69 y263.length co69:Value).ownBlock∧k_≠gb235∧k_≠gb236∧k_≠gb241∧k_≠gb249)) (by (with_reducible repeat (first | apply jn | apply jo | apply jp));exact Kd.N_mono (Kd.N_far (p:=⟨gb241,1,none⟩) (Kd.N_mono HO256.out (fun k_ hk=>(⟨hk,hk.1.2.2.2.2.2.2.2.1⟩:_∧k_≠gb241))) (fun _ hk=>hk.2) (.slice Ao69 y263.length co69)) (fun _ hk=>⟨⟨hk.1.1.1,⟨hk.1.1.2.1,⟨hk.1.1.2.2.2.1,⟨hk.1.1.2.2.2.2.1,⟨hk.1.2,⟨hk.1.1.2.2.2.2.2.1,⟨hk.1.1.2.2.2.2.2.2.1,⟨hk.1.1.2.2.2.2.2.2.2.1,hk.1.1.2.2.2.2.2.2.2.2⟩⟩⟩⟩⟩⟩⟩⟩,hk.1.1.2.2.1⟩)) hg hat);replace HL257_0:=jM (Kd.V_afterv (ok:=(fun k_=>(w.heap.size≤k_)∧some k_≠(.slice (some ad250) t237.length co21:Value).ownBlock∧some k_≠(.slice Ao15 t242.length co15:Value).ownBlock∧some k_≠(.slice (some ad257) t245.length co20:Value).ownBlock∧some k_≠(.slice Ao63 y254.length co63:Value).ownBlock∧some k_≠(.slice Ao69 y263.length co69:Value).ownBlock∧k_≠gb235∧k_≠gb236∧k_≠gb241∧k_≠gb249)) (by (with_reducible repeat (first | apply jt | apply ju | apply jv));exact Kd.V_mono (Kd.V_far (p:=⟨gb241,1,none⟩) (Kd.V_mono HL257_0.out (fun k_ hk=>(⟨hk,hk.1.2.2.2.2.2.2.2.2.1⟩:_∧k_≠gb241))) (fun _ hk=>hk.2) (.slice Ao69 y263.length co69)) (fun _ hk=>⟨⟨hk.1.1.1,⟨hk.1.1.2.1,⟨hk.1.1.2.2.2.1,⟨hk.1.1.2.2.2.2.1,⟨hk.1.1.2.2.2.2.2.1,⟨hk.1.2,⟨hk.1.1.2.2.2.2.2.2.1,⟨hk.1.1.2.2.2.2.2.2.2.1,⟨hk.1.1.2.2.2.2.2.2.2.2.1,hk.1.1.2.2.2.2.2.2.2.2.2⟩⟩⟩⟩⟩⟩⟩⟩⟩,hk.1.1.2.2.1⟩)) hg hat);replace HO262:=jM (Kd.V_afterv (ok:=(fun k_=>(w.heap.size≤k_)∧some k_≠(.slice (some ad250) t237.length co21:Value).ownBlock∧some k_≠(.slice Ao15 t242.length co15:Value).ownBlock∧some k_≠(.slice (some ad257) t245.length co20:Value).ownBlock∧some k_≠(.slice Ao63 y254.length co63:Value).ownBlock∧some k_≠(.slice Ao69 y263.length co69:Value).ownBlock∧k_≠gb235∧k_≠gb236∧k_≠gb241∧k_≠gb249)) (by (with_reducible repeat (first | apply jt | apply ju | apply jv));exact Kd.V_mono (Kd.V_far (p:=⟨gb241,1,none⟩) (Kd.V_mono HO262.out (fun k_ hk=>(⟨hk,hk.1.2.2.2.2.2.2.2.2.1⟩:_∧k_≠gb241))) (fun _ hk=>hk.2) (.slice Ao69 y263.length co69)) (fun _ hk=>⟨⟨hk.1.1.1,⟨hk.1.1.2.1,⟨hk.1.1.2.2.2.1,⟨hk.1.1.2.2.2.2.1,⟨hk.1.1.2.2.2.2.2.1,⟨hk.1.2,⟨hk.1.1.2.2.2.2.2.2.1,⟨hk.1.1.2.2.2.2.2.2.2.1,⟨hk.1.1.2.2.2.2.2.2.2.2.1,hk.1.1.2.2.2.2.2.2.2.2.2⟩⟩⟩⟩⟩⟩⟩⟩⟩,hk.1.1.2.2.1⟩)) hg hat);replace HO265:=jM (Kd.N_afterv (ok:=(fun k_=>(w.heap.size≤k_)∧some k_≠(.slice (some ad250) t237.length co21:Value).ownBlock∧some k_≠(.slice Ao15 t242.length co15:Value).ownBlock∧some k_≠(.slice (some ad257) t245.length co20:Value).ownBlock∧some k_≠(.slice Ao63 y254.length co63:Value).ownBlock∧k_≠gb235∧k_≠gb236∧k_≠gb241∧k_≠gb249)) (by (with_reducible repeat (first | apply jn | apply jo | apply jp));exact Kd.N_mono (Kd.N_far (p:=⟨gb241,1,none⟩) (Kd.N_mono HO265.out (fun k_ hk=>(⟨hk,hk.2.2.2.2.2.2.2.2.1⟩:_∧k_≠gb241))) (fun _ hk=>hk.2) (.slice Ao69 y263.length co69)) (fun _ hk=>⟨⟨hk.1.1,⟨hk.1.2.1,⟨hk.1.2.2.2.1,⟨hk.1.2.2.2.2.1,⟨hk.1.2.2.2.2.2.1,⟨hk.1.2.2.2.2.2.2.1,⟨hk.1.2.2.2.2.2.2.2.1,⟨hk.1.2.2.2.2.2.2.2.2.1,hk.1.2.2.2.2.2.2.2.2.2⟩⟩⟩⟩⟩⟩⟩⟩,hk.1.2.2.1⟩)) hg hat);replace HB:=jM (hb);have HO268:=jM (ho);clear HO_242002 ho hb hg hat;obtain ⟨Ao73,co73,eo73⟩:=Kd.R_slice HO268.out;subst eo73;obtain ⟨hcz74_0,hcz74_1,hcz74_2⟩:=jC3 BK241.out;have hfz74_0:=jF BK241.out 0;have hfz74_1:=jF BK241.out 1;have hfz74_2:=jF BK241.out 2))
                   go_roundg k2
                   case measure=>have:=HK1.out;have:=HK2.out;omega
                   case rel=>exact ⟨(wrap64 (x31_1+1)),(y254),(y263),(y266),(.slice Ao63 y254.length co63),(.slice Ao69 y263.length co69),(.slice Ao73 y266.length co73),tZ,H',⟨by have:=HK1.out;have:=HK2.out;omega⟩,⟨by (with_reducible repeat (first | apply jn | apply jo | apply jp));exact Kd.N_mono (Kd.N_far (p:=⟨gb241,2,none⟩) (Kd.N_mono HO_29.out (fun k_ hk=>(⟨hk,hk.1.2.2.2.2.2.2.2.1⟩:_∧k_≠gb241))) (fun _ hk=>hk.2) (.slice Ao73 y266.length co73)) (fun _ hk=>⟨hk.1.1.1,⟨hk.1.1.2.2.2.1,⟨hk.1.1.2.2.2.2.1,⟨hk.1.2,⟨hk.1.1.2.1,⟨hk.1.1.2.2.1,⟨hk.1.1.2.2.2.2.2.1,⟨hk.1.1.2.2.2.2.2.2.1,⟨hk.1.1.2.2.2.2.2.2.2.1,hk.1.1.2.2.2.2.2.2.2.2⟩⟩⟩⟩⟩⟩⟩⟩⟩)⟩,⟨by (with_reducible repeat (first | apply jn | apply jo | apply jp));exact Kd.N_mono (Kd.N_far (p:=⟨gb241,2,none⟩) (Kd.N_mono HO256.out (fun k_ hk=>(⟨hk,hk.1.2.2.2.2.2.2.2.1⟩:_∧k_≠gb241))) (fun _ hk=>hk.2) (.slice Ao73 y266.length co73)) (fun _ hk=>⟨hk.1.1.1,⟨hk.1.1.2.1,⟨hk.1.1.2.2.2.2.1,⟨hk.1.2,⟨hk.1.1.2.2.1,⟨hk.1.1.2.2.2.1,⟨hk.1.1.2.2.2.2.2.1,⟨hk.1.1.2.2.2.2.2.2.1,⟨hk.1.1.2.2.2.2.2.2.2.1,hk.1.1.2.2.2.2.2.2.2.2⟩⟩⟩⟩⟩⟩⟩⟩⟩)⟩,⟨by (with_reducible repeat (first | apply jn | apply jo | apply jp));exact Kd.N_mono (Kd.N_far (p:=⟨gb241,2,none⟩) (Kd.N_mono HO265.out (fun k_ hk=>(⟨hk,hk.1.2.2.2.2.2.2.2.1⟩:_∧k_≠gb241))) (fun _ hk=>hk.2) (.slice Ao73 y266.length co73)) (fun _ hk=>⟨hk.1.1.1,⟨hk.1.1.2.1,⟨hk.1.1.2.2.2.2.1,⟨hk.1.2,⟨hk.1.1.2.2.1,⟨hk.1.1.2.2.2.1,⟨hk.1.1.2.2.2.2.2.1,⟨hk.1.1.2.2.2.2.2.2.1,⟨hk.1.1.2.2.2.2.2.2.2.1,hk.1.1.2.2.2.2.2.2.2.2⟩⟩⟩⟩⟩⟩⟩⟩⟩)⟩,⟨by (with_reducible repeat (first | apply Kd.R_alloc | apply Kd.R_drewN | apply Kd.R_drew));exact Kd.R_mono (Kd.R_far (p:=⟨gb241,2,none⟩) (Kd.R_types HO268.out BK241.out (by decide)) (fun _ hk=>hk.2) (.slice Ao73 y266.length co73)) (fun _ hk=>hk.1)⟩,⟨by (with_reducible repeat (first | apply jn | apply jo | apply jp));exact Kd.N_mono (Kd.N_far (p:=⟨gb241,2,none⟩) (Kd.N_mono HO_250000.out (fun k_ hk=>(⟨hk,hk.1.2.2.2.2.2.2.2.1⟩:_∧k_≠gb241))) (fun _ hk=>hk.2) (.slice Ao73 y266.length co73)) (fun _ hk=>⟨hk.1.1.1,⟨hk.1.1.2.1,⟨hk.1.1.2.2.2.1,⟨hk.1.1.2.2.2.2.1,⟨hk.1.2,⟨hk.1.1.2.2.1,⟨hk.1.1.2.2.2.2.2.1,⟨hk.1.1.2.2.2.2.2.2.1,⟨hk.1.1.2.2.2.2.2.2.2.1,hk.1.1.2.2.2.2.2.2.2.2⟩⟩⟩⟩⟩⟩⟩⟩⟩)⟩,⟨by (with_reducible repeat (first | apply jn | apply jo | apply jp));exact Kd.N_mono (Kd.N_far (p:=⟨gb241,2,none⟩) (Kd.N_mono HO_250001.out (fun k_ hk=>(⟨hk,hk.1.2.2.2.2.2.2.2.1⟩:_∧k_≠gb241))) (fun _ hk=>hk.2) (.slice Ao73 y266.length co73)) (fun _ hk=>⟨hk.1.1.1,⟨hk.1.1.2.1,⟨hk.1.1.2.2.2.1,⟨hk.1.1.2.2.2.2.1,⟨hk.1.2,⟨hk.1.1.2.2.1,⟨hk.1.1.2.2.2.2.2.1,⟨hk.1.1.2.2.2.2.2.2.1,⟨hk.1.1.2.2.2.2.2.2.2.1,hk.1.1.2.2.2.2.2.2.2.2⟩⟩⟩⟩⟩⟩⟩⟩⟩)⟩,⟨by (with_reducible repeat (first | refine jY ?_ _ | refine jZ ?_ | refine jX ?_ _));refine blk_far ?_ NB235_241.out _;(with_reducible repeat (first | refine jY ?_ _ | refine jZ ?_ | refine jX ?_ _));exact BK235.out⟩,⟨by (with_reducible repeat (first | refine jY ?_ _ | refine jZ ?_ | refine jX ?_ _));refine blk_far ?_ NB236_241.out _;(with_reducible repeat (first | refine jY ?_ _ | refine jZ ?_ | refine jX ?_ _));exact BK236.out⟩,⟨by (with_reducible repeat (first | refine jY ?_ _ | refine jZ ?_ | refine jX ?_ _));refine blk_put (cs:=#[.slice Ao63 y254.length co63,.slice Ao69 y263.length co69,u242002]) ?_ 2 _ rfl;(with_reducible repeat (first | refine jY ?_ _ | refine jZ ?_ | refine jX ?_ _));exact BK241.out⟩,⟨by (with_reducible repeat (first | refine jY ?_ _ | refine jZ ?_ | refine jX ?_ _));refine blk_far ?_ NB249_241.out _;(with_reducible repeat (first | refine jY ?_ _ | refine jZ ?_ | refine jX ?_ _));exact BK249.out⟩,⟨tE HB.out⟩⟩
                  ·rw [if_neg c56] at H
                   exact absurd H (by simp)
                 ·rw [if_neg c55] at H
                  exact absurd H (by simp)
                ·rw [if_neg c54] at H
                 exact absurd H (by simp)
               ·rw [if_neg c53] at H
                exact absurd H (by simp)
              ·rw [if_neg c52] at H
               exact absurd H (by simp)
             ·rw [if_neg c51] at H
              exact absurd H (by simp)
            ·rw [if_neg c50] at H
             exact absurd H (by simp)
        ·rw [if_neg c26] at H
         exact absurd H (by simp)
       ·rw [if_neg c25] at H
        exact absurd H (by simp)
      ·rw [if_neg c24] at H
       exact absurd H (by simp)
     ·rw [if_neg c23] at H
      exact absurd H (by simp)
    ·rw [if_neg c22] at H
     have c22b0:decide (x31_1 < (t237.length:Int))=false:=decide_eq_false c22
     clear c22
     simp only [Option.some.injEq,Prod.mk.injEq] at H
     obtain ⟨rfl,rfl,rfl,rfl⟩:=H
     have hnb75:=NB241_235.out
     have hnc75:=NB235_241.out
     have hnb76:=NB241_236.out
     have hnc76:=NB236_241.out
     have hnb77:=NB241_249.out
     have hnc77:=NB249_241.out
     have hcz78_0:wr.cell? ⟨gb241,0,none⟩=some (u242000):=(jC BK241.out 0).trans rfl
     have hcz78_1:wr.cell? ⟨gb241,1,none⟩=some (u242001):=(jC BK241.out 1).trans rfl
     have hcz78_2:wr.cell? ⟨gb241,2,none⟩=some (u242002):=(jC BK241.out 2).trans rfl
     have hfz78_0:=jF BK241.out 0
     have hfz78_1:=jF BK241.out 1
     have hfz78_2:=jF BK241.out 2
     obtain ⟨Ao79,co79,eo79⟩:=Kd.N_slice HO_242000.out
     subst eo79
     have hnb80:=NB236_235.out
     have hnc80:=NB235_236.out
     have hnb81:=NB236_249.out
     have hnc81:=NB249_236.out
     have hcz82_0:wr.cell? ⟨gb236,0,none⟩=some (.slice none 0 0):=(jC BK236.out 0).trans rfl
     have hcz82_1:wr.cell? ⟨gb236,1,none⟩=some (.slice none 0 0):=(jC BK236.out 1).trans rfl
     have hcz82_2:wr.cell? ⟨gb236,2,none⟩=some (.slice none 0 0):=(jC BK236.out 2).trans rfl
     have hfz82_0:=jF BK236.out 0
     have hfz82_1:=jF BK236.out 1
     have hfz82_2:=jF BK236.out 2
     obtain ⟨Ao83,co83,eo83⟩:=Kd.N_slice HO_242001.out
     subst eo83
     obtain ⟨Ao84,co84,eo84⟩:=Kd.R_slice HO_242002.out
     subst eo84
     go_wp2
     refine bodyPost_ret (results_ct rfl _ _ gb236 34 #[.slice Ao79 x242000_1.length co79,.slice Ao83 x242001_1.length co83,.slice Ao84 x242002_1.length co84] (0,0) _ rfl (by (with_reducible repeat (first | refine jY ?_ _ | refine jZ ?_ | refine jX ?_ _));refine blk_put (cs:=#[.slice Ao79 x242000_1.length co79,.slice Ao83 x242001_1.length co83,.slice none 0 0]) ?_ 2 _ rfl;(with_reducible repeat (first | refine jY ?_ _ | refine jZ ?_ | refine jX ?_ _));refine blk_put (cs:=#[.slice Ao79 x242000_1.length co79,.slice none 0 0,.slice none 0 0]) ?_ 1 _ rfl;(with_reducible repeat (first | refine jY ?_ _ | refine jZ ?_ | refine jX ?_ _));refine blk_put (cs:=#[.slice none 0 0,.slice none 0 0,.slice none 0 0]) ?_ 0 _ rfl;(with_reducible repeat (first | refine jY ?_ _ | refine jZ ?_ | refine jX ?_ _));exact BK236.out) Tryz.underlying34 rfl (by kernel_rfl)) rfl ?_
     exact ⟨_,_,_,by first | rfl | (simp [errW_none,errW_some] <;> rfl) | (simp [*,errW_none,errW_some] <;> rfl),by (with_reducible repeat (first | apply jn | apply jo | apply jp));exact Kd.N_mono (Kd.N_far (p:=⟨gb236,2,none⟩) (Kd.N_far (p:=⟨gb236,1,none⟩) (Kd.N_far (p:=⟨gb236,0,none⟩) (Kd.N_mono HO_242000.out (fun k_ hk=>(⟨hk,hk.2.2.2.2.2.2.2.1⟩:_∧k_≠gb236))) (fun _ hk=>hk.2) (.slice Ao79 x242000_1.length co79)) (fun _ hk=>hk.2) (.slice Ao83 x242001_1.length co83)) (fun _ hk=>hk.2) (.slice Ao84 x242002_1.length co84)) (fun _ hk=>⟨hk.1.1,⟨hk.1.2.2.1,hk.1.2.2.2.1⟩⟩),by (with_reducible repeat (first | apply jn | apply jo | apply jp));exact Kd.N_mono (Kd.N_far (p:=⟨gb236,2,none⟩) (Kd.N_far (p:=⟨gb236,1,none⟩) (Kd.N_far (p:=⟨gb236,0,none⟩) (Kd.N_mono HO_242001.out (fun k_ hk=>(⟨hk,hk.2.2.2.2.2.2.2.1⟩:_∧k_≠gb236))) (fun _ hk=>hk.2) (.slice Ao79 x242000_1.length co79)) (fun _ hk=>hk.2) (.slice Ao83 x242001_1.length co83)) (fun _ hk=>hk.2) (.slice Ao84 x242002_1.length co84)) (fun _ hk=>⟨hk.1.1,⟨hk.1.2.2.1,hk.1.2.2.2.1⟩⟩),by (with_reducible repeat (first | apply Kd.R_alloc | apply Kd.R_drewN | apply Kd.R_drew));exact Kd.R_mono (Kd.R_far (p:=⟨gb236,2,none⟩) (Kd.R_far (p:=⟨gb236,1,none⟩) (Kd.R_far (p:=⟨gb236,0,none⟩) (Kd.R_types HO_242002.out BK236.out (by decide)) (fun _ hk=>hk.2) (.slice Ao79 x242000_1.length co79)) (fun _ hk=>hk.2) (.slice Ao83 x242001_1.length co83)) (fun _ hk=>hk.2) (.slice Ao84 x242002_1.length co84)) (fun _ hk=>hk.1),tE HB.out⟩
 ·rw [if_neg c3] at H
  have c3b0:(t240 == 0)=false:=beq_eq_false_iff_ne.mpr c3
  have c3b1:(t240 != 0)=true:=bne_iff_ne.mpr c3
  simp only [Option.some.injEq,Prod.mk.injEq] at H
  obtain ⟨rfl,rfl,rfl,rfl⟩:=H
  go_enter Tryz.func11,Tryz.ntmps11
  go_wp2_with (first | ((with_reducible refine gate_dst (N:=1) rfl ?_);refine box_event ?hg (N:=1) ?hd (cs:=#[.slice A0_0 l0_0.length c0_0,.slice A0_1 l0_1.length c0_1,.slice A0_2 l0_2.length c0_2,.slice A0_3 l0_3.length c0_3,.int .i64 a0_4]) (t:=27) ?hr ?_;(case hd=>rfl);(case hg=>rfl);(case hr=>first | (go_simp;done) | (go_simp;rfl));intro gb235 hg w85 hbox hb;have n0_:=jM (jT (tB HB.out) hb);have n1_:=jM (hbox);have n2_:=jM ((by rw [hg];exact (below_size (tB HB.out)):w.heap.size≤gb235));have n3_:=jM ((by rw [hg];exact (below_size (tB HB.out)):w.heap.size≤gb235));clear HB;have HB:=n0_;have BK235:=n1_;have GW235:=n2_;have GE235:=n3_;clear n0_ n1_ n2_ n3_;clear hb hbox hg) | ((with_reducible refine gate_dst (N:=2) rfl ?_);refine box_event ?hg (N:=2) ?hd (cs:=#[.slice none 0 0,.slice none 0 0,.slice none 0 0]) (t:=34) ?hr ?_;(case hd=>rfl);(case hg=>rfl);(case hr=>first | (go_simp;done) | (go_simp;rfl));intro gb236 hg w86 hbox hb;have n0_:=jM (jW (g:=gb235) (o:=.cells #[.slice A0_0 l0_0.length c0_0,.slice A0_1 l0_1.length c0_1,.slice A0_2 l0_2.length c0_2,.slice A0_3 l0_3.length c0_3,.int .i64 a0_4] 27 (0,0)) (tK BK235.out) hb);have n1_:=jM (jT (tE HB.out) hb);have n2_:=jM (hbox);have n3_:=jM ((by rw [hg];exact (below_size (tE HB.out)):w.heap.size≤gb236));have n4_:=jM ((by rw [hg];exact (below_size (tE HB.out)):w.heap.size≤gb236));have n5_:=jM ((by rw [hg];exact Nat.ne_of_lt (blk_lt (g:=gb235) (o:=.cells #[.slice A0_0 l0_0.length c0_0,.slice A0_1 l0_1.length c0_1,.slice A0_2 l0_2.length c0_2,.slice A0_3 l0_3.length c0_3,.int .i64 a0_4] 27 (0,0)) (tK BK235.out)):gb235≠gb236));have n6_:=jM ((by rw [hg];exact Nat.ne_of_gt (blk_lt (g:=gb235) (o:=.cells #[.slice A0_0 l0_0.length c0_0,.slice A0_1 l0_1.length c0_1,.slice A0_2 l0_2.length c0_2,.slice A0_3 l0_3.length c0_3,.int .i64 a0_4] 27 (0,0)) (tK BK235.out)):gb236≠gb235));clear BK235 HB;have BK235:=n0_;have HB:=n1_;have BK236:=n2_;have GW236:=n3_;have GE236:=n4_;have NB235_236:=n5_;have NB236_235:=n6_;clear n0_ n1_ n2_ n3_ n4_ n5_ n6_;clear hb hbox hg;have hnb87:=NB235_236.out;have hnc87:=NB236_235.out;obtain ⟨hcz88_0,hcz88_1,hcz88_2,hcz88_3,hcz88_4⟩:=jC5 BK235.out;have hfz88_0:=jF BK235.out 0;have hfz88_1:=jF BK235.out 1;have hfz88_2:=jF BK235.out 2;have hfz88_3:=jF BK235.out 3;have hfz88_4:=jF BK235.out 4) | ((with_reducible refine gate_callee (f:=12) rfl ?_);refine goesL_ (some 17) rfl rfl Tryz.func12 (by kernel_rfl) rfl #[.agg #[.slice A0_0 l0_0.length c0_0,.slice A0_1 l0_1.length c0_1,.slice A0_2 l0_2.length c0_2,.slice A0_3 l0_3.length c0_3,.int .i64 a0_4]] rfl tM ?_;(with_reducible refine (table_All.calls k _ _ l0_0 _ _ l0_1 _ _ l0_2 _ _ l0_3 a0_4 t237 t240 _ ?side1 ?side2 ?side3 ?side4 ?side5 ?side6 ?side7 ?side8 ?side9 A2.out).mono ?_);(case side1=>exact GTab.below HG.out (tE HB.out));(case side2=>exact tC (jB HR0_0.out HB.out));(case side3=>exact HC0_0.out);(case side4=>exact tC (jB HR0_1.out HB.out));(case side5=>exact HC0_1.out);(case side6=>exact tC (jB HR0_2.out HB.out));(case side7=>exact HC0_2.out);(case side8=>exact tC (jB HR0_3.out HB.out));(case side9=>exact HC0_3.out);rintro e w89 ⟨v238,rfl,ho0,hb⟩;refine ⟨_,rfl, ?_⟩;have HO239:=jM (Kd.N_lower (Kd.N_mono (ok':=fun k_=>(w.heap.size≤k_)∧k_≠gb235∧k_≠gb236) (Kd.R_N (Kd.R_bound ho0)) (fun k_ hk_=>⟨(Nat.le_trans (below_size (tE HB.out)) hk_.2.1),(Kd.freshB (g:=gb235) (o:=.cells #[.slice A0_0 l0_0.length c0_0,.slice A0_1 l0_1.length c0_1,.slice A0_2 l0_2.length c0_2,.slice A0_3 l0_3.length c0_3,.int .i64 a0_4] 27 (0,0)) (tK BK235.out) k_ hk_.2.1),(Kd.freshB (g:=gb236) (o:=.cells #[.slice none 0 0,.slice none 0 0,.slice none 0 0] 34 (0,0)) (tK BK236.out) k_ hk_.2.1)⟩)) (below_size (tE HB.out)));replace BK235:=jM (jW (g:=gb235) (o:=.cells #[.slice A0_0 l0_0.length c0_0,.slice A0_1 l0_1.length c0_1,.slice A0_2 l0_2.length c0_2,.slice A0_3 l0_3.length c0_3,.int .i64 a0_4] 27 (0,0)) (tK BK235.out) hb);replace BK236:=jM (jW (g:=gb236) (o:=.cells #[.slice none 0 0,.slice none 0 0,.slice none 0 0] 34 (0,0)) (tK BK236.out) hb);replace HB:=jM (jT (tE HB.out) hb);(try clear hb);(try clear hb2);(try clear hk);(try clear hi);(try clear ho0);obtain ⟨hcz90_0,hcz90_1,hcz90_2⟩:=jC3 BK236.out;have hfz90_0:=jF BK236.out 0;have hfz90_1:=jF BK236.out 1;have hfz90_2:=jF BK236.out 2))
  refine bodyPost_ret (results_ct rfl _ _ gb236 34 #[.slice none 0 0,.slice none 0 0,.slice none 0 0] (0,0) _ rfl (by (with_reducible repeat (first | refine jY ?_ _ | refine jZ ?_ | refine jX ?_ _));refine blk_put (cs:=#[.slice none 0 0,.slice none 0 0,.slice none 0 0]) ?_ 2 _ rfl;(with_reducible repeat (first | refine jY ?_ _ | refine jZ ?_ | refine jX ?_ _));refine blk_put (cs:=#[.slice none 0 0,.slice none 0 0,.slice none 0 0]) ?_ 1 _ rfl;(with_reducible repeat (first | refine jY ?_ _ | refine jZ ?_ | refine jX ?_ _));refine blk_put (cs:=#[.slice none 0 0,.slice none 0 0,.slice none 0 0]) ?_ 0 _ rfl;(with_reducible repeat (first | refine jY ?_ _ | refine jZ ?_ | refine jX ?_ _));exact BK236.out) Tryz.underlying34 rfl (by kernel_rfl)) rfl ?_
  exact ⟨_,_,_,by first | rfl | (simp [errW_none,errW_some] <;> rfl) | (simp [*,errW_none,errW_some] <;> rfl),by first | exact Kd.S_nil _ _ _ _ _ | exact Kd.N_nil _ _ _ _ _ | exact Kd.V_nil _ _ _ _ _ | exact Kd.Q_nil _ _ _ _ _ | exact Kd.R_nil _ _ _ _ _,by first | exact Kd.S_nil _ _ _ _ _ | exact Kd.N_nil _ _ _ _ _ | exact Kd.V_nil _ _ _ _ _ | exact Kd.Q_nil _ _ _ _ _ | exact Kd.R_nil _ _ _ _ _,by first | exact Kd.R_nil _ _ _ _ _ | exact Kd.N_nil _ _ _ _ _ | exact Kd.V_nil _ _ _ _ _ | exact Kd.Q_nil _ _ _ _ _ | exact Kd.S_nil _ _ _ _ _,tE HB.out⟩
end
section
attribute [local go_sem] max2_int min2_int max_two min_two max_three min_three max_four min_four

/-! ### table_Clashes: function 13 -/
mutual
def table_Clashes.l0:Nat→List (S73)→List (List (List (S53)))→Int→Int→Option ((List (S73)))
 | 0,_,_,_,_=>none
 | k+1,x5,x15,x16,x17=>if x17 < x16 then (if 0≤x17 then (if x17 < (x15.length:Int) then (table_Clashes.l1 k x5 x17 x15 x16 x17 (rd_L26 x15 x17) ((rd_L26 x15 x17).length:Int) 0) else (none)) else (none)) else (some x5)
def table_Clashes.l1:Nat→List (S73)→Int→List (List (List (S53)))→Int→Int→List (List (S53))→Int→Int→Option ((List (S73)))
 | 0,_,_,_,_,_,_,_,_=>none
 | k+1,x5,x6,x15,x16,x17,x22,x23,x24=>if x24 < x23 then (if 0≤x24 then (if x24 < (x22.length:Int) then (if ((rd_L25 x22 x24).length:Int) > 1 then (if x5.length < 8796093022208 then (table_Clashes.l1 k (x5 ++ [(⟨x6,x24⟩:S73)]) x6 x15 x16 x17 x22 x23 (wrap64 (x24+1))) else (none)) else (table_Clashes.l1 k x5 x6 x15 x16 x17 x22 x23 (wrap64 (x24+1)))) else (none)) else (none)) else (table_Clashes.l0 k x5 x15 x16 (wrap64 (x17+1)))
end
def table_Clashes.f (k:Nat) (l0_0:List (S65)) (l0_1:List (S73)) (l0_2:List ByteArray) (l0_3:List (S68)) (a0_4:Int):Option ((List (S73))):=(table_All.f k l0_0 l0_1 l0_2 l0_3 a0_4).bind fun bt275=>(table_Clashes.l0 k ([]:List (S73)) bt275.1 (bt275.1.length:Int) 0)
end
end Go.Proofs.YtclollnicbcooaaGreatDoor.P
