/- Texts of this claim put together: Bui, Q6, Lb, Tb, Td, Lk1, Lk2, Lk3, Lk4, Lk5, SMore, SJump, SGrow, SAll, Le, SRow, SMoreS, SGrowS. -/
import Derived.Test.YtclollnicbcooaaGreatDoorBz1
import Derived.Test.YtclollnicbcooaaGreatDoorBz0
import Derived.Deep.RegionLaw
import Derived.Lib.SmallJoins
import Derived.Deep.RegionHeld3
import Derived.Deep.CutRange
import Derived.WalkMore
import Derived.IntWalk
import Derived.ScopeJumps
set_option linter.unusedVariables false
set_option linter.unusedSimpArgs false
set_option linter.unusedSectionVars false
namespace Go.Proofs.YtclollnicbcooaaGreatDoor.P
open Go.RowKit Go.Lib Go.Sort YtclollnicbcooaaGreatDoorW.PrintWords YtclollnicbcooaaGreatDoorW.PrintLast YtclollnicbcooaaGreatDoorW.PrintMore St Base
section
attribute [local go_sem] Oper.semAt_some

def builtL (T S:Nat) (g:Gr):Option (Option (List (List Itm) × List (List Int))):=buildL (Sg g) (symsL T S) 2000 2003 0 [[(-1,0)]] []
def outB:Option (List (List Itm) × List (List Int))→List (List S77) × List (List Int) × Int
 | none=>([],[],4)
 | some (K,N)=>(K.map (·.map ofI),N,0)
def states_Build.f (l0:List S65) (l1:List S73) (l2:List ByteArray) (l3:List S68) (st:Int):Option (List (List S77) × List (List Int) × Int) :=
 if validB l0 l1 l2 l3 st=true then (if l3.all okP=true then (builtL l0.length l2.length (gr st l3)).map outB else none) else some ([],[],1)

structure Bx (T S:Nat) (g:Gr) (R:Option (List (List Itm) × List (List Int))) (n:Nat) (K:List (List Itm)) (N:List (List Int)):Prop where
 run:buildL (Sg g) (symsL T S) 2000 n N.length K N=some R
 few:K.length≤2000
 small:∀ c ∈ K,c.length≤1562∧∀ x ∈ c,rngI x
 rows:N.length≤K.length
 n3:N.length+n≤2003
theorem Bx.start {T S:Nat} {g:Gr} {R:Option (List (List Itm) × List (List Int))} (h:builtL T S g=some R):Bx T S g R 2003 [[(-1,0)]] [] where
 run:=h
 few:=by simp
 small:=fun c hc=>by
  rw [List.mem_singleton] at hc
  subst hc
  refine ⟨by simp,fun x hx=>?_⟩
  rw [List.mem_singleton] at hx
  subst hx
  unfold rngI
  simp only
  omega
 rows:=by simp
 n3:=by simp
structure Rx (f:Int→List Itm) (syms:List Int) (res:List Int × List (List Itm)) (j:Nat) (nums:List Int) (K:List (List Itm)):Prop where
 run1:nums ++ (rowL f (syms.drop j) K).1=res.1
 run2:(rowL f (syms.drop j) K).2=res.2
 few:K.length≤2000+j
 small:∀ c ∈ K,c.length≤1562∧∀ x ∈ c,rngI x
 le:j≤syms.length
 len:nums.length=j
theorem numb_small {K:List (List Itm)} {l:List Itm} (hK:∀ c ∈ K,c.length≤1562∧∀ x ∈ c,rngI x) (hl:l.length≤1562∧∀ x ∈ l,rngI x):(∀ c ∈ (numb K l).2,c.length≤1562∧∀ x ∈ c,rngI x)∧(numb K l).2.length≤K.length+1:=by
 by_cases h:l=[]
 ·have e:numb K l=(-1,K):=by unfold numb;rw [if_pos h]
  rw [e]
  exact ⟨hK,Nat.le_succ _⟩
 ·rcases numb_cases K l h with ⟨j,_,e⟩ | ⟨_,e⟩
  ·rw [e];exact ⟨hK,Nat.le_succ _⟩
  ·rw [e]
   refine ⟨fun c hc=>?_,by simp⟩
   rcases List.mem_append.1 hc with h1 | h1
   ·exact hK c h1
   ·rw [List.mem_singleton] at h1
    subst h1;exact hl
theorem Rx.next {f:Int→List Itm} {syms:List Int} {res:List Int × List (List Itm)} {j:Nat} {nums:List Int} {K:List (List Itm)} (h:Rx f syms res j nums K) (hj:j < syms.length) {s:Int} (hs:Go.Proofs.YtclollnicbcooaaGreatDoorW.PrintWords.rd syms j=s) (hf:(f s).length≤1562∧∀ x ∈ f s,rngI x) :
  Rx f syms res (j+1) (nums ++ [(numb K (f s)).1]) (numb K (f s)).2:=by
 have e:syms.drop j=s :: syms.drop (j+1):=by
  rw [List.drop_eq_getElem_cons hj]
  congr 1
  rw [← hs]
  unfold Go.Proofs.YtclollnicbcooaaGreatDoorW.PrintWords.rd
  rw [Int.toNat_natCast,List.getD_eq_getElem?_getD,List.getElem?_eq_getElem hj]
  rfl
 obtain ⟨h1,h2⟩:=numb_small h.small hf
 refine ⟨?_, ?_,by have:=h.few;omega,h1,hj,by rw [List.length_append,List.length_singleton,h.len]⟩
 ·have:=h.run1
  rw [e,rowL] at this
  rw [← this]
  simp
 ·have:=h.run2
  rw [e,rowL] at this
  exact this
theorem Rx.done {f:Int→List Itm} {syms:List Int} {res:List Int × List (List Itm)} {j:Nat} {nums:List Int} {K:List (List Itm)} (h:Rx f syms res j nums K) (hj:j=syms.length):nums=res.1∧K=res.2:=by
 have h1:=h.run1
 have h2:=h.run2
 rw [hj,List.drop_length] at h1 h2
 rw [rowL] at h1 h2
 rw [List.append_nil] at h1
 exact ⟨h1,h2⟩
theorem Rx.start {T S:Nat} {g:Gr} {R:Option (List (List Itm) × List (List Int))} {n:Nat} {K:List (List Itm)} {N:List (List Int)} (h:Bx T S g R n K N) (f:Int→List Itm) (syms:List Int):Rx f syms (rowL f syms K) 0 [] K where
 run1:=by simp
 run2:=by simp
 few:=h.few
 small:=h.small
 le:=Nat.zero_le _
 len:=rfl
theorem Bx.on {T S:Nat} {g:Gr} {R:Option (List (List Itm) × List (List Int))} {n:Nat} {K:List (List Itm)} {N:List (List Int)} {c:List Itm} (h:Bx T S g R (n+1) K N) (hc:K[N.length]? = some c) {K':List (List Itm)} {nums:List Int} (hr:nums=(rowL (Sg g c) (symsL T S) K).1∧K'=(rowL (Sg g c) (symsL T S) K).2) (hs:∀ c ∈ K',c.length≤1562∧∀ x ∈ c,rngI x) :
  (2000 < K'.length→R=none)∧(¬ 2000 < K'.length→Bx T S g R n K' (N ++ [nums])):=by
 have hr1:=h.run
 rw [buildL,hc] at hr1
 simp only at hr1
 rw [← hr.1,← hr.2] at hr1
 have hn:=h.n3
 constructor
 ·intro hm
  rw [if_pos hm] at hr1
  exact (Option.some.inj hr1).symm
 ·intro hm
  rw [if_neg hm] at hr1
  obtain ⟨M,e,_⟩:=rowL_is (Sg g c) (symsL T S) K
  obtain ⟨hlt,_⟩:=List.getElem?_eq_some_iff.1 hc
  have hl:K.length≤K'.length:=by rw [hr.2,e,List.length_append];omega
  refine ⟨?_,by omega,hs, ?_, ?_⟩
  ·rw [List.length_append,List.length_singleton];exact hr1
  ·rw [List.length_append,List.length_singleton];omega
  ·rw [List.length_append,List.length_singleton];omega
theorem Bx.fine {T S:Nat} {g:Gr} {R:Option (List (List Itm) × List (List Int))} {n:Nat} {K:List (List Itm)} {N:List (List Int)} (h:Bx T S g R (n+1) K N) (hc:K[N.length]? = none):R=some (K,N):=by
 have hr1:=h.run
 rw [buildL,hc] at hr1
 exact (Option.some.inj hr1).symm
theorem Bx.pos {T S:Nat} {g:Gr} {R:Option (List (List Itm) × List (List Int))} {n:Nat} {K:List (List Itm)} {N:List (List Int)} (h:Bx T S g R n K N):∃ m,n=m+1:=by
 cases n with
 | zero=>have:=h.run;cases this
 | succ m=>exact ⟨m,rfl⟩

theorem Bd.start {w W:World} {G:Array Value} (hb:RowKit.Below w.heap.size w W) (bg:W.heap[w.heap.size]? = some (.cells G 27 (0,0))) (br:W.heap[w.heap.size+1]? = some (.cells #[.slice none 0 0,.slice none 0 0] 44 (0,0))) :
  Bd w W.heap.size G [] [] [] (.slice none 0 0) (.slice none 0 0) (fun _=>True) (fun _=>True) (((W.alloc (Obj.cells #[.slice none 0 0,.slice none 0 0] 44)).alloc (Obj.map #[] 0)).alloc (Obj.cells #[.map (some (W.heap.size+1))] 74)) where
 hb:=below_alloc (below_alloc (below_alloc hb _) _) _
 bg:=blk_alloc (blk_alloc (blk_alloc bg _) _) _
 br:=blk_alloc (blk_alloc (blk_alloc br _) _) _
 ba:=blk_alloc (blk_alloc (blk_new W _) _) _
 mp:=by
  have h:=Mp.new Tryz.prog 9 (W.alloc (Obj.cells #[.slice none 0 0,.slice none 0 0] 44))
  rw [World.size_alloc] at h
  exact h.same (Below.block (below_alloc (RowKit.Below.refl _ _) _) _ h.lt)
 bn:=by
  have h:=blk_new ((W.alloc (Obj.cells #[.slice none 0 0,.slice none 0 0] 44)).alloc (Obj.map #[] 0)) (Obj.cells #[.map (some (W.heap.size+1))] 74)
  rw [World.size_alloc,World.size_alloc] at h
  exact h
 ks:=Kd.S_nil _ _ _ _ _
 ns:=Kd.S_nil _ _ _ _ _
 nd:=List.nodup_nil
 hB:=blk_lt br
theorem one_row (W:World) (B:Nat) (hB:B+3≤W.heap.size):Kd.R k77 77 (W.alloc (Obj.cells #[.int .i64 (-1),.int .i64 0] 77)) (B+3) (fun k=>B+3≤k) (.slice (some ⟨W.heap.size,0,none⟩) 1 1) ([((-1,0):Itm)].map ofI):=by
 have h:=R_of_own2 (W:=W.alloc (Obj.cells #[.int .i64 (-1),.int .i64 0] 77)) (base:=B+3) (ok:=fun k=>B+3≤k) (v:=.slice (some ⟨W.heap.size,0,none⟩) 1 1) (l:=[((-1,0):Itm)]) ?_ ?_
 ·exact h
 ·refine ⟨rfl,.inr ⟨W.heap.size,1,_,rfl,hB,blk_new W _, ?_⟩⟩
  exact ⟨by decide,by decide,rfl,by simp [flatC,encI]⟩
 ·intro k hk
  injection hk with hk
  subst hk
  exact hB
section
variable {w:World} {B Bn:Nat} {G:Array Value} {Km K:List (List Itm)} {N:List (List Int)} {vK vN:Value} {okK okN:Nat→Prop} {W W1:World}
theorem Bd.appN (h:Bd w B G Km K N vK vN okK okN W) {N':List (List Int)} {v1:Value} (hs:Kd.S (Kd.slice 3 (Kd.int .i64)) 50 W1 (B+3) (fun k=>B+3≤k) v1 N') (hg:W.grownBy W1 vN.ownBlock):Bd w B G Km K N' vK v1 (fun _=>True) (fun _=>True) (W1.setCell ⟨B,1,none⟩ v1):=by
 have hbase:=Kd.S_base h.ns
 have hB:=h.hB
 have hkeep:∀ k,k < B+3→k < W.heap.size→W1.heap[k]? = W.heap[k]?:=fun k h1 h2=>hg.block k h2 (fun e=>by have:=hbase k e.symm;omega)
 have hsz:=h.size
 have hfar:∀ k,k≠B→(W1.setCell ⟨B,1,none⟩ v1).heap[k]? = W1.heap[k]?:=fun k hk=>Below.heap_setCell W1 ⟨B,1,none⟩ v1 k hk
 refine ⟨below_set (below_grown h.hb hg (fun k hk=>by have:=hbase k hk;omega)) (by show w.heap.size≤B;omega), ?_, ?_, ?_, ?_, ?_, ?_, ?_,h.nd,hB⟩
 ·exact ((hfar _ (by omega)).trans (hkeep _ (by omega) (by omega))).trans h.bg
 ·exact ((hfar _ (by omega)).trans (hkeep _ (by omega) (by omega))).trans h.br
 ·exact blk_put ((hkeep _ (by omega) (by omega)).trans h.ba) 1 _ rfl
 ·exact h.mp.same ((hfar _ (by omega)).trans (hkeep _ (by omega) (by omega)))
 ·exact ((hfar _ (by omega)).trans (hkeep _ (by omega) (by omega))).trans h.bn
 ·exact Kd.S_mono (Kd.S_far (Kd.S_over' h.ks (Kd.S_typed h.ns) (by decide) hg) (fun k hk=>by have:=hk.1;show k≠B;omega) _) (fun k hk=>⟨hk.1,trivial⟩)
 ·exact Kd.S_mono (Kd.S_far hs (fun k hk=>by show k≠B;omega) _) (fun k hk=>⟨hk,trivial⟩)
theorem Bd.other (h:Bd w B G Km K N vK vN okK (fun k=>k < Bn) W) {v:Value} (hty:∀ k,v.ownBlock=some k→∃ cells,W.heap[k]? = some (.cells cells 3 (0,0))) (hbs:∀ k,v.ownBlock=some k→Bn≤k) (hBn:B+3≤Bn) (hg:W.grownBy W1 v.ownBlock):Bd w B G Km K N vK vN okK (fun k=>k < Bn) W1:=by
 have hB:=h.hB
 have hsz:=h.size
 have hkeep:∀ k,k < B+3→W1.heap[k]? = W.heap[k]?:=fun k h1=>hg.block k (by omega) (fun e=>by have:=hbs k e.symm;omega)
 refine ⟨below_grown h.hb hg (fun k hk=>by have:=hbs k hk;omega), ?_, ?_, ?_, ?_, ?_, ?_, ?_,h.nd,hB⟩
 ·exact (hkeep _ (by omega)).trans h.bg
 ·exact (hkeep _ (by omega)).trans h.br
 ·exact (hkeep _ (by omega)).trans h.ba
 ·exact h.mp.same (hkeep _ (by omega))
 ·exact (hkeep _ (by omega)).trans h.bn
 ·exact Kd.S_over' h.ks hty (by decide) hg
 ·exact Kd.S_grown h.ns hg (fun k hk e=>by have:=hbs k e.symm;have:=hk.2;omega)
theorem Bd.later (h:Bd w B G Km K N vK vN okK okN W):Bd w B G Km K N vK vN okK (fun k=>k < W.heap.size) W :=
 ⟨h.hb,h.bg,h.br,h.ba,h.mp,h.bn,h.ks,Kd.S_mono (Kd.S_bound h.ns) (fun k hk=>⟨hk.1.1,hk.2.2.1⟩),h.nd,h.hB⟩
theorem Bd.apart (h:Bd w B G Km K N vK vN okK okN W) (hb:RowKit.Below W.heap.size W W1) {v:Value} (hbase:∀ k,v.ownBlock=some k→W.heap.size≤k):Bd w B G Km K N vK vN (fun k=>some k≠v.ownBlock) okN W1:=by
 have h1:=h.below hb
 exact ⟨h1.hb,h1.bg,h1.br,h1.ba,h1.mp,h1.bn,Kd.S_mono (Kd.S_elder' h.ks hbase hb) (fun k hk=>⟨hk.1.1,hk.2⟩),h1.ns,h1.nd,h1.hB⟩
theorem R_up {α:Type} {d:Kd α} {e b:Nat} {ok:Nat→Prop} {v:Value} {xs:List α} (h:d.R e W b ok v xs) (hb:B+3≤b):d.R e W (B+3) (fun k=>B+3≤k) v xs :=
 Kd.R_mono (Kd.R_lower (Kd.R_bound h) hb) (fun k hk=>Nat.le_trans hb hk.2.1)
theorem R_numb {α:Type} {d:Kd α} {e b:Nat} {ok:Nat→Prop} {v:Value} {xs:List α} (h:d.R e W b ok v xs) (hK:∀ k,vK.ownBlock=some k→∃ cells,W.heap[k]? = some (.cells cells 75 (0,0))) (ht:∀ q,q ∈ e :: d.E→q≠75) (hb:B+3≤b) (hk:∀ k,k < W.heap.size→B+3≤k→some k≠vK.ownBlock→W1.heap[k]? = W.heap[k]?):d.R e W1 b ok v xs:=by
 refine Kd.R_mono (Kd.R_move (Kd.R_bound h) (fun k hh=>?_)) (fun k hh=>hh.1)
 obtain ⟨_,h1,h2,q,hq,cells,hc⟩:=hh
 refine hk k h2 (by omega) (fun e'=>?_)
 obtain ⟨cells',hc'⟩:=hK k e'.symm
 rw [hc] at hc'
 injection hc' with hc'
 injection hc' with _ hc'
 exact ht q hq hc'
theorem kernel_at (h:Bd w B G Km K N vK vN okK okN W) {i:Nat} {c:List Itm} (hc:K[i]? = some c):∃ (ad:Addr) (n:Nat) (A:Option Addr) (cc:Nat),vK=.slice (some ad) K.length n∧W.cell? (ad.add i)=some (.slice A c.length cc)∧c.length≤cc∧Kd.C k77 W A c.length (c.map ofI):=by
 obtain ⟨A0,n,e,hn,hC⟩:=Kd.S_reads h.ks
 obtain ⟨hlt,_⟩:=List.getElem?_eq_some_iff.1 hc
 rw [List.length_map] at hC e
 obtain ⟨ad,cs,e1,hcl,hK,hcc⟩:=Kd.C_get hC [] (i:Int) (by omega) (by omega)
 have e3:(K.map (·.map ofI)).getD (i:Int).toNat []=c.map ofI:=by
  rw [Int.toNat_natCast,List.getD_eq_getElem?_getD,List.getElem?_map,hc]
  rfl
 rw [e3] at hK
 obtain ⟨A,cc,e2,hle,hR⟩:=hK
 rw [List.length_map] at e2 hle hR
 have h3:=hcc 0 (.slice A c.length cc) (by rw [e2];rfl)
 refine ⟨ad,n,A,cc,by rw [e,e1], ?_,hle,hR⟩
 rw [← h3]
 congr 2
 first | rfl | (show i=(i:Int).toNat * 1+0;omega) | simp
end
theorem closed_is {l0:List S65} {l1:List S73} {l2:List ByteArray} {l3:List S68} {st:Int} (hv:validB l0 l1 l2 l3 st=true) (hp:l3.all okP=true) {c:List Itm} (hc:c.length≤1562∧∀ x ∈ c,rngI x):states_closed.f l0 l1 l2 l3 st (c.map ofI)=some ((risen (closedL (gr st l3) c)).map ofI):=by
 unfold states_closed.f
 rw [if_pos,map_toI_ofI]
 refine ⟨hv,hp,by rw [List.length_map];omega,List.all_eq_true.2 (fun x hx=>?_)⟩
 obtain ⟨y,hy,rfl⟩:=List.mem_map.1 hx
 have:=hc.2 y hy
 unfold okI
 exact decide_eq_true this
theorem step_is {l0:List S65} {l1:List S73} {l2:List ByteArray} {l3:List S68} {st:Int} (hv:validB l0 l1 l2 l3 st=true) (c:List Itm) (s:Int):states_step.f l0 l1 l2 l3 st ((risen (closedL (gr st l3) c)).map ofI) s=some ((Sg (gr st l3) c s).map ofI):=by
 unfold states_step.f
 rw [if_pos,map_toI_ofI]
 ·rfl
 ·refine ⟨hv, ?_⟩
  rw [List.length_map]
  have:=closed_small (fits_of hv) c
  omega

theorem terms_few {l0:List S65} {l1:List S73} {l2:List ByteArray} {l3:List S68} {st:Int} (h:validB l0 l1 l2 l3 st=true):l0.length≤60:=by
 unfold validB at h
 simp only [Bool.and_eq_true,Bool.not_eq_true',decide_eq_false_iff_not,inB,decide_eq_true_eq] at h
 omega
set_option maxHeartbeats 4000000 in
set_option maxRecDepth 100000 in
theorem build_bad (A0:Option Addr) (c0:Nat) (l0:List S65) (A1:Option Addr) (c1:Nat) (l1:List S73) (A2:Option Addr) (c2:Nat) (l2:List ByteArray) (A3:Option Addr) (c3:Nat) (l3:List S68) (st:Int) (w:World)
  (hr0:Kd.C k65 w A0 l0.length l0) (hc0:l0.length≤c0) (hr1:Kd.C k73 w A1 l1.length l1) (hc1:l1.length≤c1) (hr2:Kd.C Kd.string w A2 l2.length l2) (hc2:l2.length≤c2) (hr3:Kd.C k68 w A3 l3.length l3) (hc3:l3.length≤c3) (hv:validB l0 l1 l2 l3 st=false) :
  Calls Tryz.prog 14 #[.agg #[.slice A0 l0.length c0,.slice A1 l1.length c1,.slice A2 l2.length c2,.slice A3 l3.length c3,.int .i64 st]] w fun e w'=>e=.returned (.tuple #[.agg #[.slice none 0 0,.slice none 0 0],.int .i64 1])∧RowKit.Below w.heap.size w w':=by
 have HR0:=jM hr0
 have HR1:=jM hr1
 have HR2:=jM hr2
 have HR3:=jM hr3
 have HC0:=jM hc0
 have HC1:=jM hc1
 have HC2:=jM hc2
 have HC3:=jM hc3
 have HV:=jM (show inst_Valid.f l0 l1 l2 l3 st=some false by unfold inst_Valid.f;rw [hv])
 clear hr0 hr1 hr2 hr3 hc0 hc1 hc2 hc3 hv
 have hu27:=Tryz.underlying27
 have hu44:=Tryz.underlying44
 go_enter Tryz.func14,Tryz.ntmps14
 go_upto_region 1 with fail
 have BG:=jM (blk_alloc (blk_new w (Obj.cells #[.slice A0 l0.length c0,.slice A1 l1.length c1,.slice A2 l2.length c2,.slice A3 l3.length c3,.int .i64 st] 27)) (Obj.cells #[.slice none 0 0,.slice none 0 0] 44))
 have BR:=jM (show ((w.alloc (Obj.cells #[.slice A0 l0.length c0,.slice A1 l1.length c1,.slice A2 l2.length c2,.slice A3 l3.length c3,.int .i64 st] 27)).alloc (Obj.cells #[.slice none 0 0,.slice none 0 0] 44)).heap[w.heap.size+1]? = some (.cells #[.slice none 0 0,.slice none 0 0] 44 (0,0)) by have h:=blk_new (w.alloc (Obj.cells #[.slice A0 l0.length c0,.slice A1 l1.length c1,.slice A2 l2.length c2,.slice A3 l3.length c3,.int .i64 st] 27)) (Obj.cells #[.slice none 0 0,.slice none 0 0] 44);rw [World.size_alloc] at h;exact h)
 have HB:=jM (below_alloc (below_alloc (RowKit.Below.refl w.heap.size w) (Obj.cells #[.slice A0 l0.length c0,.slice A1 l1.length c1,.slice A2 l2.length c2,.slice A3 l3.length c3,.int .i64 st] 27)) (Obj.cells #[.slice none 0 0,.slice none 0 0] 44))
 generalize (w.alloc (Obj.cells #[.slice A0 l0.length c0,.slice A1 l1.length c1,.slice A2 l2.length c2,.slice A3 l3.length c3,.int .i64 st] 27)).alloc (Obj.cells #[.slice none 0 0,.slice none 0 0] 44)=w1 at *
 obtain ⟨z0,z1,z2,z3,z4⟩:=five5 BG.out
 go_upto_region 2 with (go_at_call 27;(with_reducible refine (inst_Valid.calls _ _ l0 _ _ l1 _ _ l2 _ _ l3 st false w1 (Kd.C_below HR0.out HB.out) HC0.out (Kd.C_below HR1.out HB.out) HC1.out (Kd.C_below HR2.out HB.out) HC2.out (Kd.C_below HR3.out HB.out) HC3.out HV.out).mono ?_);rintro e w2 ⟨rfl,hb⟩;have HB2:=jM (below_step HB.out hb);have BR2:=jM (blk_below BR.out hb);clear hb)
 clear z0 z1 z2 z3 z4
 have y0:w2.cell? ⟨w.heap.size+1,0,none⟩=some (.slice none 0 0):=blk_cell BR2.out 0
 have y1:w2.cell? ⟨w.heap.size+1,1,none⟩=some (.slice none 0 0):=blk_cell BR2.out 1
 have f2:=blk_frozen BR2.out 0
 have f3:=blk_frozen BR2.out 1
 go_wp2
 refine bodyPost_ret (results_ct rfl _ _ (w.heap.size+1) 44 #[.slice none 0 0,.slice none 0 0] (0,0) _ rfl (blk_put (blk_put BR2.out 0 _ rfl) 1 _ rfl) Tryz.underlying44 rfl (by kernel_rfl)) rfl ⟨rfl, ?_⟩
 exact below_set (below_set HB2.out (Nat.le_succ _)) (Nat.le_succ _)
set_option maxHeartbeats 16000000 in
set_option maxRecDepth 100000 in
theorem build_good (A0:Option Addr) (c0:Nat) (l0:List S65) (A1:Option Addr) (c1:Nat) (l1:List S73) (A2:Option Addr) (c2:Nat) (l2:List ByteArray) (A3:Option Addr) (c3:Nat) (l3:List S68) (st:Int) (R:Option (List (List Itm) × List (List Int))) (w:World) (hG:GTab w)
  (hr0:Kd.C k65 w A0 l0.length l0) (hc0:l0.length≤c0) (hr1:Kd.C k73 w A1 l1.length l1) (hc1:l1.length≤c1) (hr2:Kd.C Kd.string w A2 l2.length l2) (hc2:l2.length≤c2) (hr3:Kd.C k68 w A3 l3.length l3) (hc3:l3.length≤c3) (hv:validB l0 l1 l2 l3 st=true) (hp:l3.all okP=true) (h:builtL l0.length l2.length (gr st l3)=some R) :
  Calls Tryz.prog 14 #[.agg #[.slice A0 l0.length c0,.slice A1 l1.length c1,.slice A2 l2.length c2,.slice A3 l3.length c3,.int .i64 st]] w fun e w'=>∃ v0_ v1_:Value,e=.returned (.tuple #[.agg #[v0_,v1_],.int .i64 (outB R).2.2])∧Kd.S (Kd.slice 77 k77) 75 w' w.heap.size (fun _=>True) v0_ (outB R).1∧Kd.S (Kd.slice 3 (Kd.int .i64)) 50 w' w.heap.size (fun _=>True) v1_ (outB R).2.1∧RowKit.Below w.heap.size w w':=by
 have HR0:=jM hr0
 have HR1:=jM hr1
 have HR2:=jM hr2
 have HR3:=jM hr3
 have HC0:=jM hc0
 have HC1:=jM hc1
 have HC2:=jM hc2
 have HC3:=jM hc3
 have HG:=jM hG
 have HVB:=jM hv
 have HPB:=jM hp
 have HX:=jM (Bx.start h)
 have HV:=jM (show inst_Valid.f l0 l1 l2 l3 st=some true by unfold inst_Valid.f;rw [hv])
 clear hr0 hr1 hr2 hr3 hc0 hc1 hc2 hc3 hv hG hp h
 have hu27:=Tryz.underlying27
 have hu75:=Tryz.underlying75
 have hu77:=Tryz.underlying77
 have hu44:=Tryz.underlying44
 have hmm:=@run_makeMap Tryz.prog
 have hmf:∀ (fn:Fn) (first cap:Array Value) (w:World),(Instr.makeFunc fn first cap).run Tryz.prog w=.ok (.func fn first cap) w:=fun _ _ _ _=>rfl
 go_enter Tryz.func14,Tryz.ntmps14
 go_upto_region 1 with fail
 have BG:=jM (blk_alloc (blk_new w (Obj.cells #[.slice A0 l0.length c0,.slice A1 l1.length c1,.slice A2 l2.length c2,.slice A3 l3.length c3,.int .i64 st] 27)) (Obj.cells #[.slice none 0 0,.slice none 0 0] 44))
 have BR:=jM (show ((w.alloc (Obj.cells #[.slice A0 l0.length c0,.slice A1 l1.length c1,.slice A2 l2.length c2,.slice A3 l3.length c3,.int .i64 st] 27)).alloc (Obj.cells #[.slice none 0 0,.slice none 0 0] 44)).heap[w.heap.size+1]? = some (.cells #[.slice none 0 0,.slice none 0 0] 44 (0,0)) by have h:=blk_new (w.alloc (Obj.cells #[.slice A0 l0.length c0,.slice A1 l1.length c1,.slice A2 l2.length c2,.slice A3 l3.length c3,.int .i64 st] 27)) (Obj.cells #[.slice none 0 0,.slice none 0 0] 44);rw [World.size_alloc] at h;exact h)
 have HB:=jM (below_alloc (below_alloc (RowKit.Below.refl w.heap.size w) (Obj.cells #[.slice A0 l0.length c0,.slice A1 l1.length c1,.slice A2 l2.length c2,.slice A3 l3.length c3,.int .i64 st] 27)) (Obj.cells #[.slice none 0 0,.slice none 0 0] 44))
 generalize (w.alloc (Obj.cells #[.slice A0 l0.length c0,.slice A1 l1.length c1,.slice A2 l2.length c2,.slice A3 l3.length c3,.int .i64 st] 27)).alloc (Obj.cells #[.slice none 0 0,.slice none 0 0] 44)=w1 at *
 obtain ⟨z0,z1,z2,z3,z4⟩:=five5 BG.out
 go_upto_region 3 with (go_at_call 27;(with_reducible refine (inst_Valid.calls _ _ l0 _ _ l1 _ _ l2 _ _ l3 st true w1 (Kd.C_below HR0.out HB.out) HC0.out (Kd.C_below HR1.out HB.out) HC1.out (Kd.C_below HR2.out HB.out) HC2.out (Kd.C_below HR3.out HB.out) HC3.out HV.out).mono ?_);rintro e w2 ⟨rfl,hb⟩;have HB2:=jM (below_step HB.out hb);have BG2:=jM (blk_below BG.out hb);have BR2:=jM (blk_below BR.out hb);clear hb)
 clear z0 z1 z2 z3 z4 HB BG BR
 have H0:=jM (Bd.start HB2.out BG2.out BR2.out)
 have HS3:=jM (show (((w2.alloc (Obj.cells #[.slice none 0 0,.slice none 0 0] 44)).alloc (Obj.map #[] 0)).alloc (Obj.cells #[.map (some (w2.heap.size+1))] 74)).heap.size=w2.heap.size+3 by simp)
 go_upto_region 6 with fail
 rw [show w2.heap.size+1+1=w2.heap.size+2 from rfl]
 generalize ((w2.alloc (Obj.cells #[.slice none 0 0,.slice none 0 0] 44)).alloc (Obj.map #[] 0)).alloc (Obj.cells #[.map (some (w2.heap.size+1))] 74)=W3 at *
 generalize w2.heap.size=B at *
 have hsz3:=HS3.out
 have hnum:=number_calls (w:=w) (W:=W3.alloc (Obj.cells #[.int .i64 (-1),.int .i64 0] 77)) (B:=B) (G:=#[.slice A0 l0.length c0,.slice A1 l1.length c1,.slice A2 l2.length c2,.slice A3 l3.length c3,.int .i64 st]) (K:=[]) (N:=[]) (vK:=.slice none 0 0) (vN:=.slice none 0 0) (vl:=.slice (some ⟨W3.heap.size,0,none⟩) 1 1) (l:=[((-1,0):Itm)]) (okN:=fun _=>True) HG.out (Bd.apart H0.out (below_alloc (RowKit.Below.refl _ _) _) (fun k hk=>by injection hk with hk;exact Nat.le_of_eq hk)) (one_row W3 B (by omega)) (HX.out.small _ (List.mem_singleton.2 rfl)).2 (by simp) (by simp)
 rw [show numb [] [((-1,0):Itm)]=(0,[[(-1,0)]]) from rfl,hsz3] at hnum
 clear BG2 BR2 HB2 H0 HS3
 go_upto_region 7 with (go_at_call 28;(with_reducible refine hnum.mono ?_);rintro e w4 ⟨rfl,vK4,hd,hsz,hk⟩;have H4:=jM hd;clear hd hsz hk)
 clear hnum hsz3
 go_wp2_with fail
 refine wp_loop_num (fun n a W=>∃ (vK vN:Value) (K:List (List Itm)) (N:List (List Int)) (u8 u9 u10 u11 u12 u13 u14 u15 u16 u17 u18 u19 u20 u21 u22 u23 u24 u25 u26 u27 u28 u29 u30 u31 u32 u33 u34 u35 u36 u37 u38 u39 u40 u41 u42 u43 u44 u45 u46 u47 u48 u49 u50 u51 u52 u53 u54 u55 u56 u57 u58 u59 u60 u61 u62 u63 u64:Value),a={ tmps:=#[.agg #[.slice A0 l0.length c0,.slice A1 l1.length c1,.slice A2 l2.length c2,.slice A3 l3.length c3,.int .i64 st],.pointer (some ⟨w.heap.size,0,none⟩),.pointer (some ⟨w.heap.size+1,0,none⟩),.int .i64 0,.pointer (some ⟨B,0,none⟩),.pointer (some ⟨B+2,0,none⟩),.func (.func 28) #[] #[.pointer (some ⟨B+2,0,none⟩),.pointer (some ⟨B,0,none⟩)],.int .i64 N.length,u8,u9,u10,u11,u12,u13,u14,u15,u16,u17,u18,u19,u20,u21,u22,u23,u24,u25,u26,u27,u28,u29,u30,u31,u32,u33,u34,u35,u36,u37,u38,u39,u40,u41,u42,u43,u44,u45,u46,u47,u48,u49,u50,u51,u52,u53,u54,u55,u56,u57,u58,u59,u60,u61,u62,u63,u64],defers:=[] }∧Aside0 (Bx l0.length l2.length (gr st l3) R n K N)∧Aside0 (Bd w B #[.slice A0 l0.length c0,.slice A1 l1.length c1,.slice A2 l2.length c2,.slice A3 l3.length c3,.int .i64 st] K K N vK vN (fun _=>True) (fun _=>True) W)) 2003 ⟨_,_,_,_,_,_,_,_,_,_,_,_,_,_,_,_,_,_,_,_,_,_,_,_,_,_,_,_,_,_,_,_,_,_,_,_,_,_,_,_,_,_,_,_,_,_,_,_,_,_,_,_,_,_,_,_,_,_,_,_,_,rfl,HX,H4⟩ ?_
 clear HX H4
 rintro n a W ⟨vK,vN,K,N,u8,u9,u10,u11,u12,u13,u14,u15,u16,u17,u18,u19,u20,u21,u22,u23,u24,u25,u26,u27,u28,u29,u30,u31,u32,u33,u34,u35,u36,u37,u38,u39,u40,u41,u42,u43,u44,u45,u46,u47,u48,u49,u50,u51,u52,u53,u54,u55,u56,u57,u58,u59,u60,u61,u62,u63,u64,rfl,HX,HI⟩
 obtain ⟨n,rfl⟩:=HX.out.pos
 obtain ⟨AK,cK,eK⟩:=Kd.S_slice HI.out.ks
 obtain ⟨AN,cN,eN⟩:=Kd.S_slice HI.out.ns
 subst eK
 subst eN
 rw [List.length_map] at HI
 have a0:W.cell? ⟨B,0,none⟩=some (.slice AK K.length cK):=blk_cell HI.out.ba 0
 cases hc:K[N.length]? with
 | none =>
  have hle:=List.getElem?_eq_none_iff.1 hc
  have hltb:decide (N.length < K.length)=false:=decide_eq_false (by omega)
  have HRR:=jM (HX.out.fine hc)
  have a1:W.cell? ⟨B,1,none⟩=some (.slice AN N.length cN):=blk_cell HI.out.ba 1
  have y0:W.cell? ⟨w.heap.size+1,0,none⟩=some (.slice none 0 0):=blk_cell HI.out.br 0
  have y1:W.cell? ⟨w.heap.size+1,1,none⟩=some (.slice none 0 0):=blk_cell HI.out.br 1
  have f2:=blk_frozen HI.out.br 0
  have f3:=blk_frozen HI.out.br 1
  clear hle hc
  go_wp2
  refine bodyPost_ret (results_ct rfl _ _ (w.heap.size+1) 44 #[.slice AK K.length cK,.slice AN N.length cN] (0,0) _ rfl (blk_put (blk_put HI.out.br 0 _ rfl) 1 _ rfl) Tryz.underlying44 rfl (by kernel_rfl)) rfl ?_
  rw [HRR.out]
  have hB:=HI.out.hB
  refine ⟨_,_,rfl, ?_, ?_, ?_⟩
  ·exact Kd.S_mono (Kd.S_lower (Kd.S_far (Kd.S_far HI.out.ks (fun k hk=>by have:=hk.1;show k≠w.heap.size+1;omega) _) (fun k hk=>by have:=hk.1;show k≠w.heap.size+1;omega) _) (by omega)) (fun _ _=>trivial)
  ·exact Kd.S_mono (Kd.S_lower (Kd.S_far (Kd.S_far HI.out.ns (fun k hk=>by have:=hk.1;show k≠w.heap.size+1;omega) _) (fun k hk=>by have:=hk.1;show k≠w.heap.size+1;omega) _) (by omega)) (fun _ _=>trivial)
  ·exact below_set (below_set HI.out.hb (Nat.le_succ _)) (Nat.le_succ _)
 | some c =>
  obtain ⟨ad,nK,A,cc,eK2,hcell,hcc,hC⟩:=kernel_at HI.out hc
  injection eK2 with e1 e2 e3
  subst e1
  subst e3
  obtain ⟨hlt, -⟩:=List.getElem?_eq_some_iff.1 hc
  have hltb:decide (N.length < K.length)=true:=decide_eq_true (by omega)
  have hsm:=HX.out.small c (List.mem_of_getElem? hc)
  obtain ⟨all,hall⟩:∃ all,all=risen (closedL (gr st l3) c):=⟨_,rfl⟩
  have hcl:=closed_is HVB.out HPB.out hsm
  rw [← hall] at hcl
  have HALL:=jM hall
  have HCALL:Aside0 (∀ W',RowKit.Below W.heap.size W W'→Calls Tryz.prog 30 #[.agg #[.slice A0 l0.length c0,.slice A1 l1.length c1,.slice A2 l2.length c2,.slice A3 l3.length c3,.int .i64 st],.slice A c.length cc] W' fun e w'=>∃ A8 c8,e=.returned (.slice A8 all.length c8)∧Aside0 (Kd.R k77 77 w' (B+3) (fun k=>B+3≤k) (.slice A8 all.length c8) (all.map ofI))∧Aside0 (RowKit.Below W.heap.size W w')):=⟨fun W' hb=>by
   have hq:=states_closed.calls A0 c0 l0 A1 c1 l1 A2 c2 l2 A3 c3 l3 st A cc (c.map ofI) (all.map ofI) W' (Kd.C_below HR0.out (below_step HI.out.hb hb)) HC0.out (Kd.C_below HR1.out (below_step HI.out.hb hb)) HC1.out (Kd.C_below HR2.out (below_step HI.out.hb hb)) HC2.out (Kd.C_below HR3.out (below_step HI.out.hb hb)) HC3.out (by rw [List.length_map];exact Kd.C_below hC hb) (by rw [List.length_map];exact hcc) hcl
   rw [List.length_map] at hq
   refine hq.mono ?_
   rintro e w' ⟨v,rfl,hR,hb2⟩
   obtain ⟨A8,c8,rfl⟩:=Kd.R_slice hR
   rw [List.length_map] at hR ⊢
   exact ⟨A8,c8,rfl,⟨R_up hR (Nat.le_trans HI.out.size hb.size)⟩,⟨below_step hb hb2⟩⟩⟩
  obtain ⟨z0,z1,z2,z3,z4⟩:=five5 HI.out.bg
  have HCC:=jM hc
  have HSM:=jM hsm
  clear hcl hall hC hcc hc hsm e2
  go_upto_region 10 with fail
  obtain ⟨K9,hK9⟩:∃ K9:Act→World→Prop,K9=(fun a W'=>∃ (A8:Option Addr) (c8:Nat) (u9 u10 u11 u12 u13 u14 u15 u16 u17 u18 u19 u20 u21 u22 u23 u24 u25 u26 u27 u28 u29 u30 u31 u32 u33 u34 u35 u36 u37 u38 u39 u40 u41 u42 u43 u44 u45 u46 u47 u48 u49 u50 u51 u52 u53 u54 u55 u56 u57 u58 u59 u60 u61 u62 u63 u64:Value),a={ tmps:=#[.agg #[.slice A0 l0.length c0,.slice A1 l1.length c1,.slice A2 l2.length c2,.slice A3 l3.length c3,.int .i64 st],.pointer (some ⟨w.heap.size,0,none⟩),.pointer (some ⟨w.heap.size+1,0,none⟩),.int .i64 0,.pointer (some ⟨B,0,none⟩),.pointer (some ⟨B+2,0,none⟩),.func (.func 28) #[] #[.pointer (some ⟨B+2,0,none⟩),.pointer (some ⟨B,0,none⟩)],.int .i64 N.length,.slice A8 all.length c8,u9,u10,u11,u12,u13,u14,u15,u16,u17,u18,u19,u20,u21,u22,u23,u24,u25,u26,u27,u28,u29,u30,u31,u32,u33,u34,u35,u36,u37,u38,u39,u40,u41,u42,u43,u44,u45,u46,u47,u48,u49,u50,u51,u52,u53,u54,u55,u56,u57,u58,u59,u60,u61,u62,u63,u64],defers:=[] }∧Aside0 (RowKit.Below W.heap.size W W')∧Aside0 (Kd.R k77 77 W' (B+3) (fun k=>B+3≤k) (.slice A8 all.length c8) (all.map ofI))):=⟨_,rfl⟩
  have HK9:=jM hK9
  clear hK9
  refine Code.wp_mono (Q:=Exit.then K9 (fun _ _ _=>False)) ?post ?reg
  case reg =>
   go_region_with (go_at_call 30;(with_reducible refine (HCALL.out _ (by repeat (first | exact RowKit.Below.refl _ _ | apply below_drew1 | apply pw_below_drewN))).mono ?_);rintro e w5 ⟨A8,c8,rfl,HR8,HB8⟩)
   all_goals (show K9 _ _;rw [HK9.out];exact ⟨_,_,_,_,_,_,_,_,_,_,_,_,_,_,_,_,_,_,_,_,_,_,_,_,_,_,_,_,_,_,_,_,_,_,_,_,_,_,_,_,_,_,_,_,_,_,_,_,_,_,_,_,_,_,_,_,_,_,rfl,⟨by repeat (first | exact HB8.out | apply below_drew1 | apply pw_below_drewN)⟩,⟨by repeat (first | exact HR8.out | apply Kd.R_drew | refine Kd.R_drewN ?_ _)⟩⟩)
  case post =>
   clear z0 z1 z2 z3 z4 hcell HCALL a0 hlt hltb
   intro e a' W1 he
   cases e with
   | normal =>
    replace he:K9 a' W1:=he
    rw [HK9.out] at he
    obtain ⟨A8,c8,u9,u10,u11,u12,u13,u14,u15,u16,u17,u18,u19,u20,u21,u22,u23,u24,u25,u26,u27,u28,u29,u30,u31,u32,u33,u34,u35,u36,u37,u38,u39,u40,u41,u42,u43,u44,u45,u46,u47,u48,u49,u50,u51,u52,u53,u54,u55,u56,u57,u58,u59,u60,u61,u62,u63,u64,rfl,HB9,HA9⟩:=he
    clear HK9
    have HI9:=jM (HI.out.below HB9.out)
    clear HI HB9
    obtain ⟨z0,z1,z2,z3,z4⟩:=five5 HI9.out.bg
    obtain ⟨syms,hsyms⟩:∃ s,s=symsL l0.length l2.length:=⟨_,rfl⟩
    have hsy:=symbols_is l0 l1 l2 l3 st (terms_few HVB.out) (fits_of HVB.out).sorts
    have hsl:syms.length≤120:=by rw [hsyms,symsL_len];have:=terms_few HVB.out;have:=(fits_of HVB.out).sorts;omega
    rw [← hsyms] at hsy
    have HSY:=jM hsyms
    have HSL:=jM hsl
    clear hsyms hsl
    go_wp2_with (go_at_call 31;(with_reducible refine (states_symbols.calls 300 _ _ l0 _ _ l1 _ _ l2 _ _ l3 st syms W1 (Kd.C_below HR0.out HI9.out.hb) HC0.out (Kd.C_below HR1.out HI9.out.hb) HC1.out (Kd.C_below HR2.out HI9.out.hb) HC2.out (Kd.C_below HR3.out HI9.out.hb) HC3.out hsy).mono ?_);rintro e w10 ⟨v7,rfl,hR7,hb7⟩;obtain ⟨A7,c7,e7⟩:=Kd.R_slice hR7;subst e7;have HS10:=jM (R_up hR7 HI9.out.size);have HB10:=jM hb7;clear hR7 hb7)
    clear z0 z1 z2 z3 z4 hsy
    have HJ10:=jM (Bd.later (HI9.out.below HB10.out))
    have HA10:=jM (Kd.R_below HA9.out HB10.out)
    have HBn:=jM HJ10.out.size
    obtain ⟨Bn,hBn⟩:∃ b,b=w10.heap.size:=⟨_,rfl⟩
    have HLE:=jM (Nat.le_of_eq hBn)
    rw [← hBn] at HBn HJ10
    clear HI9 HA9 HB10 hBn
    refine wp_loop_num (fun n2 a W'=>∃ (j:Nat) (v9 vK':Value) (nums:List Int) (K':List (List Itm)) (u10 u11 u12 u13 u14 u15 u16 u17 u18 u19 u20 u21 u22 u23 u24 u25 u26 u27 u28 u29 u30 u31 u32 u33 u34 u35 u36 u40 u41 u42 u43 u44 u45 u46 u47 u48 u49 u50 u51 u52 u53 u54 u55 u56 u57 u58 u59 u60 u61 u62 u63 u64:Value),a={ tmps:=#[.agg #[.slice A0 l0.length c0,.slice A1 l1.length c1,.slice A2 l2.length c2,.slice A3 l3.length c3,.int .i64 st],.pointer (some ⟨w.heap.size,0,none⟩),.pointer (some ⟨w.heap.size+1,0,none⟩),.int .i64 0,.pointer (some ⟨B,0,none⟩),.pointer (some ⟨B+2,0,none⟩),.func (.func 28) #[] #[.pointer (some ⟨B+2,0,none⟩),.pointer (some ⟨B,0,none⟩)],.int .i64 N.length,.slice A8 all.length c8,v9,u10,u11,u12,u13,u14,u15,u16,u17,u18,u19,u20,u21,u22,u23,u24,u25,u26,u27,u28,u29,u30,u31,u32,u33,u34,u35,u36,.slice A7 syms.length c7,.int .i64 syms.length,.int .i64 j,u40,u41,u42,u43,u44,u45,u46,u47,u48,u49,u50,u51,u52,u53,u54,u55,u56,u57,u58,u59,u60,u61,u62,u63,u64],defers:=[] }∧n2=syms.length - j∧Aside0 (Rx (Sg (gr st l3) c) syms (rowL (Sg (gr st l3) c) syms K) j nums K')∧Aside0 (Bd w B #[.slice A0 l0.length c0,.slice A1 l1.length c1,.slice A2 l2.length c2,.slice A3 l3.length c3,.int .i64 st] K' K' N vK' (.slice AN N.length cN) (fun _=>True) (fun k=>k < Bn) W')∧Aside0 (Kd.R k77 77 W' (B+3) (fun k=>B+3≤k) (.slice A8 all.length c8) (all.map ofI))∧Aside0 (Kd.R (Kd.int .i64) 56 W' (B+3) (fun k=>B+3≤k) (.slice A7 syms.length c7) syms)∧Aside0 (Kd.R (Kd.int .i64) 3 W' Bn (fun k=>Bn≤k) v9 nums)∧Aside0 (Bn≤W'.heap.size)) syms.length ⟨0,_,_,[],K,_,_,_,_,_,_,_,_,_,_,_,_,_,_,_,_,_,_,_,_,_,_,_,_,_,_,_,_,_,_,_,_,_,_,_,_,_,_,_,_,_,_,_,_,_,_,_,_,_,_,_,_,rfl,by omega,⟨Rx.start HX.out _ _⟩,HJ10,HA10,HS10,⟨Kd.R_nil _ _ _ _ _⟩,HLE⟩ ?_
    clear HJ10 HA10 HS10 HLE
    rintro n2 a W' ⟨j,v9,vK',nums,K',u10,u11,u12,u13,u14,u15,u16,u17,u18,u19,u20,u21,u22,u23,u24,u25,u26,u27,u28,u29,u30,u31,u32,u33,u34,u35,u36,u40,u41,u42,u43,u44,u45,u46,u47,u48,u49,u50,u51,u52,u53,u54,u55,u56,u57,u58,u59,u60,u61,u62,u63,u64,rfl,hn2,HRX,HJ,HA,HS,HN,HBN⟩
    by_cases hj:j < syms.length
    ·have hjb:decide (j < syms.length)=true:=decide_eq_true (by omega)
     obtain ⟨ad7,e7,hx⟩:=Kd.at_int (Kd.R_reads' HS.out).2.2 (j:Int) (by omega) (by omega)
     subst e7
     rw [Int.toNat_natCast] at hx
     obtain ⟨s,hs⟩:∃ s,rd syms j=s:=⟨_,rfl⟩
     rw [hs] at hx
     obtain ⟨ls,hls⟩:∃ ls,ls=Sg (gr st l3) c s:=⟨_,rfl⟩
     have hsm2:ls.length≤1562∧∀ x ∈ ls,rngI x:=by rw [hls];exact Sg_small (fits_of HVB.out) c s
     have HLS:=jM hls
     have HSM2:=jM hsm2
     have HRN:=jM (hls ▸ Rx.next HRX.out hj hs (by rw [← hls];exact hsm2))
     have hst:=step_is HVB.out c s
     rw [← HALL.out,← hls] at hst
     have HSTEP:Aside0 (Calls Tryz.prog 32 #[.agg #[.slice A0 l0.length c0,.slice A1 l1.length c1,.slice A2 l2.length c2,.slice A3 l3.length c3,.int .i64 st],.slice A8 all.length c8,.int .i64 s] W' fun e w'=>∃ v0:Value,e=.returned v0∧Kd.R k77 77 w' W'.heap.size (fun _=>True) v0 (ls.map ofI)∧RowKit.Below W'.heap.size W' w'):=⟨by
      have hRA:=Kd.R_reads' HA.out
      rw [List.length_map] at hRA
      have hq:=states_step.calls A0 c0 l0 A1 c1 l1 A2 c2 l2 A3 c3 l3 st A8 c8 (all.map ofI) s (ls.map ofI) W' (Kd.C_below HR0.out HJ.out.hb) HC0.out (Kd.C_below HR1.out HJ.out.hb) HC1.out (Kd.C_below HR2.out HJ.out.hb) HC2.out (Kd.C_below HR3.out HJ.out.hb) HC3.out (by rw [List.length_map];exact hRA.2.2) (by rw [List.length_map];exact hRA.2.1) hst
      rw [List.length_map] at hq
      exact hq⟩
     obtain ⟨z0,z1,z2,z3,z4⟩:=five5 HJ.out.bg
     have hjw:IntKind.i64.wrap ((j:Int)+1)=((j+1:Nat):Int):=by
      have:=HSL.out
      rw [IntWalk.i64_in _ (by omega)]
      rfl
     have HK:=jM (show K'.length≤3000 by have:=HRX.out.few;have:=HSL.out;omega)
     have HNL:=jM (show nums.length≤120 by have:=HRX.out.len;have:=HSL.out;omega)
     clear hst hls hsm2 hs
     go_upto_region 16 with (first
      | (go_at_call 32;(with_reducible refine HSTEP.out.mono ?_);rintro e w11 ⟨v11,rfl,hR11,hb11⟩;have HNUM:=jM (number_calls (okN:=fun k=>k < Bn) HG.out (Bd.apart HJ.out hb11 (fun k hk=>Kd.R_base hR11 k hk)) (R_up hR11 HJ.out.size) HSM2.out.2 (Nat.le_trans HSM2.out.1 (by omega)) HK.out);have HA11:=jM (Kd.R_below HA.out hb11);have HS11:=jM (Kd.R_below HS.out hb11);have HN11:=jM (Kd.R_below HN.out hb11);have HB11:=jM (Nat.le_trans HBN.out hb11.size);have HT11:=jM (Kd.S_typed (Kd.S_below HJ.out.ks hb11));clear hR11 hb11)
      | (go_at_call 28;(with_reducible refine HNUM.out.mono ?_);rintro e w12 ⟨rfl,vK2,hd,hsz,hkp⟩;have HJ12:=jM hd;have HA12:=jM (R_numb HA11.out HT11.out (by decide) (Nat.le_refl _) hkp);have HS12:=jM (R_numb HS11.out HT11.out (by decide) (Nat.le_refl _) hkp);have HN12:=jM (R_numb HN11.out HT11.out (by decide) HBn.out hkp);have HB12:=jM (Nat.le_trans HB11.out hsz);clear hd hsz hkp)
      | ((with_reducible refine gate_builtin (b:=.append) (xs:=#[.tmp 43,.tmp 50]) rfl ?_);at_builtin;refine Kd.R_append (Kd.int .i64) (w0:=w12) Bn rfl (.tmp 43) (.tmp 50) 50 3 (.int .i64 0) 8 rfl Tryz.underlying50 info3 rfl (by decide) (by omega) v9 nums (numb K' ls).1 [.int .i64 (numb K' ls).1] (fun k=>Bn≤k) (fun _=>False) rfl rfl rfl (fun _ hk=>hk.elim) (fun k hk=>Nat.le_trans HB12.out hk) HN12.out (RowKit.Below.refl _ _) HB12.out ?aL ?_;(case aL=>have:=HNL.out;omega);intro v13 w13 ho hb hg hat;have HN13:=jM ho;have HJ13:=jM (Bd.other HJ12.out (Kd.R_typed HN12.out) (Kd.R_base HN12.out) HBn.out hg);have HA13:=jM (Kd.R_over' HA12.out (Kd.R_typed HN12.out) (by decide) hg);have HS13:=jM (Kd.R_over' HS12.out (Kd.R_typed HN12.out) (by decide) hg);have HB13:=jM (Nat.le_trans HB12.out hg.size);clear ho hb hg hat))
     go_wp2_with fail
     exact ⟨syms.length - (j+1),by omega,j+1,v13,vK2,_,_,_,_,_,_,_,_,_,_,_,_,_,_,_,_,_,_,_,_,_,_,_,_,_,_,_,_,_,_,_,_,_,_,_,_,_,_,_,_,_,_,_,_,_,_,_,_,_,_,_,_,_,_,rfl,rfl,HRN,HJ13,HA13,HS13,HN13,HB13⟩
    ·have hjb:decide (j < syms.length)=false:=decide_eq_false (by omega)
     have hjl:j=syms.length:=by have:=HRX.out.le;omega
     have HDN:=jM (HRX.out.done hjl)
     have HSM3:=jM HRX.out.small
     clear hjl
     obtain ⟨A9,c9,e9⟩:=Kd.R_slice HN.out
     subst e9
     obtain ⟨AK2,cK2,eK2⟩:=Kd.S_slice HJ.out.ks
     subst eK2
     rw [List.length_map] at HJ
     have a1:W'.cell? ⟨B,1,none⟩=some (.slice AN N.length cN):=blk_cell HJ.out.ba 1
     have HN9:=jM (R_up HN.out HBn.out)
     have HOW:Aside0 (∀ k,some k=(Value.slice A9 nums.length c9).ownBlock→some k≠(Value.slice AN N.length cN).ownBlock):=⟨fun k e e'=>by
      obtain ⟨q1,h1⟩:=Kd.R_typed HN.out k e.symm
      obtain ⟨q2,h2⟩:=Kd.S_typed HJ.out.ns k e'.symm
      rw [h1] at h2
      cases h2⟩
     have HNS:=jM (Kd.S_mono HJ.out.ns (ok':=fun k=>B+3≤k∧¬ (some k=(Value.slice A9 nums.length c9).ownBlock∧B+3≤k)) (fun k hk=>⟨hk.1,fun h2=>by have:=Kd.R_base HN.out k h2.1.symm;have:=hk.2;omega⟩))
     have HNL:=jM (show N.length≤3000 by have:=HX.out.n3;omega)
     go_upto_region 18 with (first | ((with_reducible refine gate_builtin (b:=.append) (xs:=#[.tmp 54,.tmp 56]) rfl ?_);at_builtin;refine Kd.S_append (Kd.slice 3 (Kd.int .i64)) (w0:=W') (B+3) rfl (.tmp 54) (.tmp 56) 31 50 (.slice none 0 0) 24 rfl Tryz.underlying31 info50 rfl (by decide) (by omega) (.slice AN N.length cN) N nums [.slice A9 nums.length c9] (fun k=>B+3≤k) (fun k=>some k=(Value.slice A9 nums.length c9).ownBlock∧B+3≤k) rfl rfl ⟨_,rfl,Kd.R_tight2 rfl HN9.out⟩ (fun k hk=>⟨hk.2,HOW.out k hk.1⟩) (fun k hk=>Nat.le_trans HJ.out.size hk) HNS.out (RowKit.Below.refl _ _) HJ.out.size ?aL ?_;(case aL=>have:=HNL.out;omega);intro v14 w14 ho hb hg hat;obtain ⟨A14,c14,e14⟩:=Kd.S_slice ho;have e15:(N ++ [nums]).length=N.length+1:=(by simp);rw [e15] at e14;subst e14;clear e15;have HJ15:=jM (Bd.appN HJ.out ho hg);have c6:w14.cell? ⟨B,1,none⟩=some (.slice AN N.length cN):=blk_cell ((hg.block _ (blk_lt HJ.out.ba) (fun e=>by have:=Kd.S_base HJ.out.ns _ e.symm;omega)).trans HJ.out.ba) 1;have f6:=blk_frozen ((hg.block _ (blk_lt HJ.out.ba) (fun e=>by have:=Kd.S_base HJ.out.ns _ e.symm;omega)).trans HJ.out.ba) 1;clear ho hb hg hat))
     clear a1
     generalize w14.setCell ⟨B,1,none⟩ (.slice A14 (N.length+1) c14)=W15 at *
     clear HS HA HN HJ HN9 HOW HNS c6 f6
     have a0:W15.cell? ⟨B,0,none⟩=some (.slice AK2 K'.length cK2):=blk_cell HJ15.out.ba 0
     have HON:=jM (HX.out.on HCC.out (K':=K') (nums:=nums) (by have:=HDN.out;rw [HSY.out] at this;exact this) HSM3.out)
     by_cases hmany:2000 < K'.length
     ·have hmb:decide (2000 < K'.length)=true:=decide_eq_true hmany
      have HRR:=jM (HON.out.1 hmany)
      have y0:W15.cell? ⟨w.heap.size+1,0,none⟩=some (.slice none 0 0):=blk_cell HJ15.out.br 0
      have y1:W15.cell? ⟨w.heap.size+1,1,none⟩=some (.slice none 0 0):=blk_cell HJ15.out.br 1
      have f2:=blk_frozen HJ15.out.br 0
      have f3:=blk_frozen HJ15.out.br 1
      go_wp2
      refine bodyPost_ret (results_ct rfl _ _ (w.heap.size+1) 44 #[.slice none 0 0,.slice none 0 0] (0,0) _ rfl (blk_put (blk_put HJ15.out.br 0 _ rfl) 1 _ rfl) Tryz.underlying44 rfl (by kernel_rfl)) rfl ?_
      rw [HRR.out]
      exact ⟨_,_,rfl,Kd.S_nil _ _ _ _ _,Kd.S_nil _ _ _ _ _,below_set (below_set HJ15.out.hb (Nat.le_succ _)) (Nat.le_succ _)⟩
     ·have hmb:decide (2000 < K'.length)=false:=decide_eq_false hmany
      have HBX:=jM (HON.out.2 hmany)
      have hN1:IntKind.i64.wrap ((N.length:Int)+1)=(((N ++ [nums]).length:Nat):Int):=by
       have:=HNL.out
       rw [List.length_append,List.length_singleton,IntWalk.i64_in _ (by omega)]
       rfl
      go_wp2_with fail
      exact ⟨n,Nat.lt_succ_self n,_,_,K',N ++ [nums],by rw [List.length_append,List.length_singleton];rfl,HBX,HJ15⟩
   | _=>exact he.elim

theorem states_Build.calls (A0:Option Addr) (c0:Nat) (l0:List S65) (A1:Option Addr) (c1:Nat) (l1:List S73) (A2:Option Addr) (c2:Nat) (l2:List ByteArray) (A3:Option Addr) (c3:Nat) (l3:List S68) (st:Int) (r1:List (List S77)) (r2:List (List Int)) (r3:Int) (w:World) (hG:GTab w)
  (hr0:Kd.C k65 w A0 l0.length l0) (hc0:l0.length≤c0) (hr1:Kd.C k73 w A1 l1.length l1) (hc1:l1.length≤c1) (hr2:Kd.C Kd.string w A2 l2.length l2) (hc2:l2.length≤c2) (hr3:Kd.C k68 w A3 l3.length l3) (hc3:l3.length≤c3) (h:states_Build.f l0 l1 l2 l3 st=some (r1,r2,r3)) :
  Calls Tryz.prog 14 #[.agg #[.slice A0 l0.length c0,.slice A1 l1.length c1,.slice A2 l2.length c2,.slice A3 l3.length c3,.int .i64 st]] w fun e w'=>∃ v0_ v1_:Value,e=.returned (.tuple #[.agg #[v0_,v1_],.int .i64 r3])∧Kd.S (Kd.slice 77 k77) 75 w' w.heap.size (fun _=>True) v0_ r1∧Kd.S (Kd.slice 3 (Kd.int .i64)) 50 w' w.heap.size (fun _=>True) v1_ r2∧Below w.heap.size w w':=by
 unfold states_Build.f at h
 cases hv:validB l0 l1 l2 l3 st with
 | false =>
  rw [hv,if_neg (by decide)] at h
  have h:=Option.some.inj h
  obtain ⟨rfl,h2⟩:=Prod.mk.inj h
  obtain ⟨rfl,rfl⟩:=Prod.mk.inj h2
  refine (build_bad A0 c0 l0 A1 c1 l1 A2 c2 l2 A3 c3 l3 st w hr0 hc0 hr1 hc1 hr2 hc2 hr3 hc3 hv).mono ?_
  rintro e w' ⟨rfl,hb⟩
  exact ⟨_,_,rfl,Kd.S_nil _ _ _ _ _,Kd.S_nil _ _ _ _ _,hb⟩
 | true =>
  rw [hv,if_pos rfl] at h
  split at h
  ·rename_i hp
   obtain ⟨R,hR,hO⟩:=Option.map_eq_some_iff.1 h
   have hz:=build_good A0 c0 l0 A1 c1 l1 A2 c2 l2 A3 c3 l3 st R w hG hr0 hc0 hr1 hc1 hr2 hc2 hr3 hc3 hv hp hR
   rw [hO] at hz
   exact hz
  ·cases h
end
end Go.Proofs.YtclollnicbcooaaGreatDoor.P
namespace Go.Proofs.YtclollnicbcooaaGreatDoor.P
open Go.RowKit YtclollnicbcooaaGreatDoorW.PrintWords YtclollnicbcooaaGreatDoorW.PrintLast YtclollnicbcooaaGreatDoorW.PrintMore
section
attribute [local go_sem] max2_int min2_int max_two min_two max_three min_three max_four min_four

attribute [local go_sem high] eqA77
/-! ### states_Go: function 25 -/
def states_Go.f (l0_0:List (S65)) (l0_1:List (S73)) (l0_2:List ByteArray) (l0_3:List (S68)) (a0_4:Int) (l1_0:List (List (S77))) (l1_1:List (List Int)) (a2:Int) (a3:Int):Option (Int):=if a3 < 0 then (if a2 < 0 then (some (-1)) else (if a2 ≥ (l1_1.length:Int) then (some (-1)) else (if (wrap64 ((l0_0.length:Int)+(wrap64 ((-1) - a3)))) < 0 then (some (-1)) else (if 0≤a2 then (if a2 < (l1_1.length:Int) then (if (wrap64 ((l0_0.length:Int)+(wrap64 ((-1) - a3)))) ≥ ((rd_L17 l1_1 a2).length:Int) then (some (-1)) else (if 0≤(wrap64 ((l0_0.length:Int)+(wrap64 ((-1) - a3)))) then (if (wrap64 ((l0_0.length:Int)+(wrap64 ((-1) - a3)))) < ((rd_L17 l1_1 a2).length:Int) then (some (rd (rd_L17 l1_1 a2) (wrap64 ((l0_0.length:Int)+(wrap64 ((-1) - a3)))))) else (none)) else (none))) else (none)) else (none))))) else (if a3 ≥ (l0_0.length:Int) then (some (-1)) else (if a2 < 0 then (some (-1)) else (if a2 ≥ (l1_1.length:Int) then (some (-1)) else (if 0≤a2 then (if a2 < (l1_1.length:Int) then (if a3 ≥ ((rd_L17 l1_1 a2).length:Int) then (some (-1)) else (if 0≤a3 then (if a3 < ((rd_L17 l1_1 a2).length:Int) then (some (rd (rd_L17 l1_1 a2) a3)) else (none)) else (none))) else (none)) else (none)))))
def goF (N:List (List Int)) (a q:Int):Option Int:=if a < 0 then some (-1) else if a ≥ (N.length:Int) then some (-1) else if q < 0 then some (-1) else if q ≥ ((rd_L17 N a).length:Int) then some (-1) else some (Go.Proofs.YtclollnicbcooaaGreatDoorW.PrintWords.rd (rd_L17 N a) q)
theorem go_f (l0:List S65) (l1:List S73) (l2:List ByteArray) (l3:List S68) (st:Int) (Ka:List (List S77)) (N:List (List Int)) (a s:Int):states_Go.f l0 l1 l2 l3 st Ka N a s=if s < 0 then goF N a (wrap64 ((l0.length:Int)+(wrap64 ((-1) - s)))) else if s ≥ (l0.length:Int) then some (-1) else goF N a s:=by
 unfold states_Go.f goF
 generalize wrap64 ((l0.length:Int)+(wrap64 ((-1) - s)))=w
 by_cases hs:s < 0
 ·simp only [if_pos hs]
  by_cases h1:a < 0
  ·simp only [if_pos h1]
  ·by_cases h2:a ≥ (N.length:Int)
   ·simp only [if_neg h1,if_pos h2]
   ·by_cases h3:w < 0
    ·simp only [if_neg h1,if_neg h2,if_pos h3]
    ·by_cases h4:w ≥ ((rd_L17 N a).length:Int)
     ·simp only [if_neg h1,if_neg h2,if_neg h3,if_pos h4,if_pos (show 0≤a by omega),if_pos (show a < (N.length:Int) by omega)]
     ·simp only [if_neg h1,if_neg h2,if_neg h3,if_neg h4,if_pos (show 0≤a by omega),if_pos (show a < (N.length:Int) by omega),if_pos (show 0≤w by omega),if_pos (show w < ((rd_L17 N a).length:Int) by omega)]
 ·simp only [if_neg hs]
  by_cases h0:s ≥ (l0.length:Int)
  ·simp only [if_pos h0]
  ·simp only [if_neg h0]
   by_cases h1:a < 0
   ·simp only [if_pos h1]
   ·by_cases h2:a ≥ (N.length:Int)
    ·simp only [if_neg h1,if_pos h2]
    ·by_cases h4:s ≥ ((rd_L17 N a).length:Int)
     ·simp only [if_neg h1,if_neg h2,if_pos h4,if_pos (show 0≤a by omega),if_pos (show a < (N.length:Int) by omega)]
     ·simp only [if_neg h1,if_neg h2,if_neg h4,if_pos (show 0≤a by omega),if_pos (show a < (N.length:Int) by omega),if_pos (show 0≤s by omega),if_pos (show s < ((rd_L17 N a).length:Int) by omega)]

set_option maxHeartbeats 8000000 in
set_option maxRecDepth 100000 in
theorem go_walk (A0:Option Addr) (c0:Nat) (l0:List S65) (A1:Option Addr) (c1:Nat) (l1:List S73) (A2:Option Addr) (c2:Nat) (l2:List ByteArray) (A3:Option Addr) (c3:Nat) (l3:List S68) (st:Int) (AK:Option Addr) (cK:Nat) (K:List (List S77)) (AN:Option Addr) (cN:Nat) (N:List (List Int)) (a s:Int) (r:Int) (w:World)
  (hn:Kd.C (Kd.slice 3 (Kd.int .i64)) w AN N.length N) (h:states_Go.f l0 l1 l2 l3 st K N a s=some r) :
  Calls Tryz.prog 16 #[.agg #[.slice A0 l0.length c0,.slice A1 l1.length c1,.slice A2 l2.length c2,.slice A3 l3.length c3,.int .i64 st],.agg #[.slice AK K.length cK,.slice AN N.length cN],.int .i64 a,.int .i64 s] w fun e w'=>e=.returned (.int .i64 r)∧Below w.heap.size w w':=by
 have hu27:=Tryz.underlying27
 have hu44:=Tryz.underlying44
 rw [go_f] at h
 have HN:=jM hn
 have HH:=jM h
 clear hn h
 go_enter Tryz.func16,Tryz.ntmps16
 go_upto_region 1 with fail
 have B0:=jM (jX (blk_new w (Obj.cells #[.slice A0 l0.length c0,.slice A1 l1.length c1,.slice A2 l2.length c2,.slice A3 l3.length c3,.int .i64 st] 27)) (Obj.cells #[.slice AK K.length cK,.slice AN N.length cN] 44))
 have B1:=jM (blk_new (w.alloc (Obj.cells #[.slice A0 l0.length c0,.slice A1 l1.length c1,.slice A2 l2.length c2,.slice A3 l3.length c3,.int .i64 st] 27)) (Obj.cells #[.slice AK K.length cK,.slice AN N.length cN] 44))
 rw [World.size_alloc] at B1
 have HB:=jM (jA (jA (Below.refl w.heap.size w) (Obj.cells #[.slice A0 l0.length c0,.slice A1 l1.length c1,.slice A2 l2.length c2,.slice A3 l3.length c3,.int .i64 st] 27)) (Obj.cells #[.slice AK K.length cK,.slice AN N.length cN] 44))
 generalize (w.alloc (Obj.cells #[.slice A0 l0.length c0,.slice A1 l1.length c1,.slice A2 l2.length c2,.slice A3 l3.length c3,.int .i64 st] 27)).alloc (Obj.cells #[.slice AK K.length cK,.slice AN N.length cN] 44)=w1 at *
 obtain ⟨y0,y1,y2,y3,y4⟩:=five5 B0.out
 have z0:w1.cell? ⟨w.heap.size+1,0,none⟩=some (.slice AK K.length cK):=jC B1.out 0
 have z1:w1.cell? ⟨w.heap.size+1,1,none⟩=some (.slice AN N.length cN):=jC B1.out 1
 have h:=HH.out
 clear HH
 -- by the symbol: the place q, or none
 by_cases hs:s < 0
 rotate_left
 by_cases h0:s ≥ (l0.length:Int)
 ·rw [if_neg hs,if_pos h0] at h
  obtain rfl:=Option.some.inj h
  have e1:decide (s < 0)=false:=decide_eq_false hs
  have e2:decide ((l0.length:Int)≤s)=true:=decide_eq_true h0
  go_wp2_with fail
  go_ret
  exact ⟨rfl,HB.out⟩
 rw [if_neg hs,if_neg h0] at h
 have e1:decide (s < 0)=false:=decide_eq_false hs
 have e2:decide ((l0.length:Int)≤s)=false:=decide_eq_false h0
 go_upto_region 6 with fail
 clear e1 e2 hs h0
 generalize s=q at *
 rotate_left
 rw [if_pos hs] at h
 have e1:decide (s < 0)=true:=decide_eq_true hs
 have ew:=i64_w (-1 - s)
 have ew2:=i64_w ((l0.length:Int)+wrap64 ((-1) - s))
 go_upto_region 6 with fail
 clear ew ew2 e1
 generalize wrap64 ((l0.length:Int)+(wrap64 ((-1) - s)))=q at *
 all_goals
  unfold goF at h
  by_cases k1:a < 0
  ·rw [if_pos k1] at h
   obtain rfl:=Option.some.inj h
   have f1:decide (a < 0)=true:=decide_eq_true k1
   clear k1
   go_wp2_with fail
   go_ret
   exact ⟨rfl,HB.out⟩
  ·rw [if_neg k1] at h
   have f1:decide (a < 0)=false:=decide_eq_false k1
   by_cases k2:a ≥ (N.length:Int)
   ·rw [if_pos k2] at h
    obtain rfl:=Option.some.inj h
    have f2:decide ((N.length:Int)≤a)=true:=decide_eq_true k2
    clear k1 k2
    go_wp2_with fail
    go_ret
    exact ⟨rfl,HB.out⟩
   ·rw [if_neg k2] at h
    have f2:decide ((N.length:Int)≤a)=false:=decide_eq_false k2
    by_cases k3:q < 0
    ·rw [if_pos k3] at h
     obtain rfl:=Option.some.inj h
     have f3:decide (q < 0)=true:=decide_eq_true k3
     clear k1 k2 k3
     go_wp2_with fail
     go_ret
     exact ⟨rfl,HB.out⟩
    ·rw [if_neg k3] at h
     have f3:decide (q < 0)=false:=decide_eq_false k3
     have p0:0≤a:=by omega
     have p1:a < (N.length:Int):=by omega
     obtain ⟨ad,Ar,cr,rfl,hx,hl,hi⟩:=at_L17 (jB HN.out HB.out) a p0 p1
     generalize rd_L17 N a=row at *
     by_cases k4:q ≥ (row.length:Int)
     ·rw [if_pos k4] at h
      obtain rfl:=Option.some.inj h
      have f4:decide ((row.length:Int)≤q)=true:=decide_eq_true k4
      clear k1 k2 k3 k4
      go_wp2_with fail
      go_ret
      exact ⟨rfl,HB.out⟩
     ·rw [if_neg k4] at h
      obtain rfl:=Option.some.inj h
      have f4:decide ((row.length:Int)≤q)=false:=decide_eq_false k4
      have q0:0≤q:=by omega
      have q1:q < (row.length:Int):=by omega
      obtain ⟨ad2,rfl,hx2⟩:=Kd.at_int hi q q0 q1
      clear k1 k2 k3 k4 hi hl
      go_wp2_with fail
      go_ret
      exact ⟨rfl,HB.out⟩
theorem states_Go.calls (A0_0:Option Addr) (c0_0:Nat) (l0_0:List (S65)) (A0_1:Option Addr) (c0_1:Nat) (l0_1:List (S73)) (A0_2:Option Addr) (c0_2:Nat) (l0_2:List ByteArray) (A0_3:Option Addr) (c0_3:Nat) (l0_3:List (S68)) (a0_4:Int) (A1_0:Option Addr) (c1_0:Nat) (l1_0:List (List (S77))) (A1_1:Option Addr) (c1_1:Nat) (l1_1:List (List Int)) (a2:Int) (a3:Int) (r:Int) (w:World) (hr0_0:Kd.C k65 w A0_0 l0_0.length l0_0) (hc0_0:l0_0.length≤c0_0) (hr0_1:Kd.C k73 w A0_1 l0_1.length l0_1) (hc0_1:l0_1.length≤c0_1) (hr0_2:Kd.C Kd.string w A0_2 l0_2.length l0_2) (hc0_2:l0_2.length≤c0_2) (hr0_3:Kd.C k68 w A0_3 l0_3.length l0_3) (hc0_3:l0_3.length≤c0_3) (hr1_0:Kd.C (Kd.slice 77 k77) w A1_0 l1_0.length l1_0) (hc1_0:l1_0.length≤c1_0) (hr1_1:Kd.C (Kd.slice 3 (Kd.int .i64)) w A1_1 l1_1.length l1_1) (hc1_1:l1_1.length≤c1_1) (h:states_Go.f l0_0 l0_1 l0_2 l0_3 a0_4 l1_0 l1_1 a2 a3=some r) :
  Calls Tryz.prog 16 #[.agg #[.slice A0_0 l0_0.length c0_0,.slice A0_1 l0_1.length c0_1,.slice A0_2 l0_2.length c0_2,.slice A0_3 l0_3.length c0_3,.int .i64 a0_4],.agg #[.slice A1_0 l1_0.length c1_0,.slice A1_1 l1_1.length c1_1],.int .i64 a2,.int .i64 a3] w fun e w'=>e=.returned (.int .i64 r)∧Below w.heap.size w w' :=
 go_walk A0_0 c0_0 l0_0 A0_1 c0_1 l0_1 A0_2 c0_2 l0_2 A0_3 c0_3 l0_3 a0_4 A1_0 c1_0 l1_0 A1_1 c1_1 l1_1 a2 a3 r w hr1_1 h
section
open St
/-! ### told by what can be reckoned -/
def risenC (l:List Itm):List Itm:=riseR l l.length []
theorem risen_c (l:List Itm):risen l=risenC l:=(risen_one (riseR_all l)).symm
def SgC (g:Gr) (c:List Itm) (s:Int):List Itm:=risenC (stepL g (risenC (closedL g c)) s)
theorem Sg_c (g:Gr):Sg g=SgC g:=by
 funext c s
 unfold Sg SgC
 rw [risen_c,risen_c]
theorem built_c (T S:Nat) (g:Gr):builtL T S g=buildL (SgC g) (symsL T S) 2000 2003 0 [[(-1,0)]] []:=by
 unfold builtL
 rw [Sg_c]

def e0:List S65:=[(⟨(⟨#[97]⟩:ByteArray),(⟨#[]⟩:ByteArray),false,0⟩:S65)]
def e2:List ByteArray:=[(⟨#[83]⟩:ByteArray)]
def e3:List S68:=[(⟨(⟨#[112]⟩:ByteArray),0,(([0]:List Int)),0⟩:S68)]
theorem C_one {α:Type} {d:Kd α} {W:World} {g t:Nat} {x:α} {c:List Value} (hb:W.heap[g]? = some (.cells c.toArray t (0,0))) (hK:d.K W x c):d.C W (some ⟨g,0,none⟩) 1 [x]:=by
 refine ⟨rfl,by decide,fun _=>⟨⟨g,0,none⟩,rfl,fun i p hi=>?_⟩⟩
 have h0:i=0:=by
  cases i with
  | zero=>rfl
  | succ i=>simp at hi
 subst h0
 have hp:x=p:=by simpa using hi
 subst hp
 refine ⟨c,d.K_len hK,hK,fun j u hu=>?_⟩
 have e:(⟨g,0,none⟩:Addr).add (0 * d.sz+j)=⟨g,j,none⟩:=by
  rw [Nat.zero_mul,Nat.zero_add]
  unfold Addr.add
  simp
  exact fun h=>h.symm
 rw [e,jC hb j]
 simpa using hu
structure Ge (n:Nat) (W:World):Prop where
 c0:W.heap[n]? = some (.cells #[.string ⟨#[97]⟩,.string ⟨#[]⟩,.bool false,.int .i64 0] 65 (0,0))
 c1:W.heap[n+1]? = some (.cells #[.string ⟨#[83]⟩] 9 (0,0))
 c2:W.heap[n+1+1]? = some (.cells #[.int .i64 0] 56 (0,0))
 c3:W.heap[n+1+1+1]? = some (.cells #[.string ⟨#[112]⟩,.int .i64 0,.slice (some ⟨n+1+1,0,none⟩) 1 1,.int .i64 0] 68 (0,0))
 c4:W.heap[n+1+1+1+1]? = some (.cells #[.slice (some ⟨n,0,none⟩) 1 1,.slice none 0 0,.slice (some ⟨n+1,0,none⟩) 1 1,.slice (some ⟨n+1+1+1,0,none⟩) 1 1,.int .i64 0] 27 (0,0))
abbrev aE (n:Nat):Value:=.agg #[.slice (some ⟨n,0,none⟩) 1 1,.slice none 0 0,.slice (some ⟨n+1,0,none⟩) 1 1,.slice (some ⟨n+1+1+1,0,none⟩) 1 1,.int .i64 0]
def kE:List (List S77):=[[⟨-1,0⟩],[⟨0,1⟩],[⟨-1,1⟩]]
def nE:List (List Int):=[[1,2],[-1, -1],[-1, -1]]
end
end
section
attribute [local go_sem] max2_int min2_int max_two min_two max_three min_three max_four min_four   -- for this text's walks alone

/-! ### bits_bit: function 50 -/
def bits_bit.f (a0:Int):Option (Int):=if a0 < 0 then (some 0) else (if a0 ≥ 64 then (some 0) else (if 0≤a0 then (some (shl .u64 1 a0)) else (none)))
set_option maxHeartbeats 8000000 in
set_option maxRecDepth 100000 in
theorem bits_bit.calls (a0:Int) (r:Int) (w:World) (h:bits_bit.f a0=some r) :
  Calls Tryz.prog 33 #[.int .i64 a0] w fun e w'=>e=.returned (.int .u64 r)∧Drawn0 w w':=by
 have H:(if a0 < 0 then (some 0) else (if a0 ≥ 64 then (some 0) else (if 0≤a0 then (some (shl .u64 1 a0)) else (none))))=some r:=h
 clear h
 by_cases c2:a0 < 0
 ·rw [if_pos c2] at H
  have c2b0:decide (a0 < 0)=true:=decide_eq_true c2
  clear c2
  obtain rfl:=Option.some.inj H
  go_enter Tryz.func33,Tryz.ntmps33
  go_wp2
  go_ret
  exact ⟨by first | rfl | (simp;done) | (simp [*];done),by repeat (first | exact Drawn0.refl _ | apply Drawn0.step)⟩
 ·rw [if_neg c2] at H
  have c2b0:decide (a0 < 0)=false:=decide_eq_false c2
  clear c2
  by_cases c3:a0 ≥ 64
  ·rw [if_pos c3] at H
   have c3b0:decide (64≤a0)=true:=decide_eq_true c3
   clear c3
   obtain rfl:=Option.some.inj H
   go_enter Tryz.func33,Tryz.ntmps33
   go_wp2
   go_ret
   exact ⟨by first | rfl | (simp;done) | (simp [*];done),by repeat (first | exact Drawn0.refl _ | apply Drawn0.step)⟩
  ·rw [if_neg c3] at H
   have c3b0:decide (64≤a0)=false:=decide_eq_false c3
   clear c3
   by_cases c4:0≤a0
   ·rw [if_pos c4] at H
    have c4b0:=eq_true c4
    have c4b1:decide (0≤a0)=true:=decide_eq_true c4
    clear c4
    obtain ⟨ji5,hji5⟩:∃ j_:Int,(shl .u64 1 a0)=j_:=⟨_,rfl⟩
    replace H:(some ji5)=some r:=by first | (rw [hji5] at H;exact H) | (simp only [hji5] at H ⊢;exact H)
    have hji5_:(IntKind.u64.wrap (1 * 2 ^ min a0.toNat 64))=ji5:=hji5
    have hji5z:a0≤64→(IntKind.u64.wrap (1 * 2 ^ a0.toNat))=ji5:=shl_small hji5
    have hji5u:(IntKind.u64.wrap (2 ^ min a0.toNat 64))=ji5:=by have h_:=hji5_;rw [Int.one_mul] at h_;exact h_
    have hji5v:a0≤64→(IntKind.u64.wrap (2 ^ a0.toNat))=ji5:=fun hle_=>by have h_:=hji5z hle_;rw [Int.one_mul] at h_;exact h_
    obtain rfl:=Option.some.inj H
    go_enter Tryz.func33,Tryz.ntmps33
    go_wp2
    go_ret
    exact ⟨by first | rfl | (simp;done) | (simp only [← hji5] <;> (first | rfl | simp)) | (simp [*];done),by repeat (first | exact Drawn0.refl _ | apply Drawn0.step)⟩
   ·rw [if_neg c4] at H
    exact absurd H (by simp)

/-! ### bits_Of: function 31 -/
def bits_Of.l0:Nat→Int→List Int→Int→Int→Option (Int)
 | 0,_,_,_,_=>none
 | k+1,x3,x6,x7,x8=>if x8 < x7 then (if 0≤x8 then (if x8 < (x6.length:Int) then ((bits_bit.f (rd x6 x8)).bind fun t155=>(bits_Of.l0 k (Go.bits .or .u64 x3 t155) x6 x7 (wrap64 (x8+1)))) else (none)) else (none)) else (some x3)
def bits_Of.f (k:Nat) (l0:List Int):Option (Int):=bits_Of.l0 k 0 l0 (l0.length:Int) 0
theorem bits_Of.mono_l:∀ k,(∀ y0 y1 y2 y3,LeO (bits_Of.l0 k y0 y1 y2 y3) (bits_Of.l0 (k+1) y0 y1 y2 y3))
 | 0=>fun _ _ _ _ r h=>by simp [bits_Of.l0] at h
 | k+1=>by
  have ih0:=bits_Of.mono_l k
  ·intro y0 y1 y2 y3
   unfold bits_Of.l0
   repeat' first
   | (with_reducible exact ih0 _ _ _ _)
   | (with_reducible exact LeO.refl _)
   | (with_reducible exact LeO.none _)
   | (with_reducible refine LeO.ite ?_ ?_)
   | (with_reducible refine LeO.bind ?_ (fun _=>?_))
   | exact ih0 _ _ _ _
   | exact LeO.none _
   | refine LeO.ite ?_ ?_
   | refine LeO.bind ?_ (fun _=>?_)
theorem bits_Of.mono:∀ a0 k,LeO (bits_Of.f k a0) (bits_Of.f (k+1) a0):=by
 intro a0 k
 have ih0:=bits_Of.mono_l k
 unfold bits_Of.f
 repeat' first
   | (with_reducible exact ih0 _ _ _ _)
   | (with_reducible exact LeO.refl _)
   | (with_reducible exact LeO.none _)
   | (with_reducible refine LeO.ite ?_ ?_)
   | (with_reducible refine LeO.bind ?_ (fun _=>?_))
   | exact ih0 _ _ _ _
   | exact LeO.none _
   | refine LeO.ite ?_ ?_
   | refine LeO.bind ?_ (fun _=>?_)
set_option maxHeartbeats 8000000 in
set_option maxRecDepth 100000 in
theorem bits_Of.calls (k:Nat) (A0:Option Addr) (c0:Nat) (l0:List Int) (r:Int) (w:World) (hr0:Kd.C (Kd.int .i64) w A0 l0.length l0) (hc0:l0.length≤c0) (h:bits_Of.f k l0=some r) :
  Calls Tryz.prog 67 #[.slice A0 l0.length c0] w fun e w'=>e=.returned (.int .u64 r)∧Drawn0 w w':=by
 have HR0:=jM hr0
 have HC0:=jM hc0
 clear hr0 hc0
 have H:(bits_Of.l0 k 0 l0 (l0.length:Int) 0)=some r:=h
 clear h
 have H':=jM H
 clear H
 go_enter Tryz.func67,Tryz.ntmps67
 go_wp2
 go_loopg [3,8] k (fun kq v3 v8 w'=>∃ (x3_1:Int) (x8_1:Int),v3=.int .u64 x3_1∧v8=.int .i64 x8_1∧Aside0 (bits_Of.l0 kq x3_1 l0 (l0.length:Int) x8_1=some r)∧Aside0 (kq≤k)∧Drawn0 w w')
 case atStart=>exact ⟨(0),(0),(by first | rfl | (simp;done) | (simp [*];done)),(by first | rfl | (simp;done) | (simp [*];done)),H',⟨Nat.le_refl _⟩,by repeat (first | exact Drawn0.refl _ | apply Drawn0.step)⟩
 case round =>
  clear H'
  obtain ⟨x3_1,x8_1,rfl,rfl,HA,HK1,⟨m1,rfl⟩⟩:=hrel
  cases gk with
  | zero=>exact absurd HA.out (by simp [bits_Of.l0])
  | succ k1 =>
   have H:=HA.out
   clear HA
   simp only [bits_Of.l0] at H
   by_cases c2:x8_1 < (l0.length:Int)
   ·rw [if_pos c2] at H
    have c2b0:decide (x8_1 < (l0.length:Int))=true:=decide_eq_true c2
    clear c2
    by_cases c3:0≤x8_1
    ·rw [if_pos c3] at H
     have c3b0:decide (0≤x8_1)=true:=decide_eq_true c3
     clear c3
     by_cases c4:x8_1 < (l0.length:Int)
     ·rw [if_pos c4] at H
      have c4b0:decide (x8_1 < (l0.length:Int))=true:=decide_eq_true c4
      clear c4
      replace H:=Option.bind_eq_some_iff.mp H
      obtain ⟨t155,A50,H⟩:=H
      replace H:(bits_Of.l0 k1 (Go.bits .or .u64 x3_1 t155) l0 (l0.length:Int) (wrap64 (x8_1+1)))=some r:=H
      have A5:=jM A50
      clear A50
      have H':=jM H
      clear H
      have p154:0≤(x8_1:Int):=of_decide_eq_true (by first | (with_reducible assumption) | assumption)
      have q154:x8_1 < (l0.length:Int):=of_decide_eq_true (by first | (with_reducible assumption) | assumption)
      obtain ⟨ad154,e154,hx154_0⟩:=Kd.at_int HR0.out x8_1 p154 q154
      cases e154
      replace p154:=eq_true p154
      replace q154:=eq_true q154
      go_wp2_with (first | ((with_reducible refine gate_callee (f:=33) rfl ?_);refine goesL_ (some 14) rfl rfl Tryz.func33 (by kernel_rfl) rfl #[.int .i64 (rd l0 x8_1)] rfl (by (try simp only [List.map_toArray,List.map_cons,List.map_nil]);first | done | rfl | (simp only [List.length_drop,List.length_take];rfl)) ?_;(with_reducible refine (bits_bit.calls (rd l0 x8_1) t155 _ A5.out).mono ?_);rintro e w' ⟨rfl,⟨nd,rfl⟩⟩;refine ⟨_,rfl, ?_⟩))
      go_roundg k1
      case measure=>have:=HK1.out;omega
      case rel=>exact ⟨(Go.bits .or .u64 x3_1 t155),(wrap64 (x8_1+1)),(by first | rfl | (simp;done) | (simp [*];done)),(by first | rfl | (simp;done) | (simp [*];done)),H',⟨by have:=HK1.out;omega⟩,by repeat (first | exact Drawn0.refl _ | apply Drawn0.step)⟩
     ·rw [if_neg c4] at H
      exact absurd H (by simp)
    ·rw [if_neg c3] at H
     exact absurd H (by simp)
   ·rw [if_neg c2] at H
    have c2b0:decide (x8_1 < (l0.length:Int))=false:=decide_eq_false c2
    clear c2
    obtain rfl:=Option.some.inj H
    go_wp2
    go_ret
    exact ⟨by first | rfl | (simp;done) | (simp [*];done),by repeat (first | exact Drawn0.refl _ | apply Drawn0.step)⟩

/-! ### bits_Union: function 52 -/
def bits_Union.f (a0:Int) (a1:Int):Option (Int):=some (Go.bits .or .u64 a0 a1)
set_option maxHeartbeats 8000000 in
set_option maxRecDepth 100000 in
theorem bits_Union.calls (a0:Int) (a1:Int) (r:Int) (w:World) (h:bits_Union.f a0 a1=some r) :
  Calls Tryz.prog 78 #[.int .u64 a0,.int .u64 a1] w fun e w'=>e=.returned (.int .u64 r)∧Drawn0 w w':=by
 have H:(some (Go.bits .or .u64 a0 a1))=some r:=h
 clear h
 obtain rfl:=Option.some.inj H
 go_enter Tryz.func78,Tryz.ntmps78
 go_wp2
 go_ret
 exact ⟨by first | rfl | (simp;done) | (simp [*];done),by repeat (first | exact Drawn0.refl _ | apply Drawn0.step)⟩

-- NOT PRINTED: function 75 (look_looker_more)

/-! ### bits_With: function 83 -/
def bits_With.f (a0:Int) (a1:Int):Option (Int):=(bits_bit.f a1).bind fun t173=>(some (Go.bits .or .u64 a0 t173))
set_option maxHeartbeats 8000000 in
set_option maxRecDepth 100000 in
theorem bits_With.calls (a0:Int) (a1:Int) (r:Int) (w:World) (h:bits_With.f a0 a1=some r) :
  Calls Tryz.prog 15 #[.int .u64 a0,.int .i64 a1] w fun e w'=>e=.returned (.int .u64 r)∧Drawn0 w w':=by
 have H:((bits_bit.f a1).bind fun t173=>(some (Go.bits .or .u64 a0 t173)))=some r:=h
 clear h
 replace H:=Option.bind_eq_some_iff.mp H
 obtain ⟨t173,A30,H⟩:=H
 replace H:(some (Go.bits .or .u64 a0 t173))=some r:=H
 have A3:=jM A30
 clear A30
 obtain rfl:=Option.some.inj H
 go_enter Tryz.func15,Tryz.ntmps15
 go_wp2_with (first | ((with_reducible refine gate_callee (f:=33) rfl ?_);refine goesL_ (some 7) rfl rfl Tryz.func33 (by kernel_rfl) rfl #[.int .i64 a1] rfl (by (try simp only [List.map_toArray,List.map_cons,List.map_nil]);first | done | rfl | (simp only [List.length_drop,List.length_take];rfl)) ?_;(with_reducible refine (bits_bit.calls a1 t173 _ A3.out).mono ?_);rintro e w' ⟨rfl,⟨nd,rfl⟩⟩;refine ⟨_,rfl, ?_⟩))
 go_ret
 exact ⟨by first | rfl | (simp;done) | (simp [*];done),by repeat (first | exact Drawn0.refl _ | apply Drawn0.step)⟩

/-! ### bits_Has: function 30 -/
def bits_Has.f (a0:Int) (a1:Int):Option (Bool):=(bits_bit.f a1).bind fun t237=>(some ((Go.bits .and .u64 a0 t237) != 0))
set_option maxHeartbeats 8000000 in
set_option maxRecDepth 100000 in
theorem bits_Has.calls (a0:Int) (a1:Int) (r:Bool) (w:World) (h:bits_Has.f a0 a1=some r) :
  Calls Tryz.prog 22 #[.int .u64 a0,.int .i64 a1] w fun e w'=>e=.returned (.bool r)∧Drawn0 w w':=by
 have H:((bits_bit.f a1).bind fun t237=>(some ((Go.bits .and .u64 a0 t237) != 0)))=some r:=h
 clear h
 replace H:=Option.bind_eq_some_iff.mp H
 obtain ⟨t237,A30,H⟩:=H
 replace H:(some ((Go.bits .and .u64 a0 t237) != 0))=some r:=H
 have A3:=jM A30
 clear A30
 obtain rfl:=Option.some.inj H
 go_enter Tryz.func22,Tryz.ntmps22
 go_wp2_with (first | ((with_reducible refine gate_callee (f:=33) rfl ?_);refine goesL_ (some 7) rfl rfl Tryz.func33 (by kernel_rfl) rfl #[.int .i64 a1] rfl (by (try simp only [List.map_toArray,List.map_cons,List.map_nil]);first | done | rfl | (simp only [List.length_drop,List.length_take];rfl)) ?_;(with_reducible refine (bits_bit.calls a1 t237 _ A3.out).mono ?_);rintro e w' ⟨rfl,⟨nd,rfl⟩⟩;refine ⟨_,rfl, ?_⟩))
 go_ret
 exact ⟨by first | rfl | (simp;done) | (simp [*];done),by repeat (first | exact Drawn0.refl _ | apply Drawn0.step)⟩

-- NOT PRINTED: function 10 (sl15_LookBegins)

-- NOT PRINTED: function 32 (sets_Follow)

/-! ### bits_Less: function 54 -/
/-! ### bits_In: function 33 -/
end
section
attribute [local go_sem] max2_int min2_int max_two min_two max_three min_three max_four min_four

/-! ### states_Close: function 70 -/
/-! ### bits_Has: function 22 -/
/-! ### table_bit: function 24 -/
def table_bit.f (l0_0:List (S65)) (l0_1:List (S73)) (l0_2:List ByteArray) (l0_3:List (S68)) (a0_4:Int) (a1:Int):Option (Int):=if a1=(l0_0.length:Int) then (some 63) else (some a1)
set_option maxHeartbeats 8000000 in
set_option maxRecDepth 100000 in
theorem table_bit.calls (A0_0:Option Addr) (c0_0:Nat) (l0_0:List (S65)) (A0_1:Option Addr) (c0_1:Nat) (l0_1:List (S73)) (A0_2:Option Addr) (c0_2:Nat) (l0_2:List ByteArray) (A0_3:Option Addr) (c0_3:Nat) (l0_3:List (S68)) (a0_4:Int) (a1:Int) (r:Int) (w:World) (hr0_0:Kd.C k65 w A0_0 l0_0.length l0_0) (hc0_0:l0_0.length≤c0_0) (hr0_1:Kd.C k73 w A0_1 l0_1.length l0_1) (hc0_1:l0_1.length≤c0_1) (hr0_2:Kd.C Kd.string w A0_2 l0_2.length l0_2) (hc0_2:l0_2.length≤c0_2) (hr0_3:Kd.C k68 w A0_3 l0_3.length l0_3) (hc0_3:l0_3.length≤c0_3) (h:table_bit.f l0_0 l0_1 l0_2 l0_3 a0_4 a1=some r) :
  Calls Tryz.prog 24 #[.agg #[.slice A0_0 l0_0.length c0_0,.slice A0_1 l0_1.length c0_1,.slice A0_2 l0_2.length c0_2,.slice A0_3 l0_3.length c0_3,.int .i64 a0_4],.int .i64 a1] w fun e w'=>e=.returned (.int .i64 r)∧Below w.heap.size w w':=by
 have hu27:=Tryz.underlying27
 have HR0_0:=jM hr0_0
 have HC0_0:=jM hc0_0
 clear hr0_0 hc0_0
 have HR0_1:=jM hr0_1
 have HC0_1:=jM hc0_1
 clear hr0_1 hc0_1
 have HR0_2:=jM hr0_2
 have HC0_2:=jM hc0_2
 clear hr0_2 hc0_2
 have HR0_3:=jM hr0_3
 have HC0_3:=jM hc0_3
 clear hr0_3 hc0_3
 have HB:=jM (Below.refl w.heap.size w)
 have H:(if a1=(l0_0.length:Int) then (some 63) else (some a1))=some r:=h
 clear h
 by_cases c3:a1=(l0_0.length:Int)
 ·rw [if_pos c3] at H
  have c3b0:(a1 == (l0_0.length:Int))=true:=beq_iff_eq.mpr c3
  have c3b1:(a1 != (l0_0.length:Int))=false:=bne_eq_false_iff_eq.mpr c3
  clear c3
  obtain rfl:=Option.some.inj H
  go_enter Tryz.func24,Tryz.ntmps24
  go_wp2_with (first | ((with_reducible refine gate_dst (N:=2) rfl ?_);refine box_event ?hg (N:=2) ?hd (cs:=#[.slice A0_0 l0_0.length c0_0,.slice A0_1 l0_1.length c0_1,.slice A0_2 l0_2.length c0_2,.slice A0_3 l0_3.length c0_3,.int .i64 a0_4]) (t:=27) ?hr ?_;(case hd=>rfl);(case hg=>rfl);(case hr=>first | (go_simp;done) | (go_simp;rfl));intro gb191 hg w4 hbox hb;have n0_:=jM (jT (tB HB.out) hb);have n1_:=jM (hbox);have n2_:=jM ((by rw [hg];exact (below_size (tB HB.out)):w.heap.size≤gb191));have n3_:=jM ((by rw [hg];exact (below_size (tB HB.out)):w.heap.size≤gb191));clear HB;have HB:=n0_;have BK191:=n1_;have GW191:=n2_;have GE191:=n3_;clear n0_ n1_ n2_ n3_;clear hb hbox hg;obtain ⟨hcz5_0,hcz5_1,hcz5_2,hcz5_3,hcz5_4⟩:=jC5 BK191.out;have hfz5_0:=jF BK191.out 0;have hfz5_1:=jF BK191.out 1;have hfz5_2:=jF BK191.out 2;have hfz5_3:=jF BK191.out 3;have hfz5_4:=jF BK191.out 4))
  go_ret
  exact ⟨by first | rfl | (simp [errW_none,errW_some] <;> rfl) | (simp [*,errW_none,errW_some] <;> rfl),tE HB.out⟩
 ·rw [if_neg c3] at H
  have c3b0:(a1 == (l0_0.length:Int))=false:=beq_eq_false_iff_ne.mpr c3
  have c3b1:(a1 != (l0_0.length:Int))=true:=bne_iff_ne.mpr c3
  obtain rfl:=Option.some.inj H
  go_enter Tryz.func24,Tryz.ntmps24
  go_wp2_with (first | ((with_reducible refine gate_dst (N:=2) rfl ?_);refine box_event ?hg (N:=2) ?hd (cs:=#[.slice A0_0 l0_0.length c0_0,.slice A0_1 l0_1.length c0_1,.slice A0_2 l0_2.length c0_2,.slice A0_3 l0_3.length c0_3,.int .i64 a0_4]) (t:=27) ?hr ?_;(case hd=>rfl);(case hg=>rfl);(case hr=>first | (go_simp;done) | (go_simp;rfl));intro gb191 hg w6 hbox hb;have n0_:=jM (jT (tB HB.out) hb);have n1_:=jM (hbox);have n2_:=jM ((by rw [hg];exact (below_size (tB HB.out)):w.heap.size≤gb191));have n3_:=jM ((by rw [hg];exact (below_size (tB HB.out)):w.heap.size≤gb191));clear HB;have HB:=n0_;have BK191:=n1_;have GW191:=n2_;have GE191:=n3_;clear n0_ n1_ n2_ n3_;clear hb hbox hg;obtain ⟨hcz7_0,hcz7_1,hcz7_2,hcz7_3,hcz7_4⟩:=jC5 BK191.out;have hfz7_0:=jF BK191.out 0;have hfz7_1:=jF BK191.out 1;have hfz7_2:=jF BK191.out 2;have hfz7_3:=jF BK191.out 3;have hfz7_4:=jF BK191.out 4))
  go_ret
  exact ⟨by first | rfl | (simp [errW_none,errW_some] <;> rfl) | (simp [*,errW_none,errW_some] <;> rfl),tE HB.out⟩

/-! ### table_right: function 45 -/
def table_right.f (l0_0:List (S65)) (l0_1:List (S73)) (l0_2:List ByteArray) (l0_3:List (S68)) (a0_4:Int) (a1:Int):Option (Int):=if a1 < 0 then (some 1) else (if 0≤a1 then (if a1 < (l0_3.length:Int) then (some (((rd_T68 l0_3 a1).f2).length:Int)) else (none)) else (none))
set_option maxHeartbeats 8000000 in
set_option maxRecDepth 100000 in
theorem table_right.calls (A0_0:Option Addr) (c0_0:Nat) (l0_0:List (S65)) (A0_1:Option Addr) (c0_1:Nat) (l0_1:List (S73)) (A0_2:Option Addr) (c0_2:Nat) (l0_2:List ByteArray) (A0_3:Option Addr) (c0_3:Nat) (l0_3:List (S68)) (a0_4:Int) (a1:Int) (r:Int) (w:World) (hr0_0:Kd.C k65 w A0_0 l0_0.length l0_0) (hc0_0:l0_0.length≤c0_0) (hr0_1:Kd.C k73 w A0_1 l0_1.length l0_1) (hc0_1:l0_1.length≤c0_1) (hr0_2:Kd.C Kd.string w A0_2 l0_2.length l0_2) (hc0_2:l0_2.length≤c0_2) (hr0_3:Kd.C k68 w A0_3 l0_3.length l0_3) (hc0_3:l0_3.length≤c0_3) (h:table_right.f l0_0 l0_1 l0_2 l0_3 a0_4 a1=some r) :
  Calls Tryz.prog 45 #[.agg #[.slice A0_0 l0_0.length c0_0,.slice A0_1 l0_1.length c0_1,.slice A0_2 l0_2.length c0_2,.slice A0_3 l0_3.length c0_3,.int .i64 a0_4],.int .i64 a1] w fun e w'=>e=.returned (.int .i64 r)∧Below w.heap.size w w':=by
 have hu27:=Tryz.underlying27
 have HR0_0:=jM hr0_0
 have HC0_0:=jM hc0_0
 clear hr0_0 hc0_0
 have HR0_1:=jM hr0_1
 have HC0_1:=jM hc0_1
 clear hr0_1 hc0_1
 have HR0_2:=jM hr0_2
 have HC0_2:=jM hc0_2
 clear hr0_2 hc0_2
 have HR0_3:=jM hr0_3
 have HC0_3:=jM hc0_3
 clear hr0_3 hc0_3
 have HB:=jM (Below.refl w.heap.size w)
 have H:(if a1 < 0 then (some 1) else (if 0≤a1 then (if a1 < (l0_3.length:Int) then (some (((rd_T68 l0_3 a1).f2).length:Int)) else (none)) else (none)))=some r:=h
 clear h
 by_cases c3:a1 < 0
 ·rw [if_pos c3] at H
  have c3b0:decide (a1 < 0)=true:=decide_eq_true c3
  clear c3
  obtain rfl:=Option.some.inj H
  go_enter Tryz.func45,Tryz.ntmps45
  go_wp2_with (first | ((with_reducible refine gate_dst (N:=2) rfl ?_);refine box_event ?hg (N:=2) ?hd (cs:=#[.slice A0_0 l0_0.length c0_0,.slice A0_1 l0_1.length c0_1,.slice A0_2 l0_2.length c0_2,.slice A0_3 l0_3.length c0_3,.int .i64 a0_4]) (t:=27) ?hr ?_;(case hd=>rfl);(case hg=>rfl);(case hr=>first | (go_simp;done) | (go_simp;rfl));intro gb192 hg w4 hbox hb;have n0_:=jM (jT (tB HB.out) hb);have n1_:=jM (hbox);have n2_:=jM ((by rw [hg];exact (below_size (tB HB.out)):w.heap.size≤gb192));have n3_:=jM ((by rw [hg];exact (below_size (tB HB.out)):w.heap.size≤gb192));clear HB;have HB:=n0_;have BK192:=n1_;have GW192:=n2_;have GE192:=n3_;clear n0_ n1_ n2_ n3_;clear hb hbox hg))
  go_ret
  exact ⟨by first | rfl | (simp [errW_none,errW_some] <;> rfl) | (simp [*,errW_none,errW_some] <;> rfl),tE HB.out⟩
 ·rw [if_neg c3] at H
  have c3b0:decide (a1 < 0)=false:=decide_eq_false c3
  clear c3
  by_cases c5:0≤a1
  ·rw [if_pos c5] at H
   have c5b0:decide (0≤a1)=true:=decide_eq_true c5
   clear c5
   by_cases c6:a1 < (l0_3.length:Int)
   ·rw [if_pos c6] at H
    have c6b0:decide (a1 < (l0_3.length:Int))=true:=decide_eq_true c6
    clear c6
    obtain rfl:=Option.some.inj H
    go_enter Tryz.func45,Tryz.ntmps45
    go_wp2_with (first | ((with_reducible refine gate_dst (N:=2) rfl ?_);refine box_event ?hg (N:=2) ?hd (cs:=#[.slice A0_0 l0_0.length c0_0,.slice A0_1 l0_1.length c0_1,.slice A0_2 l0_2.length c0_2,.slice A0_3 l0_3.length c0_3,.int .i64 a0_4]) (t:=27) ?hr ?_;(case hd=>rfl);(case hg=>rfl);(case hr=>first | (go_simp;done) | (go_simp;rfl));intro gb192 hg w7 hbox hb;have n0_:=jM (jT (tB HB.out) hb);have n1_:=jM (hbox);have n2_:=jM ((by rw [hg];exact (below_size (tB HB.out)):w.heap.size≤gb192));have n3_:=jM ((by rw [hg];exact (below_size (tB HB.out)):w.heap.size≤gb192));clear HB;have HB:=n0_;have BK192:=n1_;have GW192:=n2_;have GE192:=n3_;clear n0_ n1_ n2_ n3_;clear hb hbox hg;obtain ⟨hcz8_0,hcz8_1,hcz8_2,hcz8_3,hcz8_4⟩:=jC5 BK192.out;have hfz8_0:=jF BK192.out 0;have hfz8_1:=jF BK192.out 1;have hfz8_2:=jF BK192.out 2;have hfz8_3:=jF BK192.out 3;have hfz8_4:=jF BK192.out 4;have p193:0≤(a1:Int):=of_decide_eq_true tD;have q193:a1 < (l0_3.length:Int):=of_decide_eq_true tD;obtain ⟨ad193,A193_2,c193_2,e193,hx193_0,hx193_1,hx193_2,hx193_3,hl193_2,hi193_2⟩:=at_T68 HR0_3.out a1 p193 q193;cases e193;replace hx193_0:=(HB.out.cell (jL w _ hx193_0)).trans hx193_0;replace hx193_1:=(HB.out.cell (jL w _ hx193_1)).trans hx193_1;replace hx193_2:=(HB.out.cell (jL w _ hx193_2)).trans hx193_2;replace hx193_3:=(HB.out.cell (jL w _ hx193_3)).trans hx193_3;have HR193_2:=jM hi193_2;have HC193_2:=jM hl193_2;clear hi193_2 hl193_2;replace p193:=eq_true p193;replace q193:=eq_true q193))
    go_ret
    exact ⟨by first | rfl | (simp [errW_none,errW_some] <;> rfl) | (simp [*,errW_none,errW_some] <;> rfl),tE HB.out⟩
   ·rw [if_neg c6] at H
    exact absurd H (by simp)
  ·rw [if_neg c5] at H
   exact absurd H (by simp)
end
section
attribute [local go_sem] max2_int min2_int max_two min_two max_three min_three max_four min_four

/-! ### table_deeds: function 26 -/
mutual
def table_deeds.j0:Nat→List (S96)→Int→Int→List (S53)→List (S65)→List (S73)→List ByteArray→List (S68)→Int→Option ((List (S53)))
 | 0,_,_,_,_,_,_,_,_,_=>none
 | k+1,x2,x3,x4,x11,xA,xB,xC,xD,xE=>if 0≤x3 then (if x3 < (x2.length:Int) then (table_deeds.l0 k x4 x11 ((rd_T96 x2 x3).f0) (((rd_T96 x2 x3).f0).length:Int) 0 xA xB xC xD xE ((rd_T96 x2 x3).f0) ((rd_T96 x2 x3).f1)) else (none)) else (none)
def table_deeds.l0:Nat→Int→List (S53)→List (S77)→Int→Int→List (S65)→List (S73)→List ByteArray→List (S68)→Int→List (S77)→List Int→Option ((List (S53)))
 | 0,_,_,_,_,_,_,_,_,_,_,_,_=>none
 | k+1,x4,x11,x33,x34,x35,xA,xB,xC,xD,xE,xF,xG=>if x35 < x34 then (if 0≤x35 then (if x35 < (x33.length:Int) then ((table_right.f xA xB xC xD xE ((rd_T77 x33 x35).f0)).bind fun t204=>(if ((rd_T77 x33 x35).f1) < t204 then (table_deeds.j2 k x4 x11 x33 x34 x35 true xA xB xC xD xE xF xG ((rd_T77 x33 x35).f0) ((rd_T77 x33 x35).f1)) else (if x35 < (xG.length:Int) then ((table_bit.f xA xB xC xD xE x4).bind fun t206=>((bits_Has.f (rd xG x35) t206).bind fun t207=>(table_deeds.j2 k x4 x11 x33 x34 x35 (!t207) xA xB xC xD xE xF xG ((rd_T77 x33 x35).f0) ((rd_T77 x33 x35).f1)))) else (none)))) else (none)) else (none)) else (some x11)
def table_deeds.j2:Nat→Int→List (S53)→List (S77)→Int→Int→Bool→List (S65)→List (S73)→List ByteArray→List (S68)→Int→List (S77)→List Int→Int→Int→Option ((List (S53)))
 | 0,_,_,_,_,_,_,_,_,_,_,_,_,_,_,_=>none
 | k+1,x4,x11,x33,x34,x35,x46,xA,xB,xC,xD,xE,xF,xG,xH,xI=>if x46=true then (table_deeds.l0 k x4 x11 x33 x34 (wrap64 (x35+1)) xA xB xC xD xE xF xG) else (if xH < 0 then (if x11.length < 8796093022208 then (table_deeds.l0 k x4 (x11 ++ [(⟨3,0⟩:S53)]) x33 x34 (wrap64 (x35+1)) xA xB xC xD xE xF xG) else (none)) else (if x11.length < 8796093022208 then (table_deeds.l0 k x4 (x11 ++ [(⟨2,xH⟩:S53)]) x33 x34 (wrap64 (x35+1)) xA xB xC xD xE xF xG) else (none)))
end
def table_deeds.f (k:Nat) (l0_0:List (S65)) (l0_1:List (S73)) (l0_2:List ByteArray) (l0_3:List (S68)) (a0_4:Int) (l1_0:List (List (S77))) (l1_1:List (List Int)) (l2:List (S96)) (a3:Int) (a4:Int):Option ((List (S53))):=(states_Go.f l0_0 l0_1 l0_2 l0_3 a0_4 l1_0 l1_1 a3 a4).bind fun t196=>(if t196 ≥ 0 then (if ([]:List (S53)).length < 8796093022208 then (table_deeds.j0 k l2 a3 a4 (([]:List (S53)) ++ [(⟨1,t196⟩:S53)]) l0_0 l0_1 l0_2 l0_3 a0_4) else (none)) else (table_deeds.j0 k l2 a3 a4 ([]:List (S53)) l0_0 l0_1 l0_2 l0_3 a0_4))
def table_deeds.T10:Bool × List (List Nat × List Nat):=(true,[([],[]),([0],[0]),([],[]),([],[]),([3],[3]),([2,4],[2,4]),([1,5],[1,5]),([6,5],[6]),([7],[7]),([8,7],[7,8]),([7],[7]),([9,10,7],[7,9,10]),([11,7],[7,11]),([7],[7]),([7],[7]),([13,14,7,7],[7,13,14]),([12,15,15,7],[7,12,15]),([16,7],[7,16]),([7,17],[7,17]),([18,16],[18])])
def table_deeds.B10:List Nat:=[0,1,0,0,8,28,63,127,255,511,255,2047,4095,255,255,24831,65535,131071,262143,524287]
theorem table_deeds.tab10:rtab .any (opsOf Tryz.f26 10)=table_deeds.T10:=by kernel_rfl
theorem table_deeds.bits10:waitsOk table_deeds.T10.2 table_deeds.B10=true:=by kernel_rfl
set_option maxHeartbeats 8000000 in
set_option maxRecDepth 100000 in
theorem table_deeds.calls (k:Nat) (A0_0:Option Addr) (c0_0:Nat) (l0_0:List (S65)) (A0_1:Option Addr) (c0_1:Nat) (l0_1:List (S73)) (A0_2:Option Addr) (c0_2:Nat) (l0_2:List ByteArray) (A0_3:Option Addr) (c0_3:Nat) (l0_3:List (S68)) (a0_4:Int) (A1_0:Option Addr) (c1_0:Nat) (l1_0:List (List (S77))) (A1_1:Option Addr) (c1_1:Nat) (l1_1:List (List Int)) (A2:Option Addr) (c2:Nat) (l2:List (S96)) (a3:Int) (a4:Int) (r:List (S53)) (w:World) (hr0_0:Kd.C k65 w A0_0 l0_0.length l0_0) (hc0_0:l0_0.length≤c0_0) (hr0_1:Kd.C k73 w A0_1 l0_1.length l0_1) (hc0_1:l0_1.length≤c0_1) (hr0_2:Kd.C Kd.string w A0_2 l0_2.length l0_2) (hc0_2:l0_2.length≤c0_2) (hr0_3:Kd.C k68 w A0_3 l0_3.length l0_3) (hc0_3:l0_3.length≤c0_3) (hr1_0:Kd.C (Kd.slice 77 k77) w A1_0 l1_0.length l1_0) (hc1_0:l1_0.length≤c1_0) (hr1_1:Kd.C (Kd.slice 3 (Kd.int .i64)) w A1_1 l1_1.length l1_1) (hc1_1:l1_1.length≤c1_1) (hr2:Kd.C k96 w A2 l2.length l2) (hc2:l2.length≤c2) (h:table_deeds.f k l0_0 l0_1 l0_2 l0_3 a0_4 l1_0 l1_1 l2 a3 a4=some r) :
  Calls Tryz.prog 26 #[.agg #[.slice A0_0 l0_0.length c0_0,.slice A0_1 l0_1.length c0_1,.slice A0_2 l0_2.length c0_2,.slice A0_3 l0_3.length c0_3,.int .i64 a0_4],.agg #[.slice A1_0 l1_0.length c1_0,.slice A1_1 l1_1.length c1_1],.slice A2 l2.length c2,.int .i64 a3,.int .i64 a4] w fun e w'=>∃ v0_:Value,e=.returned (v0_)∧Kd.R k53 53 w' w.heap.size (fun _=>True) v0_ r∧Below w.heap.size w w':=by
 have hu27:=Tryz.underlying27
 have hu44:=Tryz.underlying44
 have hu53:=Tryz.underlying53
 have hu96:=Tryz.underlying96
 have hu77:=Tryz.underlying77
 have HR0_0:=jM hr0_0
 have HC0_0:=jM hc0_0
 clear hr0_0 hc0_0
 have HR0_1:=jM hr0_1
 have HC0_1:=jM hc0_1
 clear hr0_1 hc0_1
 have HR0_2:=jM hr0_2
 have HC0_2:=jM hc0_2
 clear hr0_2 hc0_2
 have HR0_3:=jM hr0_3
 have HC0_3:=jM hc0_3
 clear hr0_3 hc0_3
 have HR1_0:=jM hr1_0
 have HC1_0:=jM hc1_0
 clear hr1_0 hc1_0
 have HR1_1:=jM hr1_1
 have HC1_1:=jM hc1_1
 clear hr1_1 hc1_1
 have HR2:=jM hr2
 have HC2:=jM hc2
 clear hr2 hc2
 have HB:=jM (Below.refl w.heap.size w)
 have H:((states_Go.f l0_0 l0_1 l0_2 l0_3 a0_4 l1_0 l1_1 a3 a4).bind fun t196=>(if t196 ≥ 0 then (if ([]:List (S53)).length < 8796093022208 then (table_deeds.j0 k l2 a3 a4 (([]:List (S53)) ++ [(⟨1,t196⟩:S53)]) l0_0 l0_1 l0_2 l0_3 a0_4) else (none)) else (table_deeds.j0 k l2 a3 a4 ([]:List (S53)) l0_0 l0_1 l0_2 l0_3 a0_4)))=some r:=h
 clear h
 replace H:=Option.bind_eq_some_iff.mp H
 obtain ⟨t196,A60,H⟩:=H
 replace H:(if t196 ≥ 0 then (if ([]:List (S53)).length < 8796093022208 then (table_deeds.j0 k l2 a3 a4 (([]:List (S53)) ++ [(⟨1,t196⟩:S53)]) l0_0 l0_1 l0_2 l0_3 a0_4) else (none)) else (table_deeds.j0 k l2 a3 a4 ([]:List (S53)) l0_0 l0_1 l0_2 l0_3 a0_4))=some r:=H
 have A6:=jM A60
 clear A60
 have HC7:=jM H
 clear H
 go_enter Tryz.func26,Tryz.ntmps26
 go_upto_if 22 with (first | ((with_reducible refine gate_dst (N:=5) rfl ?_);refine box_event ?hg (N:=5) ?hd (cs:=#[.slice A0_0 l0_0.length c0_0,.slice A0_1 l0_1.length c0_1,.slice A0_2 l0_2.length c0_2,.slice A0_3 l0_3.length c0_3,.int .i64 a0_4]) (t:=27) ?hr ?_;(case hd=>rfl);(case hg=>rfl);(case hr=>first | (go_simp;done) | (go_simp;rfl));intro gb194 hg w8 hbox hb;have n0_:=jM (jT (tB HB.out) hb);have n1_:=jM (hbox);have n2_:=jM ((by rw [hg];exact (below_size (tB HB.out)):w.heap.size≤gb194));have n3_:=jM ((by rw [hg];exact (below_size (tB HB.out)):w.heap.size≤gb194));clear HB;have HB:=n0_;have BK194:=n1_;have GW194:=n2_;have GE194:=n3_;clear n0_ n1_ n2_ n3_;clear hb hbox hg) | ((with_reducible refine gate_dst (N:=6) rfl ?_);refine box_event ?hg (N:=6) ?hd (cs:=#[.slice A1_0 l1_0.length c1_0,.slice A1_1 l1_1.length c1_1]) (t:=44) ?hr ?_;(case hd=>rfl);(case hg=>rfl);(case hr=>first | (go_simp;done) | (go_simp;rfl));intro gb195 hg w9 hbox hb;have n0_:=jM (jW (g:=gb194) (o:=.cells #[.slice A0_0 l0_0.length c0_0,.slice A0_1 l0_1.length c0_1,.slice A0_2 l0_2.length c0_2,.slice A0_3 l0_3.length c0_3,.int .i64 a0_4] 27 (0,0)) (tK BK194.out) hb);have n1_:=jM (jT (tE HB.out) hb);have n2_:=jM (hbox);have n3_:=jM ((by rw [hg];exact (below_size (tE HB.out)):w.heap.size≤gb195));have n4_:=jM ((by rw [hg];exact (below_size (tE HB.out)):w.heap.size≤gb195));have n5_:=jM ((by rw [hg];exact Nat.ne_of_lt (blk_lt (g:=gb194) (o:=.cells #[.slice A0_0 l0_0.length c0_0,.slice A0_1 l0_1.length c0_1,.slice A0_2 l0_2.length c0_2,.slice A0_3 l0_3.length c0_3,.int .i64 a0_4] 27 (0,0)) (tK BK194.out)):gb194≠gb195));have n6_:=jM ((by rw [hg];exact Nat.ne_of_gt (blk_lt (g:=gb194) (o:=.cells #[.slice A0_0 l0_0.length c0_0,.slice A0_1 l0_1.length c0_1,.slice A0_2 l0_2.length c0_2,.slice A0_3 l0_3.length c0_3,.int .i64 a0_4] 27 (0,0)) (tK BK194.out)):gb195≠gb194));clear BK194 HB;have BK194:=n0_;have HB:=n1_;have BK195:=n2_;have GW195:=n3_;have GE195:=n4_;have NB194_195:=n5_;have NB195_194:=n6_;clear n0_ n1_ n2_ n3_ n4_ n5_ n6_;clear hb hbox hg;have hnb10:=NB194_195.out;have hnc10:=NB195_194.out;obtain ⟨hcz11_0,hcz11_1,hcz11_2,hcz11_3,hcz11_4⟩:=jC5 BK194.out;have hfz11_0:=jF BK194.out 0;have hfz11_1:=jF BK194.out 1;have hfz11_2:=jF BK194.out 2;have hfz11_3:=jF BK194.out 3;have hfz11_4:=jF BK194.out 4;obtain ⟨hcz12_0,hcz12_1⟩:=jC2 BK195.out;have hfz12_0:=jF BK195.out 0;have hfz12_1:=jF BK195.out 1) | ((with_reducible refine gate_callee (f:=16) rfl ?_);refine goesL_ (some 20) rfl rfl Tryz.func16 (by kernel_rfl) rfl #[.agg #[.slice A0_0 l0_0.length c0_0,.slice A0_1 l0_1.length c0_1,.slice A0_2 l0_2.length c0_2,.slice A0_3 l0_3.length c0_3,.int .i64 a0_4],.agg #[.slice A1_0 l1_0.length c1_0,.slice A1_1 l1_1.length c1_1],.int .i64 a3,.int .i64 a4] rfl tM ?_;(with_reducible refine (states_Go.calls _ _ l0_0 _ _ l0_1 _ _ l0_2 _ _ l0_3 a0_4 _ _ l1_0 _ _ l1_1 a3 a4 t196 _ ?side1 ?side2 ?side3 ?side4 ?side5 ?side6 ?side7 ?side8 ?side9 ?side10 ?side11 ?side12 A6.out).mono ?_);(case side1=>exact tC (jB HR0_0.out HB.out));(case side2=>exact HC0_0.out);(case side3=>exact tC (jB HR0_1.out HB.out));(case side4=>exact HC0_1.out);(case side5=>exact tC (jB HR0_2.out HB.out));(case side6=>exact HC0_2.out);(case side7=>exact tC (jB HR0_3.out HB.out));(case side8=>exact HC0_3.out);(case side9=>exact tC (jB HR1_0.out HB.out));(case side10=>exact HC1_0.out);(case side11=>exact tC (jB HR1_1.out HB.out));(case side12=>exact HC1_1.out);rintro e w13 ⟨rfl,hb⟩;refine ⟨_,rfl, ?_⟩;replace BK194:=jM (jW (g:=gb194) (o:=.cells #[.slice A0_0 l0_0.length c0_0,.slice A0_1 l0_1.length c0_1,.slice A0_2 l0_2.length c0_2,.slice A0_3 l0_3.length c0_3,.int .i64 a0_4] 27 (0,0)) (tK BK194.out) hb);replace BK195:=jM (jW (g:=gb195) (o:=.cells #[.slice A1_0 l1_0.length c1_0,.slice A1_1 l1_1.length c1_1] 44 (0,0)) (tK BK195.out) hb);replace HB:=jM (jT (tE HB.out) hb);(try clear hb);(try clear hb2);(try clear hk);(try clear hi)))
 (try simp only [Act.put,sA])
 go_cut [11] (fun v11 wc=>∃ (kq:Nat) (x11_6:List (S53)),Aside0 (table_deeds.j0 kq l2 a3 a4 x11_6 l0_0 l0_1 l0_2 l0_3 a0_4=some r)∧Aside0 (kq≤k)∧Aside0 (Kd.R k53 53 wc w.heap.size (fun _=>True) v11 x11_6)∧Aside0 (wc.heap[gb194]? = some (.cells #[(.slice A0_0 l0_0.length c0_0),(.slice A0_1 l0_1.length c0_1),(.slice A0_2 l0_2.length c0_2),(.slice A0_3 l0_3.length c0_3),.int .i64 a0_4] 27 (0,0)))∧Aside0 (wc.heap[gb195]? = some (.cells #[(.slice A1_0 l1_0.length c1_0),(.slice A1_1 l1_1.length c1_1)] 44 (0,0)))∧Aside0 (Below w.heap.size w wc))
 case first =>
  have H:=HC7.out
  clear HC7
  by_cases c14:t196 ≥ 0
  ·rw [if_pos c14] at H
   have c14b0:decide (0≤t196)=true:=decide_eq_true c14
   clear c14
   (first | rw [c14b0] | (simp only [i64_w,i32_w];rw [c14b0]) | skip)
   by_cases c15:([]:List (S53)).length < 8796093022208
   ·rw [if_pos c15] at H
    have LMc15:=jM c15
    clear c15
    obtain ⟨y197,hy197⟩:∃ y_:List (S53),y_=(([]:List (S53)) ++ [(⟨1,t196⟩:S53)]):=⟨_,rfl⟩
    replace H:(table_deeds.j0 k l2 a3 a4 y197 l0_0 l0_1 l0_2 l0_3 a0_4)=some r:=by first | (rw [hy197];with_reducible exact H) | (have H2_:=(Option.bind_some _ _).symm.trans H;rw [hy197];with_reducible exact H2_) | (have H2_:=(Option.bind_some _ _).symm.trans H;with_reducible exact H2_) | with_reducible exact H | (rw [hy197];exact H) | exact H
    have Ny197:=jM hy197
    clear hy197
    have H':=jM H
    clear H
    go_wp2_with (first | ((with_reducible refine gate_builtin (b:=.append) (xs:=#[.tmp 23,.tmp 26]) rfl ?_);at_builtin;refine Kd.R_append k53 (w0:=w) w.heap.size rfl (.tmp 23) (.tmp 26) 49 53 (.agg #[(.int .i64 0),(.int .i64 0)]) 16 rfl Tryz.underlying49 info53 rfl (by decide) (by omega) (.slice none 0 0) ([]:List (S53)) (⟨1,t196⟩:S53) [.int .i64 1,.int .i64 t196] (fun _=>True) (fun _=>False) rfl rfl ?aP (fun _ hk=>hk.elim) ?aF ?aO ?aB ?aS ?aL ?_;(case aP=>exact k53_mkM _ _ _ (⟨1,t196⟩:S53));(case aB=>exact (tE HB.out));(case aF=>exact (fun _ _=>trivial));(case aO=>exact ((Kd.R_nil _ _ _ _ (fun _=>True))));(case aS=>exact (below_size (tE HB.out)));(case aL=>have:=LMc15.out;omega);intro v198 w16 ho hb hg hat;rw [← Ny197.out] at ho;replace BK194:=jM (blk_grown (g:=gb194) (o:=.cells #[.slice A0_0 l0_0.length c0_0,.slice A0_1 l0_1.length c0_1,.slice A0_2 l0_2.length c0_2,.slice A0_3 l0_3.length c0_3,.int .i64 a0_4] 27 (0,0)) (tK BK194.out) hg (by simp [Value.ownBlock]));replace BK195:=jM (blk_grown (g:=gb195) (o:=.cells #[.slice A1_0 l1_0.length c1_0,.slice A1_1 l1_1.length c1_1] 44 (0,0)) (tK BK195.out) hg (by simp [Value.ownBlock]));replace HB:=jM (hb);have HO199:=jM (ho);clear ho hb hg hat))
    go_meet
    case rel=>exact ⟨_,(y197),H',⟨by first | omega | exact Nat.le_refl _⟩,⟨tR HO199.out⟩,⟨tK BK194.out⟩,⟨tK BK195.out⟩,⟨tE HB.out⟩⟩
   ·rw [if_neg c15] at H
    exact absurd H (by simp)
  ·rw [if_neg c14] at H
   have c14b0:decide (0≤t196)=false:=decide_eq_false c14
   clear c14
   (first | rw [c14b0] | (simp only [i64_w,i32_w];rw [c14b0]) | skip)
   have H':=jM H
   clear H
   go_wp2
   go_meet
   case rel=>exact ⟨_,(([]:List (S53))),H',⟨by first | omega | exact Nat.le_refl _⟩,⟨by first | exact Kd.R_nil _ _ _ _ _ | exact Kd.N_nil _ _ _ _ _ | exact Kd.V_nil _ _ _ _ _ | exact Kd.Q_nil _ _ _ _ _ | exact Kd.S_nil _ _ _ _ _⟩,⟨tK BK194.out⟩,⟨tK BK195.out⟩,⟨tE HB.out⟩⟩
 case rest =>
  clear HC7
  try clear c1
  try clear c2
  try clear p2
  try clear c10
  try clear c14
  try clear c14b0
  try clear c15
  try clear c16
  try clear hcz11_0
  try clear hcz11_1
  try clear hcz11_2
  try clear hcz11_3
  try clear hcz11_4
  try clear hcz12_0
  try clear hcz12_1
  try clear hfz11_0
  try clear hfz11_1
  try clear hfz11_2
  try clear hfz11_3
  try clear hfz11_4
  try clear hfz12_0
  try clear hfz12_1
  obtain ⟨kq,x11_6,HA,HJ6,HO_11,BK194,BK195,HB⟩:=hcut
  cases kq with
  | zero=>exact absurd HA.out (by simp [table_deeds.j0])
  | succ kj6 =>
   have H:=HA.out
   clear HA
   simp only [table_deeds.j0] at H
   by_cases c17:0≤a3
   ·rw [if_pos c17] at H
    have c17b0:decide (0≤a3)=true:=decide_eq_true c17
    clear c17
    by_cases c18:a3 < (l2.length:Int)
    ·rw [if_pos c18] at H
     have c18b0:decide (a3 < (l2.length:Int))=true:=decide_eq_true c18
     clear c18
     have H':=jM H
     clear H
     have p200:0≤(a3:Int):=of_decide_eq_true tD
     have q200:a3 < (l2.length:Int):=of_decide_eq_true tD
     obtain ⟨ad200,A200_0,c200_0,A200_1,c200_1,e200,hx200_0,hx200_1,hl200_0,hi200_0,hl200_1,hi200_1⟩:=at_T96 HR2.out a3 p200 q200
     cases e200
     replace hx200_0:=(HB.out.cell (jL w _ hx200_0)).trans hx200_0
     replace hx200_1:=(HB.out.cell (jL w _ hx200_1)).trans hx200_1
     have HR200_0:=jM hi200_0
     have HC200_0:=jM hl200_0
     clear hi200_0 hl200_0
     have HR200_1:=jM hi200_1
     have HC200_1:=jM hl200_1
     clear hi200_1 hl200_1
     replace p200:=eq_true p200
     replace q200:=eq_true q200
     go_wp2_with (first | ((with_reducible refine gate_dst (N:=13) rfl ?_);refine box_event ?hg (N:=13) ?hd (cs:=#[.slice none 0 0,.slice none 0 0]) (t:=96) ?hr ?_;(case hd=>rfl);(case hg=>rfl);(case hr=>first | (go_simp;done) | (go_simp;rfl));intro gb201 hg w19 hbox hb;have n0_:=jM (Kd.R_below (tR HO_11.out) hb);have n1_:=jM (jW (g:=gb194) (o:=.cells #[.slice A0_0 l0_0.length c0_0,.slice A0_1 l0_1.length c0_1,.slice A0_2 l0_2.length c0_2,.slice A0_3 l0_3.length c0_3,.int .i64 a0_4] 27 (0,0)) (tK BK194.out) hb);have n2_:=jM (jW (g:=gb195) (o:=.cells #[.slice A1_0 l1_0.length c1_0,.slice A1_1 l1_1.length c1_1] 44 (0,0)) (tK BK195.out) hb);have n3_:=jM (jT (tE HB.out) hb);have n4_:=jM (hbox);have n5_:=jM ((by rw [hg];exact (below_size (tE HB.out)):w.heap.size≤gb201));have n6_:=jM ((by rw [hg];exact (below_size (tE HB.out)):w.heap.size≤gb201));have n7_:=jM ((by rw [hg];exact Nat.ne_of_lt (blk_lt (g:=gb194) (o:=.cells #[.slice A0_0 l0_0.length c0_0,.slice A0_1 l0_1.length c0_1,.slice A0_2 l0_2.length c0_2,.slice A0_3 l0_3.length c0_3,.int .i64 a0_4] 27 (0,0)) (tK BK194.out)):gb194≠gb201));have n8_:=jM ((by rw [hg];exact Nat.ne_of_gt (blk_lt (g:=gb194) (o:=.cells #[.slice A0_0 l0_0.length c0_0,.slice A0_1 l0_1.length c0_1,.slice A0_2 l0_2.length c0_2,.slice A0_3 l0_3.length c0_3,.int .i64 a0_4] 27 (0,0)) (tK BK194.out)):gb201≠gb194));have n9_:=jM ((by rw [hg];exact Nat.ne_of_lt (blk_lt (g:=gb195) (o:=.cells #[.slice A1_0 l1_0.length c1_0,.slice A1_1 l1_1.length c1_1] 44 (0,0)) (tK BK195.out)):gb195≠gb201));have n10_:=jM ((by rw [hg];exact Nat.ne_of_gt (blk_lt (g:=gb195) (o:=.cells #[.slice A1_0 l1_0.length c1_0,.slice A1_1 l1_1.length c1_1] 44 (0,0)) (tK BK195.out)):gb201≠gb195));clear HO_11 BK194 BK195 HB;have HO_11:=n0_;have BK194:=n1_;have BK195:=n2_;have HB:=n3_;have BK201:=n4_;have GW201:=n5_;have GE201:=n6_;have NB194_201:=n7_;have NB201_194:=n8_;have NB195_201:=n9_;have NB201_195:=n10_;clear n0_ n1_ n2_ n3_ n4_ n5_ n6_ n7_ n8_ n9_ n10_;clear hb hbox hg;have hnb20:=NB201_194.out;have hnc20:=NB194_201.out;have hnb21:=NB201_195.out;have hnc21:=NB195_201.out;obtain ⟨hcz22_0,hcz22_1⟩:=jC2 BK201.out;have hfz22_0:=jF BK201.out 0;have hfz22_1:=jF BK201.out 1))
     go_loopg [11,35] kj6 (fun kq v11 v35 w'=>∃ (x11_2:List (S53)) (x35_2:Int),v35=.int .i64 x35_2∧Aside0 (table_deeds.l0 kq a4 x11_2 ((rd_T96 l2 a3).f0) (((rd_T96 l2 a3).f0).length:Int) x35_2 l0_0 l0_1 l0_2 l0_3 a0_4 ((rd_T96 l2 a3).f0) ((rd_T96 l2 a3).f1)=some r)∧Aside0 (kq≤kj6)∧Aside0 (Kd.R k53 53 w' w.heap.size (fun _=>True) v11 x11_2)∧Aside0 (w'.heap[gb194]? = some (.cells #[(.slice A0_0 l0_0.length c0_0),(.slice A0_1 l0_1.length c0_1),(.slice A0_2 l0_2.length c0_2),(.slice A0_3 l0_3.length c0_3),.int .i64 a0_4] 27 (0,0)))∧Aside0 (w'.heap[gb195]? = some (.cells #[(.slice A1_0 l1_0.length c1_0),(.slice A1_1 l1_1.length c1_1)] 44 (0,0)))∧Aside0 (w'.heap[gb201]? = some (.cells #[(.slice A200_0 ((rd_T96 l2 a3).f0).length c200_0),(.slice A200_1 ((rd_T96 l2 a3).f1).length c200_1)] 96 (0,0)))∧Aside0 (Below w.heap.size w w'))
     case atStart=>exact ⟨(x11_6),(0),tZ,H',⟨Nat.le_refl _⟩,⟨by (with_reducible repeat (first | apply Kd.R_alloc | apply Kd.R_drewN | apply Kd.R_drew));exact Kd.R_mono (Kd.R_far (p:=⟨gb201,1,none⟩) (Kd.R_far (p:=⟨gb201,0,none⟩) (Kd.R_types HO_11.out BK201.out (by decide)) (fun _ hk=>hk.2) (.slice A200_0 ((rd_T96 l2 a3).f0).length c200_0)) (fun _ hk=>hk.2) (.slice A200_1 ((rd_T96 l2 a3).f1).length c200_1)) (fun _ hk=>trivial)⟩,⟨by (with_reducible repeat (first | refine jY ?_ _ | refine jZ ?_ | refine jX ?_ _));refine blk_far ?_ NB194_201.out _;(with_reducible repeat (first | refine jY ?_ _ | refine jZ ?_ | refine jX ?_ _));refine blk_far ?_ NB194_201.out _;(with_reducible repeat (first | refine jY ?_ _ | refine jZ ?_ | refine jX ?_ _));exact BK194.out⟩,⟨by (with_reducible repeat (first | refine jY ?_ _ | refine jZ ?_ | refine jX ?_ _));refine blk_far ?_ NB195_201.out _;(with_reducible repeat (first | refine jY ?_ _ | refine jZ ?_ | refine jX ?_ _));refine blk_far ?_ NB195_201.out _;(with_reducible repeat (first | refine jY ?_ _ | refine jZ ?_ | refine jX ?_ _));exact BK195.out⟩,⟨by (with_reducible repeat (first | refine jY ?_ _ | refine jZ ?_ | refine jX ?_ _));refine blk_put (cs:=#[.slice A200_0 ((rd_T96 l2 a3).f0).length c200_0,.slice none 0 0]) ?_ 1 _ rfl;(with_reducible repeat (first | refine jY ?_ _ | refine jZ ?_ | refine jX ?_ _));refine blk_put (cs:=#[.slice none 0 0,.slice none 0 0]) ?_ 0 _ rfl;(with_reducible repeat (first | refine jY ?_ _ | refine jZ ?_ | refine jX ?_ _));exact BK201.out⟩,⟨tE HB.out⟩⟩
     case round =>
      clear H'
      try clear c1
      try clear c2
      try clear p2
      try clear q2
      try clear hx2
      try clear c10
      try clear c14
      try clear c14b0
      try clear c15
      try clear c16
      try clear c17
      try clear c17b0
      try clear c18
      try clear c18b0
      try clear c20
      try clear p20
      try clear q20
      try clear hx20
      try clear c21
      try clear hcz11_0
      try clear hcz11_1
      try clear hcz11_2
      try clear hcz11_3
      try clear hcz11_4
      try clear hcz12_0
      try clear hcz12_1
      try clear hcz22_0
      try clear hcz22_1
      try clear hfz11_0
      try clear hfz11_1
      try clear hfz11_2
      try clear hfz11_3
      try clear hfz11_4
      try clear hfz12_0
      try clear hfz12_1
      try clear hfz22_0
      try clear hfz22_1
      try clear hx200_0
      try clear hx200_1
      try clear p2
      try clear p200
      try clear q200
      obtain ⟨x11_2,x35_2,rfl,HA,HK2,HO_11,BK194,BK195,BK201,HB⟩:=hrel
      cases gk with
      | zero=>exact absurd HA.out (by simp [table_deeds.l0])
      | succ k2 =>
       have H:=HA.out
       clear HA
       simp only [table_deeds.l0] at H
       by_cases c23:x35_2 < (((rd_T96 l2 a3).f0).length:Int)
       ·rw [if_pos c23] at H
        have c23b0:decide (x35_2 < (((rd_T96 l2 a3).f0).length:Int))=true:=decide_eq_true c23
        clear c23
        by_cases c24:0≤x35_2
        ·rw [if_pos c24] at H
         have c24b0:decide (0≤x35_2)=true:=decide_eq_true c24
         clear c24
         by_cases c25:x35_2 < (((rd_T96 l2 a3).f0).length:Int)
         ·rw [if_pos c25] at H
          have c25b0:decide (x35_2 < (((rd_T96 l2 a3).f0).length:Int))=true:=decide_eq_true c25
          clear c25
          have HC26:=jM H
          clear H
          have p202:0≤(x35_2:Int):=of_decide_eq_true tD
          have q202:x35_2 < (((rd_T96 l2 a3).f0).length:Int):=of_decide_eq_true tD
          obtain ⟨ad202,e202,hx202_0,hx202_1⟩:=at_T77 HR200_0.out x35_2 p202 q202
          cases e202
          replace hx202_0:=(HB.out.cell (jL w _ hx202_0)).trans hx202_0
          replace hx202_1:=(HB.out.cell (jL w _ hx202_1)).trans hx202_1
          replace p202:=eq_true p202
          replace q202:=eq_true q202
          go_upto_region 10 with (first | ((with_reducible refine gate_dst (N:=15) rfl ?_);refine box_event ?hg (N:=15) ?hd (cs:=#[.int .i64 0,.int .i64 0]) (t:=77) ?hr ?_;(case hd=>rfl);(case hg=>rfl);(case hr=>first | (go_simp;done) | (go_simp;rfl));intro gb203 hg w27 hbox hb;have n0_:=jM (Kd.R_below (tR HO_11.out) hb);have n1_:=jM (jW (g:=gb194) (o:=.cells #[.slice A0_0 l0_0.length c0_0,.slice A0_1 l0_1.length c0_1,.slice A0_2 l0_2.length c0_2,.slice A0_3 l0_3.length c0_3,.int .i64 a0_4] 27 (0,0)) (tK BK194.out) hb);have n2_:=jM (jW (g:=gb195) (o:=.cells #[.slice A1_0 l1_0.length c1_0,.slice A1_1 l1_1.length c1_1] 44 (0,0)) (tK BK195.out) hb);have n3_:=jM (jW (g:=gb201) (o:=.cells #[.slice (some ad202) ((rd_T96 l2 a3).f0).length c200_0,.slice A200_1 ((rd_T96 l2 a3).f1).length c200_1] 96 (0,0)) (tK BK201.out) hb);have n4_:=jM (jT (tE HB.out) hb);have n5_:=jM (hbox);have n6_:=jM ((by rw [hg];exact (below_size (tE HB.out)):w.heap.size≤gb203));have n7_:=jM ((by rw [hg];exact (below_size (tE HB.out)):w.heap.size≤gb203));have n8_:=jM ((by rw [hg];exact Nat.ne_of_lt (blk_lt (g:=gb194) (o:=.cells #[.slice A0_0 l0_0.length c0_0,.slice A0_1 l0_1.length c0_1,.slice A0_2 l0_2.length c0_2,.slice A0_3 l0_3.length c0_3,.int .i64 a0_4] 27 (0,0)) (tK BK194.out)):gb194≠gb203));have n9_:=jM ((by rw [hg];exact Nat.ne_of_gt (blk_lt (g:=gb194) (o:=.cells #[.slice A0_0 l0_0.length c0_0,.slice A0_1 l0_1.length c0_1,.slice A0_2 l0_2.length c0_2,.slice A0_3 l0_3.length c0_3,.int .i64 a0_4] 27 (0,0)) (tK BK194.out)):gb203≠gb194));have n10_:=jM ((by rw [hg];exact Nat.ne_of_lt (blk_lt (g:=gb195) (o:=.cells #[.slice A1_0 l1_0.length c1_0,.slice A1_1 l1_1.length c1_1] 44 (0,0)) (tK BK195.out)):gb195≠gb203));have n11_:=jM ((by rw [hg];exact Nat.ne_of_gt (blk_lt (g:=gb195) (o:=.cells #[.slice A1_0 l1_0.length c1_0,.slice A1_1 l1_1.length c1_1] 44 (0,0)) (tK BK195.out)):gb203≠gb195));have n12_:=jM ((by rw [hg];exact Nat.ne_of_lt (blk_lt (g:=gb201) (o:=.cells #[.slice (some ad202) ((rd_T96 l2 a3).f0).length c200_0,.slice A200_1 ((rd_T96 l2 a3).f1).length c200_1] 96 (0,0)) (tK BK201.out)):gb201≠gb203));have n13_:=jM ((by rw [hg];exact Nat.ne_of_gt (blk_lt (g:=gb201) (o:=.cells #[.slice (some ad202) ((rd_T96 l2 a3).f0).length c200_0,.slice A200_1 ((rd_T96 l2 a3).f1).length c200_1] 96 (0,0)) (tK BK201.out)):gb203≠gb201));clear HO_11 BK194 BK195 BK201 HB;have HO_11:=n0_;have BK194:=n1_;have BK195:=n2_;have BK201:=n3_;have HB:=n4_;have BK203:=n5_;have GW203:=n6_;have GE203:=n7_;have NB194_203:=n8_;have NB203_194:=n9_;have NB195_203:=n10_;have NB203_195:=n11_;have NB201_203:=n12_;have NB203_201:=n13_;clear n0_ n1_ n2_ n3_ n4_ n5_ n6_ n7_ n8_ n9_ n10_ n11_ n12_ n13_;clear hb hbox hg;have hnb28:=NB203_194.out;have hnc28:=NB194_203.out;have hnb29:=NB203_195.out;have hnc29:=NB195_203.out;have hnb30:=NB203_201.out;have hnc30:=NB201_203.out;obtain ⟨hcz31_0,hcz31_1⟩:=jC2 BK203.out;have hfz31_0:=jF BK203.out 0;have hfz31_1:=jF BK203.out 1))
          (try simp only [Act.put,sA])
          go_cut [46] (fun v46 wc=>∃ (kq:Nat) (x46_25:Bool),v46=.bool x46_25∧Aside0 (table_deeds.j2 kq a4 x11_2 ((rd_T96 l2 a3).f0) (((rd_T96 l2 a3).f0).length:Int) x35_2 x46_25 l0_0 l0_1 l0_2 l0_3 a0_4 ((rd_T96 l2 a3).f0) ((rd_T96 l2 a3).f1) ((rd_T77 ((rd_T96 l2 a3).f0) x35_2).f0) ((rd_T77 ((rd_T96 l2 a3).f0) x35_2).f1)=some r)∧Aside0 (kq≤k2)∧Aside0 (Kd.R k53 53 wc w.heap.size (fun _=>True) u11 x11_2)∧Aside0 (wc.heap[gb194]? = some (.cells #[(.slice A0_0 l0_0.length c0_0),(.slice A0_1 l0_1.length c0_1),(.slice A0_2 l0_2.length c0_2),(.slice A0_3 l0_3.length c0_3),.int .i64 a0_4] 27 (0,0)))∧Aside0 (wc.heap[gb195]? = some (.cells #[(.slice A1_0 l1_0.length c1_0),(.slice A1_1 l1_1.length c1_1)] 44 (0,0)))∧Aside0 (wc.heap[gb201]? = some (.cells #[(.slice (some ad202) ((rd_T96 l2 a3).f0).length c200_0),(.slice A200_1 ((rd_T96 l2 a3).f1).length c200_1)] 96 (0,0)))∧Aside0 (wc.heap[gb203]? = some (.cells #[.int .i64 ((rd_T77 ((rd_T96 l2 a3).f0) x35_2).f0),.int .i64 ((rd_T77 ((rd_T96 l2 a3).f0) x35_2).f1)] 77 (0,0)))∧Aside0 (Below w.heap.size w wc))
          case first =>
           have H:=HC26.out
           clear HC26
           replace H:=Option.bind_eq_some_iff.mp H
           obtain ⟨t204,A320,H⟩:=H
           replace H:(if ((rd_T77 ((rd_T96 l2 a3).f0) x35_2).f1) < t204 then (table_deeds.j2 k2 a4 x11_2 ((rd_T96 l2 a3).f0) (((rd_T96 l2 a3).f0).length:Int) x35_2 true l0_0 l0_1 l0_2 l0_3 a0_4 ((rd_T96 l2 a3).f0) ((rd_T96 l2 a3).f1) ((rd_T77 ((rd_T96 l2 a3).f0) x35_2).f0) ((rd_T77 ((rd_T96 l2 a3).f0) x35_2).f1)) else (if x35_2 < (((rd_T96 l2 a3).f1).length:Int) then ((table_bit.f l0_0 l0_1 l0_2 l0_3 a0_4 a4).bind fun t206=>((bits_Has.f (rd ((rd_T96 l2 a3).f1) x35_2) t206).bind fun t207=>(table_deeds.j2 k2 a4 x11_2 ((rd_T96 l2 a3).f0) (((rd_T96 l2 a3).f0).length:Int) x35_2 (!t207) l0_0 l0_1 l0_2 l0_3 a0_4 ((rd_T96 l2 a3).f0) ((rd_T96 l2 a3).f1) ((rd_T77 ((rd_T96 l2 a3).f0) x35_2).f0) ((rd_T77 ((rd_T96 l2 a3).f0) x35_2).f1)))) else (none)))=some r:=H
           have A32:=jM A320
           clear A320
           by_cases c33:((rd_T77 ((rd_T96 l2 a3).f0) x35_2).f1) < t204
           ·rw [if_pos c33] at H
            have c33b0:decide (((rd_T77 ((rd_T96 l2 a3).f0) x35_2).f1) < t204)=true:=decide_eq_true c33
            clear c33
            (first | rw [c33b0] | (simp only [i64_w,i32_w];rw [c33b0]) | skip)
            have H':=jM H
            clear H
            try go_wp2
            have n0_:Aside0 (Kd.R k53 53 ((w27.setCell ⟨gb203,0,none⟩ (.int .i64 ((rd_T77 ((rd_T96 l2 a3).f0) x35_2).f0))).setCell ⟨gb203,1,none⟩ (.int .i64 ((rd_T77 ((rd_T96 l2 a3).f0) x35_2).f1))) w.heap.size (fun _=>True) u11 x11_2):=⟨by (with_reducible repeat (first | apply Kd.R_alloc | apply Kd.R_drewN | apply Kd.R_drew));exact Kd.R_mono (Kd.R_far (p:=⟨gb203,1,none⟩) (Kd.R_far (p:=⟨gb203,0,none⟩) (Kd.R_types HO_11.out BK203.out (by decide)) (fun _ hk=>hk.2) (.int .i64 ((rd_T77 ((rd_T96 l2 a3).f0) x35_2).f0))) (fun _ hk=>hk.2) (.int .i64 ((rd_T77 ((rd_T96 l2 a3).f0) x35_2).f1))) (fun _ hk=>trivial)⟩
            have n1_:Aside0 (((w27.setCell ⟨gb203,0,none⟩ (.int .i64 ((rd_T77 ((rd_T96 l2 a3).f0) x35_2).f0))).setCell ⟨gb203,1,none⟩ (.int .i64 ((rd_T77 ((rd_T96 l2 a3).f0) x35_2).f1))).heap[gb194]? = some (.cells #[.slice A0_0 l0_0.length c0_0,.slice A0_1 l0_1.length c0_1,.slice A0_2 l0_2.length c0_2,.slice A0_3 l0_3.length c0_3,.int .i64 a0_4] 27 (0,0))):=⟨by (with_reducible repeat (first | refine jY ?_ _ | refine jZ ?_ | refine jX ?_ _));refine blk_far ?_ NB194_203.out _;(with_reducible repeat (first | refine jY ?_ _ | refine jZ ?_ | refine jX ?_ _));refine blk_far ?_ NB194_203.out _;(with_reducible repeat (first | refine jY ?_ _ | refine jZ ?_ | refine jX ?_ _));exact BK194.out⟩
            have n2_:Aside0 (((w27.setCell ⟨gb203,0,none⟩ (.int .i64 ((rd_T77 ((rd_T96 l2 a3).f0) x35_2).f0))).setCell ⟨gb203,1,none⟩ (.int .i64 ((rd_T77 ((rd_T96 l2 a3).f0) x35_2).f1))).heap[gb195]? = some (.cells #[.slice A1_0 l1_0.length c1_0,.slice A1_1 l1_1.length c1_1] 44 (0,0))):=⟨by (with_reducible repeat (first | refine jY ?_ _ | refine jZ ?_ | refine jX ?_ _));refine blk_far ?_ NB195_203.out _;(with_reducible repeat (first | refine jY ?_ _ | refine jZ ?_ | refine jX ?_ _));refine blk_far ?_ NB195_203.out _;(with_reducible repeat (first | refine jY ?_ _ | refine jZ ?_ | refine jX ?_ _));exact BK195.out⟩
            have n3_:Aside0 (((w27.setCell ⟨gb203,0,none⟩ (.int .i64 ((rd_T77 ((rd_T96 l2 a3).f0) x35_2).f0))).setCell ⟨gb203,1,none⟩ (.int .i64 ((rd_T77 ((rd_T96 l2 a3).f0) x35_2).f1))).heap[gb201]? = some (.cells #[.slice (some ad202) ((rd_T96 l2 a3).f0).length c200_0,.slice A200_1 ((rd_T96 l2 a3).f1).length c200_1] 96 (0,0))):=⟨by (with_reducible repeat (first | refine jY ?_ _ | refine jZ ?_ | refine jX ?_ _));refine blk_far ?_ NB201_203.out _;(with_reducible repeat (first | refine jY ?_ _ | refine jZ ?_ | refine jX ?_ _));refine blk_far ?_ NB201_203.out _;(with_reducible repeat (first | refine jY ?_ _ | refine jZ ?_ | refine jX ?_ _));exact BK201.out⟩
            have n4_:Aside0 (((w27.setCell ⟨gb203,0,none⟩ (.int .i64 ((rd_T77 ((rd_T96 l2 a3).f0) x35_2).f0))).setCell ⟨gb203,1,none⟩ (.int .i64 ((rd_T77 ((rd_T96 l2 a3).f0) x35_2).f1))).heap[gb203]? = some (.cells #[.int .i64 ((rd_T77 ((rd_T96 l2 a3).f0) x35_2).f0),.int .i64 ((rd_T77 ((rd_T96 l2 a3).f0) x35_2).f1)] 77 (0,0))):=⟨by (with_reducible repeat (first | refine jY ?_ _ | refine jZ ?_ | refine jX ?_ _));refine blk_put (cs:=#[.int .i64 ((rd_T77 ((rd_T96 l2 a3).f0) x35_2).f0),.int .i64 0]) ?_ 1 _ rfl;(with_reducible repeat (first | refine jY ?_ _ | refine jZ ?_ | refine jX ?_ _));refine blk_put (cs:=#[.int .i64 0,.int .i64 0]) ?_ 0 _ rfl;(with_reducible repeat (first | refine jY ?_ _ | refine jZ ?_ | refine jX ?_ _));exact BK203.out⟩
            have n5_:Aside0 (Below w.heap.size w ((w27.setCell ⟨gb203,0,none⟩ (.int .i64 ((rd_T77 ((rd_T96 l2 a3).f0) x35_2).f0))).setCell ⟨gb203,1,none⟩ (.int .i64 ((rd_T77 ((rd_T96 l2 a3).f0) x35_2).f1)))):=⟨tE HB.out⟩
            (try clear HO_11)
            (try clear BK194)
            (try clear BK195)
            (try clear BK201)
            (try clear BK203)
            (try clear HB)
            generalize ((w27.setCell ⟨gb203,0,none⟩ (.int .i64 ((rd_T77 ((rd_T96 l2 a3).f0) x35_2).f0))).setCell ⟨gb203,1,none⟩ (.int .i64 ((rd_T77 ((rd_T96 l2 a3).f0) x35_2).f1)))=w34 at n0_ n1_ n2_ n3_ n4_ n5_ ⊢
            have HO_11:=n0_
            have BK194:=n1_
            have BK195:=n2_
            have BK201:=n3_
            have BK203:=n4_
            have HB:=n5_
            clear n0_ n1_ n2_ n3_ n4_ n5_
            have n0_:=jM (Kd.R_drew HO_11.out)
            have n1_:=jM (jZ BK194.out)
            have n2_:=jM (jZ BK195.out)
            have n3_:=jM (jZ BK201.out)
            have n4_:=jM (jZ BK203.out)
            have n5_:=jM (jD HB.out)
            clear HO_11 BK194 BK195 BK201 BK203 HB
            have HO_11:=n0_
            have BK194:=n1_
            have BK195:=n2_
            have BK201:=n3_
            have BK203:=n4_
            have HB:=n5_
            clear n0_ n1_ n2_ n3_ n4_ n5_
            refine start_ (n:=20) (S:=fun w'=>w'.cell? ⟨gb203,0,none⟩=some (.int .i64 ((rd_T77 ((rd_T96 l2 a3).f0) x35_2).f0))∧w'.cell? ⟨gb203,1,none⟩=some (.int .i64 ((rd_T77 ((rd_T96 l2 a3).f0) x35_2).f1))∧w'.cell? ⟨gb194,0,none⟩=some (.slice A0_0 l0_0.length c0_0)∧w'.cell? ⟨gb194,1,none⟩=some (.slice A0_1 l0_1.length c0_1)∧w'.cell? ⟨gb194,2,none⟩=some (.slice A0_2 l0_2.length c0_2)∧w'.cell? ⟨gb194,3,none⟩=some (.slice A0_3 l0_3.length c0_3)∧w'.cell? ⟨gb194,4,none⟩=some (.int .i64 a0_4)) (ds:=[]) (tf 0 20) (by kernel_rfl) rfl rfl ⟨(jC BK203.out 0).trans rfl,(jC BK203.out 1).trans rfl,(jC BK194.out 0).trans rfl,(jC BK194.out 1).trans rfl,(jC BK194.out 2).trans rfl,(jC BK194.out 3).trans rfl,(jC BK194.out 4).trans rfl⟩ (fun hHeld=>?_);refine with_tabW table_deeds.tab10 table_deeds.bits10 (fun HT_ HW_=>?_)
            generalize w34.drew=w35 at HO_11 BK194 BK195 BK201 BK203 HB hHeld ⊢
            refine pU (i:=0) (N:=some 47) (tf 1 19) HT_ ?_
            refine pU (i:=3) (N:=some 50) #[true,false,false,true,false,false,false,false,false,false,false,false,false,false,false,false,false,false,false,false] HT_ ?_
            refine tU (i:=1) (N:=some 48) #[true,true,false,true,false,false,false,false,false,false,false,false,false,false,false,false,false,false,false,false] HT_ HW_ hHeld ?_
            refine tU (i:=2) (N:=some 49) (tf 4 16) HT_ HW_ hHeld ?_
            refine tU (i:=4) (N:=some 51) (tf 5 15) HT_ HW_ hHeld ?_
            refine one_ (i:=5) (N:=some 52) (tf 6 14) rfl rfl (one_of HT_.out (by kernel_rfl)) (by decide) (fun K hK=>?_)
            refine goes_ Tryz.func45 (by kernel_rfl) rfl #[.agg #[.slice A0_0 l0_0.length c0_0,.slice A0_1 l0_1.length c0_1,.slice A0_2 l0_2.length c0_2,.slice A0_3 l0_3.length c0_3,.int .i64 a0_4],.int .i64 ((rd_T77 ((rd_T96 l2 a3).f0) x35_2).f0)] (by rfl) rfl rfl tM ?_
            with_reducible refine (table_right.calls _ _ l0_0 _ _ l0_1 _ _ l0_2 _ _ l0_3 a0_4 ((rd_T77 ((rd_T96 l2 a3).f0) x35_2).f0) t204 _ ?side1 ?side2 ?side3 ?side4 ?side5 ?side6 ?side7 ?side8 A32.out).mono ?_
            (case side1=>exact tC (jB HR0_0.out HB.out))
            (case side2=>exact HC0_0.out)
            (case side3=>exact tC (jB HR0_1.out HB.out))
            (case side4=>exact HC0_1.out)
            (case side5=>exact tC (jB HR0_2.out HB.out))
            (case side6=>exact HC0_2.out)
            (case side7=>exact tC (jB HR0_3.out HB.out))
            (case side8=>exact HC0_3.out)
            rintro e w36 ⟨rfl,hb⟩
            refine ⟨_,rfl, ?_⟩
            have n0_:=jM (Kd.R_below (tR HO_11.out) hb)
            have n1_:=jM (jW (g:=gb194) (o:=.cells #[.slice A0_0 l0_0.length c0_0,.slice A0_1 l0_1.length c0_1,.slice A0_2 l0_2.length c0_2,.slice A0_3 l0_3.length c0_3,.int .i64 a0_4] 27 (0,0)) (tK BK194.out) hb)
            have n2_:=jM (jW (g:=gb195) (o:=.cells #[.slice A1_0 l1_0.length c1_0,.slice A1_1 l1_1.length c1_1] 44 (0,0)) (tK BK195.out) hb)
            have n3_:=jM (jW (g:=gb201) (o:=.cells #[.slice (some ad202) ((rd_T96 l2 a3).f0).length c200_0,.slice A200_1 ((rd_T96 l2 a3).f1).length c200_1] 96 (0,0)) (tK BK201.out) hb)
            have n4_:=jM (jW (g:=gb203) (o:=.cells #[.int .i64 ((rd_T77 ((rd_T96 l2 a3).f0) x35_2).f0),.int .i64 ((rd_T77 ((rd_T96 l2 a3).f0) x35_2).f1)] 77 (0,0)) (tK BK203.out) hb)
            have n5_:=jM (jT (tE HB.out) hb)
            clear HO_11 BK194 BK195 BK201 BK203 HB
            have HO_11:=n0_
            have BK194:=n1_
            have BK195:=n2_
            have BK201:=n3_
            have BK203:=n4_
            have HB:=n5_
            clear n0_ n1_ n2_ n3_ n4_ n5_
            (try clear hb)
            (try clear hb2)
            (try clear hk)
            (try clear hi)
            refine hK.out _ _ ⟨(jC BK203.out 0).trans rfl,(jC BK203.out 1).trans rfl,(jC BK194.out 0).trans rfl,(jC BK194.out 1).trans rfl,(jC BK194.out 2).trans rfl,(jC BK194.out 3).trans rfl,(jC BK194.out 4).trans rfl⟩ (fun hHeld=>?_)
            clear hK K
            refine nU (N:=some 52) ?_
            refine pU (i:=6) (N:=some 53) (tf 7 13) HT_ ?_
            refine pU (i:=7) (N:=some 54) (tf 8 12) HT_ ?_
            refine pV (i:=8) (N:=some 55) (tf 9 11) HT_ ?_
            refine pV (i:=9) (N:=some 56) (tf 10 10) HT_ ?_
            refine pV (i:=10) (N:=some 57) (tf 11 9) HT_ ?_
            refine pV (i:=11) (N:=some 58) (tf 12 8) HT_ ?_
            refine pV (i:=12) (N:=some 59) (tf 13 7) HT_ ?_
            refine pV (i:=13) (N:=some 60) (tf 14 6) HT_ ?_
            refine pV (i:=14) (N:=some 61) (tf 15 5) HT_ ?_
            refine pV (i:=15) (N:=some 62) (tf 16 4) HT_ ?_
            refine pV (i:=16) (N:=some 63) (tf 17 3) HT_ ?_
            refine pV (i:=17) (N:=some 64) (tf 18 2) HT_ ?_
            refine pU (i:=18) (N:=some 65) (tf 19 1) HT_ ?_
            refine pU (i:=19) (N:=some 46) (tf 20 0) HT_ ?_
            refine done_ (done_of HT_.out (by kernel_rfl)) ?_
            try go_wp2
            go_meet
            case rel=>exact ⟨_,(true),tZ,H',⟨by have:=HJ6.out;have:=HK2.out;first | omega | exact Nat.le_refl _⟩,⟨tR HO_11.out⟩,⟨tK BK194.out⟩,⟨tK BK195.out⟩,⟨tK BK201.out⟩,⟨tK BK203.out⟩,⟨tE HB.out⟩⟩
           ·rw [if_neg c33] at H
            have c33b0:decide (((rd_T77 ((rd_T96 l2 a3).f0) x35_2).f1) < t204)=false:=decide_eq_false c33
            clear c33
            (first | rw [c33b0] | (simp only [i64_w,i32_w];rw [c33b0]) | skip)
            by_cases c37:x35_2 < (((rd_T96 l2 a3).f1).length:Int)
            ·rw [if_pos c37] at H
             have c37b0:decide (x35_2 < (((rd_T96 l2 a3).f1).length:Int))=true:=decide_eq_true c37
             clear c37
             replace H:=Option.bind_eq_some_iff.mp H
             obtain ⟨t206,A380,H⟩:=H
             replace H:((bits_Has.f (rd ((rd_T96 l2 a3).f1) x35_2) t206).bind fun t207=>(table_deeds.j2 k2 a4 x11_2 ((rd_T96 l2 a3).f0) (((rd_T96 l2 a3).f0).length:Int) x35_2 (!t207) l0_0 l0_1 l0_2 l0_3 a0_4 ((rd_T96 l2 a3).f0) ((rd_T96 l2 a3).f1) ((rd_T77 ((rd_T96 l2 a3).f0) x35_2).f0) ((rd_T77 ((rd_T96 l2 a3).f0) x35_2).f1)))=some r:=H
             have A38:=jM A380
             clear A380
             replace H:=Option.bind_eq_some_iff.mp H
             obtain ⟨t207,A390,H⟩:=H
             replace H:(table_deeds.j2 k2 a4 x11_2 ((rd_T96 l2 a3).f0) (((rd_T96 l2 a3).f0).length:Int) x35_2 (!t207) l0_0 l0_1 l0_2 l0_3 a0_4 ((rd_T96 l2 a3).f0) ((rd_T96 l2 a3).f1) ((rd_T77 ((rd_T96 l2 a3).f0) x35_2).f0) ((rd_T77 ((rd_T96 l2 a3).f0) x35_2).f1))=some r:=H
             have A39:=jM A390
             clear A390
             have H':=jM H
             clear H
             try go_wp2
             have n0_:Aside0 (Kd.R k53 53 ((w27.setCell ⟨gb203,0,none⟩ (.int .i64 ((rd_T77 ((rd_T96 l2 a3).f0) x35_2).f0))).setCell ⟨gb203,1,none⟩ (.int .i64 ((rd_T77 ((rd_T96 l2 a3).f0) x35_2).f1))) w.heap.size (fun _=>True) u11 x11_2):=⟨by (with_reducible repeat (first | apply Kd.R_alloc | apply Kd.R_drewN | apply Kd.R_drew));exact Kd.R_mono (Kd.R_far (p:=⟨gb203,1,none⟩) (Kd.R_far (p:=⟨gb203,0,none⟩) (Kd.R_types HO_11.out BK203.out (by decide)) (fun _ hk=>hk.2) (.int .i64 ((rd_T77 ((rd_T96 l2 a3).f0) x35_2).f0))) (fun _ hk=>hk.2) (.int .i64 ((rd_T77 ((rd_T96 l2 a3).f0) x35_2).f1))) (fun _ hk=>trivial)⟩
             have n1_:Aside0 (((w27.setCell ⟨gb203,0,none⟩ (.int .i64 ((rd_T77 ((rd_T96 l2 a3).f0) x35_2).f0))).setCell ⟨gb203,1,none⟩ (.int .i64 ((rd_T77 ((rd_T96 l2 a3).f0) x35_2).f1))).heap[gb194]? = some (.cells #[.slice A0_0 l0_0.length c0_0,.slice A0_1 l0_1.length c0_1,.slice A0_2 l0_2.length c0_2,.slice A0_3 l0_3.length c0_3,.int .i64 a0_4] 27 (0,0))):=⟨by (with_reducible repeat (first | refine jY ?_ _ | refine jZ ?_ | refine jX ?_ _));refine blk_far ?_ NB194_203.out _;(with_reducible repeat (first | refine jY ?_ _ | refine jZ ?_ | refine jX ?_ _));refine blk_far ?_ NB194_203.out _;(with_reducible repeat (first | refine jY ?_ _ | refine jZ ?_ | refine jX ?_ _));exact BK194.out⟩
             have n2_:Aside0 (((w27.setCell ⟨gb203,0,none⟩ (.int .i64 ((rd_T77 ((rd_T96 l2 a3).f0) x35_2).f0))).setCell ⟨gb203,1,none⟩ (.int .i64 ((rd_T77 ((rd_T96 l2 a3).f0) x35_2).f1))).heap[gb195]? = some (.cells #[.slice A1_0 l1_0.length c1_0,.slice A1_1 l1_1.length c1_1] 44 (0,0))):=⟨by (with_reducible repeat (first | refine jY ?_ _ | refine jZ ?_ | refine jX ?_ _));refine blk_far ?_ NB195_203.out _;(with_reducible repeat (first | refine jY ?_ _ | refine jZ ?_ | refine jX ?_ _));refine blk_far ?_ NB195_203.out _;(with_reducible repeat (first | refine jY ?_ _ | refine jZ ?_ | refine jX ?_ _));exact BK195.out⟩
             have n3_:Aside0 (((w27.setCell ⟨gb203,0,none⟩ (.int .i64 ((rd_T77 ((rd_T96 l2 a3).f0) x35_2).f0))).setCell ⟨gb203,1,none⟩ (.int .i64 ((rd_T77 ((rd_T96 l2 a3).f0) x35_2).f1))).heap[gb201]? = some (.cells #[.slice (some ad202) ((rd_T96 l2 a3).f0).length c200_0,.slice A200_1 ((rd_T96 l2 a3).f1).length c200_1] 96 (0,0))):=⟨by (with_reducible repeat (first | refine jY ?_ _ | refine jZ ?_ | refine jX ?_ _));refine blk_far ?_ NB201_203.out _;(with_reducible repeat (first | refine jY ?_ _ | refine jZ ?_ | refine jX ?_ _));refine blk_far ?_ NB201_203.out _;(with_reducible repeat (first | refine jY ?_ _ | refine jZ ?_ | refine jX ?_ _));exact BK201.out⟩
             have n4_:Aside0 (((w27.setCell ⟨gb203,0,none⟩ (.int .i64 ((rd_T77 ((rd_T96 l2 a3).f0) x35_2).f0))).setCell ⟨gb203,1,none⟩ (.int .i64 ((rd_T77 ((rd_T96 l2 a3).f0) x35_2).f1))).heap[gb203]? = some (.cells #[.int .i64 ((rd_T77 ((rd_T96 l2 a3).f0) x35_2).f0),.int .i64 ((rd_T77 ((rd_T96 l2 a3).f0) x35_2).f1)] 77 (0,0))):=⟨by (with_reducible repeat (first | refine jY ?_ _ | refine jZ ?_ | refine jX ?_ _));refine blk_put (cs:=#[.int .i64 ((rd_T77 ((rd_T96 l2 a3).f0) x35_2).f0),.int .i64 0]) ?_ 1 _ rfl;(with_reducible repeat (first | refine jY ?_ _ | refine jZ ?_ | refine jX ?_ _));refine blk_put (cs:=#[.int .i64 0,.int .i64 0]) ?_ 0 _ rfl;(with_reducible repeat (first | refine jY ?_ _ | refine jZ ?_ | refine jX ?_ _));exact BK203.out⟩
             have n5_:Aside0 (Below w.heap.size w ((w27.setCell ⟨gb203,0,none⟩ (.int .i64 ((rd_T77 ((rd_T96 l2 a3).f0) x35_2).f0))).setCell ⟨gb203,1,none⟩ (.int .i64 ((rd_T77 ((rd_T96 l2 a3).f0) x35_2).f1)))):=⟨tE HB.out⟩
             (try clear HO_11)
             (try clear BK194)
             (try clear BK195)
             (try clear BK201)
             (try clear BK203)
             (try clear HB)
             generalize ((w27.setCell ⟨gb203,0,none⟩ (.int .i64 ((rd_T77 ((rd_T96 l2 a3).f0) x35_2).f0))).setCell ⟨gb203,1,none⟩ (.int .i64 ((rd_T77 ((rd_T96 l2 a3).f0) x35_2).f1)))=w40 at n0_ n1_ n2_ n3_ n4_ n5_ ⊢
             have HO_11:=n0_
             have BK194:=n1_
             have BK195:=n2_
             have BK201:=n3_
             have BK203:=n4_
             have HB:=n5_
             clear n0_ n1_ n2_ n3_ n4_ n5_
             have n0_:=jM (Kd.R_drew HO_11.out)
             have n1_:=jM (jZ BK194.out)
             have n2_:=jM (jZ BK195.out)
             have n3_:=jM (jZ BK201.out)
             have n4_:=jM (jZ BK203.out)
             have n5_:=jM (jD HB.out)
             clear HO_11 BK194 BK195 BK201 BK203 HB
             have HO_11:=n0_
             have BK194:=n1_
             have BK195:=n2_
             have BK201:=n3_
             have BK203:=n4_
             have HB:=n5_
             clear n0_ n1_ n2_ n3_ n4_ n5_
             have p205:0≤(x35_2:Int):=of_decide_eq_true tD
             have q205:x35_2 < (((rd_T96 l2 a3).f1).length:Int):=of_decide_eq_true tD
             obtain ⟨ad205,e205,hx205_0⟩:=Kd.at_int HR200_1.out x35_2 p205 q205
             have hw205_0:=hx205_0
             cases e205
             replace hx205_0:=(HB.out.cell (jL w _ hx205_0)).trans hx205_0
             replace p205:=eq_true p205
             replace q205:=eq_true q205
             refine start_ (n:=20) (S:=fun w'=>w'.cell? ⟨gb203,0,none⟩=some (.int .i64 ((rd_T77 ((rd_T96 l2 a3).f0) x35_2).f0))∧w'.cell? ⟨gb203,1,none⟩=some (.int .i64 ((rd_T77 ((rd_T96 l2 a3).f0) x35_2).f1))∧w'.cell? ⟨gb194,0,none⟩=some (.slice A0_0 l0_0.length c0_0)∧w'.cell? ⟨gb194,1,none⟩=some (.slice A0_1 l0_1.length c0_1)∧w'.cell? ⟨gb194,2,none⟩=some (.slice A0_2 l0_2.length c0_2)∧w'.cell? ⟨gb194,3,none⟩=some (.slice A0_3 l0_3.length c0_3)∧w'.cell? ⟨gb194,4,none⟩=some (.int .i64 a0_4)∧w'.cell? ⟨gb201,0,none⟩=some (.slice (some ad202) ((rd_T96 l2 a3).f0).length c200_0)∧w'.cell? ⟨gb201,1,none⟩=some (.slice (some ad205) ((rd_T96 l2 a3).f1).length c200_1)∧w'.cell? (ad205.add (x35_2).toNat)=some (.int .u64 (rd ((rd_T96 l2 a3).f1) x35_2))) (ds:=[]) (tf 0 20) (by kernel_rfl) rfl rfl ⟨(jC BK203.out 0).trans rfl,(jC BK203.out 1).trans rfl,(jC BK194.out 0).trans rfl,(jC BK194.out 1).trans rfl,(jC BK194.out 2).trans rfl,(jC BK194.out 3).trans rfl,(jC BK194.out 4).trans rfl,(jC BK201.out 0).trans rfl,(jC BK201.out 1).trans rfl,((HB.out.cell (jL w _ hw205_0)).trans hw205_0)⟩ (fun hHeld=>?_);refine with_tabW table_deeds.tab10 table_deeds.bits10 (fun HT_ HW_=>?_)
             generalize w40.drew=w41 at HO_11 BK194 BK195 BK201 BK203 HB hx205_0 hHeld ⊢
             refine pU (i:=0) (N:=some 47) (tf 1 19) HT_ ?_
             refine pU (i:=3) (N:=some 50) #[true,false,false,true,false,false,false,false,false,false,false,false,false,false,false,false,false,false,false,false] HT_ ?_
             refine tU (i:=1) (N:=some 48) #[true,true,false,true,false,false,false,false,false,false,false,false,false,false,false,false,false,false,false,false] HT_ HW_ hHeld ?_
             refine tU (i:=2) (N:=some 49) (tf 4 16) HT_ HW_ hHeld ?_
             refine tU (i:=4) (N:=some 51) (tf 5 15) HT_ HW_ hHeld ?_
             refine one_ (i:=5) (N:=some 52) (tf 6 14) rfl rfl (one_of HT_.out (by kernel_rfl)) (by decide) (fun K hK=>?_)
             refine goes_ Tryz.func45 (by kernel_rfl) rfl #[.agg #[.slice A0_0 l0_0.length c0_0,.slice A0_1 l0_1.length c0_1,.slice A0_2 l0_2.length c0_2,.slice A0_3 l0_3.length c0_3,.int .i64 a0_4],.int .i64 ((rd_T77 ((rd_T96 l2 a3).f0) x35_2).f0)] (by rfl) rfl rfl tM ?_
             with_reducible refine (table_right.calls _ _ l0_0 _ _ l0_1 _ _ l0_2 _ _ l0_3 a0_4 ((rd_T77 ((rd_T96 l2 a3).f0) x35_2).f0) t204 _ ?side1 ?side2 ?side3 ?side4 ?side5 ?side6 ?side7 ?side8 A32.out).mono ?_
             (case side1=>exact tC (jB HR0_0.out HB.out))
             (case side2=>exact HC0_0.out)
             (case side3=>exact tC (jB HR0_1.out HB.out))
             (case side4=>exact HC0_1.out)
             (case side5=>exact tC (jB HR0_2.out HB.out))
             (case side6=>exact HC0_2.out)
             (case side7=>exact tC (jB HR0_3.out HB.out))
             (case side8=>exact HC0_3.out)
             rintro e w42 ⟨rfl,hb⟩
             refine ⟨_,rfl, ?_⟩
             have n0_:=jM (Kd.R_below (tR HO_11.out) hb)
             have n1_:=jM (jW (g:=gb194) (o:=.cells #[.slice A0_0 l0_0.length c0_0,.slice A0_1 l0_1.length c0_1,.slice A0_2 l0_2.length c0_2,.slice A0_3 l0_3.length c0_3,.int .i64 a0_4] 27 (0,0)) (tK BK194.out) hb)
             have n2_:=jM (jW (g:=gb195) (o:=.cells #[.slice A1_0 l1_0.length c1_0,.slice A1_1 l1_1.length c1_1] 44 (0,0)) (tK BK195.out) hb)
             have n3_:=jM (jW (g:=gb201) (o:=.cells #[.slice (some ad202) ((rd_T96 l2 a3).f0).length c200_0,.slice (some ad205) ((rd_T96 l2 a3).f1).length c200_1] 96 (0,0)) (tK BK201.out) hb)
             have n4_:=jM (jW (g:=gb203) (o:=.cells #[.int .i64 ((rd_T77 ((rd_T96 l2 a3).f0) x35_2).f0),.int .i64 ((rd_T77 ((rd_T96 l2 a3).f0) x35_2).f1)] 77 (0,0)) (tK BK203.out) hb)
             have n5_:=jM (jT (tE HB.out) hb)
             clear HO_11 BK194 BK195 BK201 BK203 HB
             have HO_11:=n0_
             have BK194:=n1_
             have BK195:=n2_
             have BK201:=n3_
             have BK203:=n4_
             have HB:=n5_
             clear n0_ n1_ n2_ n3_ n4_ n5_
             (try clear hb)
             (try clear hb2)
             (try clear hk)
             (try clear hi)
             refine hK.out _ _ ⟨(jC BK203.out 0).trans rfl,(jC BK203.out 1).trans rfl,(jC BK194.out 0).trans rfl,(jC BK194.out 1).trans rfl,(jC BK194.out 2).trans rfl,(jC BK194.out 3).trans rfl,(jC BK194.out 4).trans rfl,(jC BK201.out 0).trans rfl,(jC BK201.out 1).trans rfl,((HB.out.cell (jL w _ hw205_0)).trans hw205_0)⟩ (fun hHeld=>?_)
             clear hK K
             refine nU (N:=some 52) ?_
             refine pU (i:=6) (N:=some 53) (tf 7 13) HT_ ?_
             refine pU (i:=7) (N:=some 54) (tf 8 12) HT_ ?_
             refine pU (i:=8) (N:=some 55) (tf 9 11) HT_ ?_
             refine pU (i:=10) (N:=some 57) #[true,true,true,true,true,true,true,true,true,false,true,false,false,false,false,false,false,false,false,false] HT_ ?_
             refine pU (i:=14) (N:=some 61) #[true,true,true,true,true,true,true,true,true,false,true,false,false,false,true,false,false,false,false,false] HT_ ?_
             refine tU (i:=9) (N:=some 56) #[true,true,true,true,true,true,true,true,true,true,true,false,false,false,true,false,false,false,false,false] HT_ HW_ hHeld ?_
             refine pU (i:=11) (N:=some 58) #[true,true,true,true,true,true,true,true,true,true,true,true,false,false,true,false,false,false,false,false] HT_ ?_
             refine tU (i:=12) (N:=some 59) #[true,true,true,true,true,true,true,true,true,true,true,true,true,false,true,false,false,false,false,false] HT_ HW_ hHeld ?_
             refine tU (i:=13) (N:=some 60) (tf 15 5) HT_ HW_ hHeld ?_
             refine one_ (i:=15) (N:=some 62) (tf 16 4) rfl rfl (one_of HT_.out (by kernel_rfl)) (by decide) (fun K hK=>?_)
             refine goes_ Tryz.func24 (by kernel_rfl) rfl #[.agg #[.slice A0_0 l0_0.length c0_0,.slice A0_1 l0_1.length c0_1,.slice A0_2 l0_2.length c0_2,.slice A0_3 l0_3.length c0_3,.int .i64 a0_4],.int .i64 a4] (by rfl) rfl rfl tM ?_
             with_reducible refine (table_bit.calls _ _ l0_0 _ _ l0_1 _ _ l0_2 _ _ l0_3 a0_4 a4 t206 _ ?side1 ?side2 ?side3 ?side4 ?side5 ?side6 ?side7 ?side8 A38.out).mono ?_
             (case side1=>exact tC (jB HR0_0.out HB.out))
             (case side2=>exact HC0_0.out)
             (case side3=>exact tC (jB HR0_1.out HB.out))
             (case side4=>exact HC0_1.out)
             (case side5=>exact tC (jB HR0_2.out HB.out))
             (case side6=>exact HC0_2.out)
             (case side7=>exact tC (jB HR0_3.out HB.out))
             (case side8=>exact HC0_3.out)
             rintro e w43 ⟨rfl,hb⟩
             refine ⟨_,rfl, ?_⟩
             have n0_:=jM (Kd.R_below (tR HO_11.out) hb)
             have n1_:=jM (jW (g:=gb194) (o:=.cells #[.slice A0_0 l0_0.length c0_0,.slice A0_1 l0_1.length c0_1,.slice A0_2 l0_2.length c0_2,.slice A0_3 l0_3.length c0_3,.int .i64 a0_4] 27 (0,0)) (tK BK194.out) hb)
             have n2_:=jM (jW (g:=gb195) (o:=.cells #[.slice A1_0 l1_0.length c1_0,.slice A1_1 l1_1.length c1_1] 44 (0,0)) (tK BK195.out) hb)
             have n3_:=jM (jW (g:=gb201) (o:=.cells #[.slice (some ad202) ((rd_T96 l2 a3).f0).length c200_0,.slice (some ad205) ((rd_T96 l2 a3).f1).length c200_1] 96 (0,0)) (tK BK201.out) hb)
             have n4_:=jM (jW (g:=gb203) (o:=.cells #[.int .i64 ((rd_T77 ((rd_T96 l2 a3).f0) x35_2).f0),.int .i64 ((rd_T77 ((rd_T96 l2 a3).f0) x35_2).f1)] 77 (0,0)) (tK BK203.out) hb)
             have n5_:=jM (jT (tE HB.out) hb)
             clear HO_11 BK194 BK195 BK201 BK203 HB
             have HO_11:=n0_
             have BK194:=n1_
             have BK195:=n2_
             have BK201:=n3_
             have BK203:=n4_
             have HB:=n5_
             clear n0_ n1_ n2_ n3_ n4_ n5_
             (try clear hb)
             (try clear hb2)
             (try clear hk)
             (try clear hi)
             refine hK.out _ _ ⟨(jC BK203.out 0).trans rfl,(jC BK203.out 1).trans rfl,(jC BK194.out 0).trans rfl,(jC BK194.out 1).trans rfl,(jC BK194.out 2).trans rfl,(jC BK194.out 3).trans rfl,(jC BK194.out 4).trans rfl,(jC BK201.out 0).trans rfl,(jC BK201.out 1).trans rfl,((HB.out.cell (jL w _ hw205_0)).trans hw205_0)⟩ (fun hHeld=>?_)
             clear hK K
             refine nU (N:=some 62) ?_
             refine one_ (i:=16) (N:=some 63) (tf 17 3) rfl rfl (one_of HT_.out (by kernel_rfl)) (by decide) (fun K hK=>?_)
             refine goes_ Tryz.func22 (by kernel_rfl) rfl #[.int .u64 (rd ((rd_T96 l2 a3).f1) x35_2),.int .i64 t206] (by rfl) rfl rfl tM ?_
             with_reducible refine (bits_Has.calls (rd ((rd_T96 l2 a3).f1) x35_2) t206 t207 _ A39.out).mono ?_
             rintro e w' ⟨rfl,⟨nd,rfl⟩⟩
             refine ⟨_,rfl, ?_⟩
             refine hK.out _ _ ⟨(jC BK203.out 0).trans rfl,(jC BK203.out 1).trans rfl,(jC BK194.out 0).trans rfl,(jC BK194.out 1).trans rfl,(jC BK194.out 2).trans rfl,(jC BK194.out 3).trans rfl,(jC BK194.out 4).trans rfl,(jC BK201.out 0).trans rfl,(jC BK201.out 1).trans rfl,((HB.out.cell (jL w _ hw205_0)).trans hw205_0)⟩ (fun hHeld=>?_)
             clear hK K
             refine nU (N:=some 63) ?_
             refine pU (i:=17) (N:=some 64) (tf 18 2) HT_ ?_
             refine pU (i:=18) (N:=some 65) (tf 19 1) HT_ ?_
             refine pU (i:=19) (N:=some 46) (tf 20 0) HT_ ?_
             refine done_ (done_of HT_.out (by kernel_rfl)) ?_
             try go_wp2
             go_meet
             case rel=>exact ⟨_,(!t207),tZ,H',⟨by have:=HJ6.out;have:=HK2.out;first | omega | exact Nat.le_refl _⟩,⟨tR HO_11.out⟩,⟨tK BK194.out⟩,⟨tK BK195.out⟩,⟨tK BK201.out⟩,⟨tK BK203.out⟩,⟨tE HB.out⟩⟩
            ·rw [if_neg c37] at H
             exact absurd H (by simp)
          case rest =>
           clear HC26
           try clear c1
           try clear c2
           try clear p2
           try clear q2
           try clear hx2
           try clear c3
           try clear c4
           try clear c10
           try clear c14
           try clear c14b0
           try clear c15
           try clear c16
           try clear c17
           try clear c17b0
           try clear c18
           try clear c18b0
           try clear c20
           try clear p20
           try clear q20
           try clear hx20
           try clear c21
           try clear c22
           try clear c23
           try clear c23b0
           try clear c24
           try clear c24b0
           try clear c25
           try clear c25b0
           try clear c28
           try clear c29
           try clear c30
           try clear c33
           try clear c33b0
           try clear c37
           try clear c37b0
           try clear hcz11_0
           try clear hcz11_1
           try clear hcz11_2
           try clear hcz11_3
           try clear hcz11_4
           try clear hcz12_0
           try clear hcz12_1
           try clear hcz22_0
           try clear hcz22_1
           try clear hcz31_0
           try clear hcz31_1
           try clear hfz11_0
           try clear hfz11_1
           try clear hfz11_2
           try clear hfz11_3
           try clear hfz11_4
           try clear hfz12_0
           try clear hfz12_1
           try clear hfz22_0
           try clear hfz22_1
           try clear hfz31_0
           try clear hfz31_1
           try clear hx200_0
           try clear hx200_1
           try clear hx202_0
           try clear hx202_1
           try clear hx205_0
           try clear p2
           try clear p20
           try clear p200
           try clear p202
           try clear p205
           try clear q2
           try clear q20
           try clear q200
           try clear q202
           try clear q205
           obtain ⟨kq,x46_25,rfl,HA,HJ25,HO_11,BK194,BK195,BK201,BK203,HB⟩:=hcut
           cases kq with
           | zero=>exact absurd HA.out (by simp [table_deeds.j2])
           | succ kj25 =>
            have H:=HA.out
            clear HA
            simp only [table_deeds.j2] at H
            by_cases c44:x46_25=true
            ·subst c44
             have H1:(table_deeds.l0 kj25 a4 x11_2 ((rd_T96 l2 a3).f0) (((rd_T96 l2 a3).f0).length:Int) (wrap64 (x35_2+1)) l0_0 l0_1 l0_2 l0_3 a0_4 ((rd_T96 l2 a3).f0) ((rd_T96 l2 a3).f1))=some r:=by rw [if_pos rfl] at H;exact H
             clear H
             have H:=H1
             clear H1
             have H':=jM H
             clear H
             go_wp2
             go_roundg kj25
             case measure=>have:=HJ6.out;have:=HK2.out;have:=HJ25.out;omega
             case rel=>exact ⟨(x11_2),(wrap64 (x35_2+1)),tZ,H',⟨by have:=HJ6.out;have:=HK2.out;have:=HJ25.out;omega⟩,⟨tR HO_11.out⟩,⟨tK BK194.out⟩,⟨tK BK195.out⟩,⟨tK BK201.out⟩,⟨tE HB.out⟩⟩
            ·replace c44:=Bool.eq_false_iff.mpr c44
             subst c44
             have H1:(if ((rd_T77 ((rd_T96 l2 a3).f0) x35_2).f0) < 0 then (if x11_2.length < 8796093022208 then (table_deeds.l0 kj25 a4 (x11_2 ++ [(⟨3,0⟩:S53)]) ((rd_T96 l2 a3).f0) (((rd_T96 l2 a3).f0).length:Int) (wrap64 (x35_2+1)) l0_0 l0_1 l0_2 l0_3 a0_4 ((rd_T96 l2 a3).f0) ((rd_T96 l2 a3).f1)) else (none)) else (if x11_2.length < 8796093022208 then (table_deeds.l0 kj25 a4 (x11_2 ++ [(⟨2,((rd_T77 ((rd_T96 l2 a3).f0) x35_2).f0)⟩:S53)]) ((rd_T96 l2 a3).f0) (((rd_T96 l2 a3).f0).length:Int) (wrap64 (x35_2+1)) l0_0 l0_1 l0_2 l0_3 a0_4 ((rd_T96 l2 a3).f0) ((rd_T96 l2 a3).f1)) else (none)))=some r:=by rw [if_neg (show ¬ (false=true) by decide)] at H;exact H
             clear H
             have H:=H1
             clear H1
             by_cases c45:((rd_T77 ((rd_T96 l2 a3).f0) x35_2).f0) < 0
             ·rw [if_pos c45] at H
              have c45b0:decide (((rd_T77 ((rd_T96 l2 a3).f0) x35_2).f0) < 0)=true:=decide_eq_true c45
              clear c45
              by_cases c46:x11_2.length < 8796093022208
              ·rw [if_pos c46] at H
               have LMc46:=jM c46
               clear c46
               obtain ⟨y208,hy208⟩:∃ y_:List (S53),y_=(x11_2 ++ [(⟨3,0⟩:S53)]):=⟨_,rfl⟩
               replace H:(table_deeds.l0 kj25 a4 y208 ((rd_T96 l2 a3).f0) (((rd_T96 l2 a3).f0).length:Int) (wrap64 (x35_2+1)) l0_0 l0_1 l0_2 l0_3 a0_4 ((rd_T96 l2 a3).f0) ((rd_T96 l2 a3).f1))=some r:=by first | (rw [hy208];with_reducible exact H) | (have H2_:=(Option.bind_some _ _).symm.trans H;rw [hy208];with_reducible exact H2_) | (have H2_:=(Option.bind_some _ _).symm.trans H;with_reducible exact H2_) | with_reducible exact H | (rw [hy208];exact H) | exact H
               have Ny208:=jM hy208
               clear hy208
               have H':=jM H
               clear H
               have hnb47:=NB203_194.out
               have hnc47:=NB194_203.out
               have hnb48:=NB203_195.out
               have hnc48:=NB195_203.out
               have hnb49:=NB203_201.out
               have hnc49:=NB201_203.out
               have hcz50_0:wc.cell? ⟨gb203,0,none⟩=some (.int .i64 ((rd_T77 ((rd_T96 l2 a3).f0) x35_2).f0)):=(jC BK203.out 0).trans rfl
               have hcz50_1:wc.cell? ⟨gb203,1,none⟩=some (.int .i64 ((rd_T77 ((rd_T96 l2 a3).f0) x35_2).f1)):=(jC BK203.out 1).trans rfl
               have hfz50_0:=jF BK203.out 0
               have hfz50_1:=jF BK203.out 1
               go_wp2_with (first | ((with_reducible refine gate_builtin (b:=.append) (xs:=#[.tmp 70,.tmp 72]) rfl ?_);at_builtin;refine Kd.R_append k53 (w0:=w) w.heap.size rfl (.tmp 70) (.tmp 72) 49 53 (.agg #[(.int .i64 0),(.int .i64 0)]) 16 rfl Tryz.underlying49 info53 rfl (by decide) (by omega) u11 x11_2 (⟨3,0⟩:S53) [.int .i64 3,.int .i64 0] (fun _=>True) (fun _=>False) rfl rfl ?aP (fun _ hk=>hk.elim) ?aF ?aO ?aB ?aS ?aL ?_;(case aP=>exact k53_mkM _ _ _ (⟨3,0⟩:S53));(case aB=>exact (tE HB.out));(case aF=>exact (fun _ _=>trivial));(case aO=>exact (tR HO_11.out));(case aS=>exact (below_size (tE HB.out)));(case aL=>have:=LMc46.out;omega);intro v209 w51 ho hb hg hat;rw [← Ny208.out] at ho;replace BK194:=jM (blk_grown (g:=gb194) (o:=.cells #[.slice A0_0 l0_0.length c0_0,.slice A0_1 l0_1.length c0_1,.slice A0_2 l0_2.length c0_2,.slice A0_3 l0_3.length c0_3,.int .i64 a0_4] 27 (0,0)) (tK BK194.out) hg (Kd.R_ne HO_11.out BK194.out (by decide)));replace BK195:=jM (blk_grown (g:=gb195) (o:=.cells #[.slice A1_0 l1_0.length c1_0,.slice A1_1 l1_1.length c1_1] 44 (0,0)) (tK BK195.out) hg (Kd.R_ne HO_11.out BK195.out (by decide)));replace BK201:=jM (blk_grown (g:=gb201) (o:=.cells #[.slice (some ad202) ((rd_T96 l2 a3).f0).length c200_0,.slice A200_1 ((rd_T96 l2 a3).f1).length c200_1] 96 (0,0)) (tK BK201.out) hg (Kd.R_ne HO_11.out BK201.out (by decide)));replace BK203:=jM (blk_grown (g:=gb203) (o:=.cells #[.int .i64 ((rd_T77 ((rd_T96 l2 a3).f0) x35_2).f0),.int .i64 ((rd_T77 ((rd_T96 l2 a3).f0) x35_2).f1)] 77 (0,0)) (tK BK203.out) hg (Kd.R_ne HO_11.out BK203.out (by decide)));replace HB:=jM (hb);have HO210:=jM (ho);clear HO_11 ho hb hg hat))
               go_roundg kj25
               case measure=>have:=HJ6.out;have:=HK2.out;have:=HJ25.out;omega
               case rel=>exact ⟨(y208),(wrap64 (x35_2+1)),tZ,H',⟨by have:=HJ6.out;have:=HK2.out;have:=HJ25.out;omega⟩,⟨tR HO210.out⟩,⟨tK BK194.out⟩,⟨tK BK195.out⟩,⟨tK BK201.out⟩,⟨tE HB.out⟩⟩
              ·rw [if_neg c46] at H
               exact absurd H (by simp)
             ·rw [if_neg c45] at H
              have c45b0:decide (((rd_T77 ((rd_T96 l2 a3).f0) x35_2).f0) < 0)=false:=decide_eq_false c45
              clear c45
              by_cases c52:x11_2.length < 8796093022208
              ·rw [if_pos c52] at H
               have LMc52:=jM c52
               clear c52
               obtain ⟨y211,hy211⟩:∃ y_:List (S53),y_=(x11_2 ++ [(⟨2,((rd_T77 ((rd_T96 l2 a3).f0) x35_2).f0)⟩:S53)]):=⟨_,rfl⟩
               replace H:(table_deeds.l0 kj25 a4 y211 ((rd_T96 l2 a3).f0) (((rd_T96 l2 a3).f0).length:Int) (wrap64 (x35_2+1)) l0_0 l0_1 l0_2 l0_3 a0_4 ((rd_T96 l2 a3).f0) ((rd_T96 l2 a3).f1))=some r:=by first | (rw [hy211];with_reducible exact H) | (have H2_:=(Option.bind_some _ _).symm.trans H;rw [hy211];with_reducible exact H2_) | (have H2_:=(Option.bind_some _ _).symm.trans H;with_reducible exact H2_) | with_reducible exact H | (rw [hy211];exact H) | exact H
               have Ny211:=jM hy211
               clear hy211
               have H':=jM H
               clear H
               have hnb53:=NB203_194.out
               have hnc53:=NB194_203.out
               have hnb54:=NB203_195.out
               have hnc54:=NB195_203.out
               have hnb55:=NB203_201.out
               have hnc55:=NB201_203.out
               have hcz56_0:wc.cell? ⟨gb203,0,none⟩=some (.int .i64 ((rd_T77 ((rd_T96 l2 a3).f0) x35_2).f0)):=(jC BK203.out 0).trans rfl
               have hcz56_1:wc.cell? ⟨gb203,1,none⟩=some (.int .i64 ((rd_T77 ((rd_T96 l2 a3).f0) x35_2).f1)):=(jC BK203.out 1).trans rfl
               have hfz56_0:=jF BK203.out 0
               have hfz56_1:=jF BK203.out 1
               go_wp2_with (first | ((with_reducible refine gate_builtin (b:=.append) (xs:=#[.tmp 40,.tmp 44]) rfl ?_);at_builtin;refine Kd.R_append k53 (w0:=w) w.heap.size rfl (.tmp 40) (.tmp 44) 49 53 (.agg #[(.int .i64 0),(.int .i64 0)]) 16 rfl Tryz.underlying49 info53 rfl (by decide) (by omega) u11 x11_2 (⟨2,((rd_T77 ((rd_T96 l2 a3).f0) x35_2).f0)⟩:S53) [.int .i64 2,.int .i64 ((rd_T77 ((rd_T96 l2 a3).f0) x35_2).f0)] (fun _=>True) (fun _=>False) rfl rfl ?aP (fun _ hk=>hk.elim) ?aF ?aO ?aB ?aS ?aL ?_;(case aP=>exact k53_mkM _ _ _ (⟨2,((rd_T77 ((rd_T96 l2 a3).f0) x35_2).f0)⟩:S53));(case aB=>exact (tE HB.out));(case aF=>exact (fun _ _=>trivial));(case aO=>exact (tR HO_11.out));(case aS=>exact (below_size (tE HB.out)));(case aL=>have:=LMc52.out;omega);intro v212 w57 ho hb hg hat;rw [← Ny211.out] at ho;replace BK194:=jM (blk_grown (g:=gb194) (o:=.cells #[.slice A0_0 l0_0.length c0_0,.slice A0_1 l0_1.length c0_1,.slice A0_2 l0_2.length c0_2,.slice A0_3 l0_3.length c0_3,.int .i64 a0_4] 27 (0,0)) (tK BK194.out) hg (Kd.R_ne HO_11.out BK194.out (by decide)));replace BK195:=jM (blk_grown (g:=gb195) (o:=.cells #[.slice A1_0 l1_0.length c1_0,.slice A1_1 l1_1.length c1_1] 44 (0,0)) (tK BK195.out) hg (Kd.R_ne HO_11.out BK195.out (by decide)));replace BK201:=jM (blk_grown (g:=gb201) (o:=.cells #[.slice (some ad202) ((rd_T96 l2 a3).f0).length c200_0,.slice A200_1 ((rd_T96 l2 a3).f1).length c200_1] 96 (0,0)) (tK BK201.out) hg (Kd.R_ne HO_11.out BK201.out (by decide)));replace BK203:=jM (blk_grown (g:=gb203) (o:=.cells #[.int .i64 ((rd_T77 ((rd_T96 l2 a3).f0) x35_2).f0),.int .i64 ((rd_T77 ((rd_T96 l2 a3).f0) x35_2).f1)] 77 (0,0)) (tK BK203.out) hg (Kd.R_ne HO_11.out BK203.out (by decide)));replace HB:=jM (hb);have HO213:=jM (ho);clear HO_11 ho hb hg hat))
               go_roundg kj25
               case measure=>have:=HJ6.out;have:=HK2.out;have:=HJ25.out;omega
               case rel=>exact ⟨(y211),(wrap64 (x35_2+1)),tZ,H',⟨by have:=HJ6.out;have:=HK2.out;have:=HJ25.out;omega⟩,⟨tR HO213.out⟩,⟨tK BK194.out⟩,⟨tK BK195.out⟩,⟨tK BK201.out⟩,⟨tE HB.out⟩⟩
              ·rw [if_neg c52] at H
               exact absurd H (by simp)
         ·rw [if_neg c25] at H
          exact absurd H (by simp)
        ·rw [if_neg c24] at H
         exact absurd H (by simp)
       ·rw [if_neg c23] at H
        have c23b0:decide (x35_2 < (((rd_T96 l2 a3).f0).length:Int))=false:=decide_eq_false c23
        clear c23
        obtain rfl:=Option.some.inj H
        go_wp2
        go_ret
        exact ⟨_,by first | rfl | (simp [errW_none,errW_some] <;> rfl) | (simp [*,errW_none,errW_some] <;> rfl),tR HO_11.out,tE HB.out⟩
    ·rw [if_neg c18] at H
     exact absurd H (by simp)
   ·rw [if_neg c17] at H
    exact absurd H (by simp)
end
end Go.Proofs.YtclollnicbcooaaGreatDoor.P
namespace Go.Proofs.YtclollnicbcooaaGreatDoor.P
open Go.RowKit Go.Lib Go.Sort YtclollnicbcooaaGreatDoorW.PrintWords St Base
abbrev Spt:=Int × Itm
def rngN (n:Int):Prop:=-9223372036854775808≤n∧n≤9223372036854775807
def rngS (s:Spt):Prop:=rngN s.1∧rngI s.2
def valS (s:Spt):Value:=.agg #[.int .i64 s.1,.int .i64 s.2.1,.int .i64 s.2.2]
def encS (s:Spt):List Value:=[.int .i64 s.1,.int .i64 s.2.1,.int .i64 s.2.2]
theorem keyed125:Maps.Keyed Tryz.prog 125 :=
 Maps.Keyed.of_law (deep_law_laid (by kernel_rfl) (m:=3) (by omega) (of_decide_eq_true (by kernel_rfl)) (by kernel_rfl) (by rw [Tryz.underlying125]))
theorem cells_valS (s:Spt):(valS s).cells=#[.int .i64 s.1,.int .i64 s.2.1,.int .i64 s.2.2]:=rfl
theorem key_ofS (s:Spt) (h:rngS s):∃ k,keyOf Tryz.prog 125 (valS s)=some k:=by
 have hk:Tryz.prog.keyType 125=true:=by kernel_rfl
 have hc:Tryz.prog.cellsOf 125=3:=by kernel_rfl
 have hc37:Tryz.prog.cellsOf 77=2:=by kernel_rfl
 have hc3:Tryz.prog.cellsOf 3=1:=by kernel_rfl
 have hf:(valS s).formed Tryz.prog 125=true:=by
  unfold valS Value.formed
  rw [Tryz.underlying125]
  simp [hc]
 have h3:∀ (d:Nat) (n:Int),(-9223372036854775808≤n∧n≤9223372036854775807)→Tryz.prog.keyLits (d+1) 3 [.int .i64 n]=some [.int .i64 n]:=fun d n hn=>by
  unfold Program.keyLits
  rw [Tryz.underlying3]
  simp [wf_i64 hn]
 have h37:∀ (d:Nat),Tryz.prog.keyLits (d+2) 77 [.int .i64 s.2.1,.int .i64 s.2.2]=some [.int .i64 s.2.1,.int .i64 s.2.2]:=fun d=>by
  unfold Program.keyLits
  rw [Tryz.underlying77]
  simp [hc37,hc3,h3 d s.2.1 h.2.1,h3 d s.2.2 h.2.2]
 have hl:Tryz.prog.keyLits (Tryz.prog.types.size+1) 125 [.int .i64 s.1,.int .i64 s.2.1,.int .i64 s.2.2]=some [.int .i64 s.1,.int .i64 s.2.1,.int .i64 s.2.2]:=by
  have hpos:1 < Tryz.prog.types.size:=of_decide_eq_true (by kernel_rfl)
  obtain ⟨d,hd⟩:∃ d,Tryz.prog.types.size=d+2:=⟨Tryz.prog.types.size - 2,by omega⟩
  rw [hd]
  unfold Program.keyLits
  rw [Tryz.underlying125]
  simp [hc,hc37,hc3,h3 (d+1) s.1 h.1,h37 d]
 unfold keyOf
 rw [Tryz.underlying125]
 simp only [hk,hf,Bool.and_self,if_true]
 have hcs:(valS s).cells.toList=[.int .i64 s.1,.int .i64 s.2.1,.int .i64 s.2.2]:=rfl
 rw [hcs,hl]
 exact ⟨_,rfl⟩
theorem valS_inj {x y:Spt} (h:valS x=valS y):x=y:=by
 have h':(valS x).cells.toList=(valS y).cells.toList:=by rw [h]
 rw [cells_valS,cells_valS] at h'
 injection h' with h1 h2
 injection h2 with h2 h3
 injection h3 with h3 _
 injection h1 with _ h1
 injection h2 with _ h2
 injection h3 with _ h3
 exact Prod.ext h1 (Prod.ext h2 h3)

def upd (F:Spt→Int) (s:Spt) (u:Int):Spt→Int:=fun t=>if t=s then u else F t
theorem upd_same (F:Spt→Int) (s:Spt) (u:Int):upd F s u s=u:=if_pos rfl
theorem upd_other (F:Spt→Int) {s t:Spt} (u:Int) (h:t≠s):upd F s u t=F t:=if_neg h

structure Ah (W:World) (r:Nat) (F:Spt→Int):Prop where
 ex:∃ l,Mp Tryz.prog 125 W r l∧(l.map Prod.fst).Nodup∧(∀ p ∈ l,∃ s,rngS s∧p=(valS s,.int .u64 (F s)))∧(∀ s,F s≠0→(valS s,Value.int .u64 (F s)) ∈ l)
theorem Ah.same {W W':World} {r:Nat} {F:Spt→Int} (h:Ah W r F) (he:W'.heap[r]? = W.heap[r]?):Ah W' r F:=by
 obtain ⟨l,hm,hn,h1,h2⟩:=h.ex
 exact ⟨⟨l,hm.same he,hn,h1,h2⟩⟩
theorem Ah.lt {W:World} {r:Nat} {F:Spt→Int} (h:Ah W r F):r < W.heap.size:=by
 obtain ⟨l,hm,_⟩:=h.ex
 exact hm.lt
theorem Ah.new (W:World):Ah (W.alloc (.map #[] 0)) W.heap.size (fun _=>0) :=
 ⟨⟨[],Mp.new Tryz.prog 125 W,List.nodup_nil,(fun p hp=>by cases hp),fun s h=>absurd rfl h⟩⟩
theorem Ah.look {W:World} {r:Nat} {F:Spt→Int} (h:Ah W r F) {s:Spt} (hs:rngS s) (W':World) (he:W'.heap[r]? = W.heap[r]?):(Instr.lookup 119 (.map (some r)) (valS s) false).run Tryz.prog W'=.ok (.int .u64 (F s)) W':=by
 obtain ⟨l,hm,hnd,h1,h2⟩:=h.ex
 obtain ⟨k,hk⟩:=key_ofS s hs
 have hm':=hm.same he
 by_cases hin:∃ p ∈ l,p.1=valS s
 ·obtain ⟨p,hp,e⟩:=hin
  have hu:∀ p ∈ l,p.1=valS s→p.2=.int .u64 (F s):=fun p hp e=>by
   obtain ⟨t,_,rfl⟩:=h1 p hp
   rw [valS_inj e]
  have hi:(valS s,Value.int .u64 (F s)) ∈ l:=by
   have:=hu p hp e
   rw [← e,← this];exact hp
  exact hm'.find (et:=48) Tryz.underlying119 keyed125 hk hi hu false
 ·have hz:F s=0:=Classical.byContradiction fun hne=>hin ⟨_,h2 s hne,rfl⟩
  rw [hz]
  exact hm'.miss (et:=48) Tryz.underlying119 keyed125 hk (Tryz.zeroValue48 W') (fun p hp e=>hin ⟨p,hp,e⟩) false
structure One (W W':World) (r:Nat):Prop where
 size:W'.heap.size=W.heap.size
 other:∀ k,k≠r→W'.heap[k]? = W.heap[k]?
 os:W'.os=W.os
 tape:W'.tape=W.tape
 output:W'.output=W.output
theorem put_one (W:World) (r:Nat) (k v:Value):One W (Mp.put W r k v) r:=by
 obtain ⟨h1,h2⟩:=Mp.put_heap W r k v
 refine ⟨h1,h2, ?_, ?_, ?_⟩ <;> unfold Mp.put <;> split <;> rfl
theorem Ah.store {W:World} {r:Nat} {F:Spt→Int} (h:Ah W r F) {s:Spt} (hs:rngS s) (u:Int) :
  ∃ W',(Instr.mapUpdate 119 (.map (some r)) (valS s) (.int .u64 u)).run Tryz.prog W=.ok () W'∧Ah W' r (upd F s u)∧One W W' r:=by
 obtain ⟨l,hm,hnd,h1,h2⟩:=h.ex
 obtain ⟨k,hk⟩:=key_ofS s hs
 by_cases hin:∃ p ∈ l,p.1=valS s
 ·obtain ⟨es,c,hb,rfl⟩:=hm.holds
  have hks:∀ e ∈ es.toList,∃ l,keyOf Tryz.prog 125 e.key=some l:=fun e he=>hm.keys (e.key,e.val) (List.mem_map.2 ⟨e,he,rfl⟩)
  rcases keyed125.find W hk es.toList hks with ⟨-,hno⟩ | ⟨j,e,hf,hj,hkey⟩
  ·obtain ⟨p,hp,e⟩:=hin
   obtain ⟨e0,he0,rfl⟩:=List.mem_map.1 hp
   exact absurd e (hno e0 he0)
  ·obtain ⟨W',hW'⟩:∃ W':World,W'={ W with heap:=W.heap.setIfInBounds r (.map (es.modify j fun e=>{ e with key:=valS s,val:=.int .u64 u }) c) }:=⟨_,rfl⟩
   have hset:=MapKept.heap_set (w:=W) (o':=.map (es.modify j fun e=>{ e with key:=valS s,val:=.int .u64 u }) c) hb
   have hst:=keyed125.stays W hk
   have hj':es[j]? = some e:=by rw [← hj];simp
   obtain ⟨L,hL⟩:∃ L,L=es.toList.map (fun e=>(e.key,e.val)):=⟨_,rfl⟩
   have hmod:(es.modify j fun e=>{ e with key:=valS s,val:=.int .u64 u }).toList.map (fun e=>(e.key,e.val))=L.set j (valS s,.int .u64 u):=by
    rw [hL]
    apply List.ext_getElem?
    intro i
    simp only [Array.toList_modify,List.getElem?_map,List.getElem?_modify,List.getElem?_set]
    by_cases hji:j=i
    ·subst hji
     rw [if_pos rfl,hj]
     have:=(List.getElem?_eq_some_iff.1 hj).1
     rw [Array.length_toList] at this
     simp [this]
    ·rw [if_neg hji]
     simp [hji]
   have hLj:L[j]? = some (valS s,e.val):=by rw [hL,List.getElem?_map,hj,← hkey];rfl
   rw [← hL] at hnd h1 h2
   have hmem:∀ p ∈ L.set j (valS s,.int .u64 u),p=(valS s,.int .u64 u) ∨ (p ∈ L∧p.1≠valS s):=fun p hp=>by
    obtain ⟨i,hi⟩:=List.mem_iff_getElem?.1 hp
    rw [List.getElem?_set] at hi
    by_cases hji:j=i
    ·subst hji
     rw [if_pos rfl] at hi
     split at hi
     ·injection hi with hi;exact .inl hi.symm
     ·cases hi
    ·rw [if_neg hji] at hi
     refine .inr ⟨List.mem_of_getElem? hi,fun e'=>hji ?_⟩
     have hij:(L.map Prod.fst)[i]? = (L.map Prod.fst)[j]?:=by rw [List.getElem?_map,List.getElem?_map,hi,hLj];simp [e']
     have hlt:i < (L.map Prod.fst).length:=by rw [List.length_map];exact (List.getElem?_eq_some_iff.1 hi).1
     exact ((List.getElem?_inj hlt hnd).1 hij).symm
   refine ⟨W', ?_,⟨⟨L.set j (valS s,.int .u64 u),⟨⟨_,c, ?_,hmod⟩, ?_⟩, ?_, ?_, ?_⟩⟩, ?_⟩
   ·rw [hW']
    simp [Instr.mapUpdate,run_underlying Tryz.underlying119,MapKept.run_getObj_map hb,keyed125.check W _ hk,hf,hj',hkey,hst,MapKept.run_setObj_map _ hb,Result.andThen]
   ·rw [hW'];exact hset.1
   ·intro p hp
    rcases hmem p hp with rfl | ⟨hp,_⟩
    ·exact ⟨k,hk⟩
    ·exact hm.keys p (by rw [← hL];exact hp)
   ·rw [List.map_set]
    have e5:(L.map Prod.fst).set j (valS s)=L.map Prod.fst:=by
     apply List.ext_getElem?
     intro i
     rw [List.getElem?_set]
     by_cases hji:j=i
     ·subst hji
      have:=(List.getElem?_eq_some_iff.1 hLj).1
      rw [if_pos rfl,if_pos (by rw [List.length_map];exact this),List.getElem?_map,hLj]
      rfl
     ·rw [if_neg hji]
    rw [e5]
    exact hnd
   ·intro p hp
    rcases hmem p hp with rfl | ⟨hp,hne⟩
    ·exact ⟨s,hs,by rw [upd_same]⟩
    ·obtain ⟨t,ht,rfl⟩:=h1 p hp
     exact ⟨t,ht,by rw [upd_other F u (fun e=>hne (by rw [e]))]⟩
   ·intro t ht
    by_cases hts:t=s
    ·subst hts
     rw [upd_same]
     exact List.mem_iff_getElem?.2 ⟨j,by rw [List.getElem?_set,if_pos rfl,if_pos (List.getElem?_eq_some_iff.1 hLj).1]⟩
    ·rw [upd_other F u hts] at ht ⊢
     obtain ⟨i,hi⟩:=List.mem_iff_getElem?.1 (h2 t ht)
     refine List.mem_iff_getElem?.2 ⟨i, ?_⟩
     rw [List.getElem?_set,if_neg,hi]
     intro e'
     subst e'
     rw [hLj] at hi
     injection hi with hi
     injection hi with hi _
     exact hts (valS_inj hi).symm
   ·rw [hW']
    exact ⟨by simp,hset.2,rfl,rfl,rfl⟩
 ·have hno:∀ p ∈ l,p.1≠valS s:=fun p hp e=>hin ⟨p,hp,e⟩
  refine ⟨Mp.put W r (valS s) (.int .u64 u),hm.store (et:=48) Tryz.underlying119 keyed125 hk hno _,⟨⟨_,hm.put_is hk (.int .u64 u), ?_, ?_, ?_⟩⟩,put_one W r _ _⟩
  ·rw [List.map_append,List.nodup_append]
   refine ⟨hnd,by simp,fun a ha b hb e=>?_⟩
   obtain ⟨p,hp,rfl⟩:=List.mem_map.1 ha
   simp at hb
   exact hno p hp (e.trans hb)
  ·intro p hp
   rcases List.mem_append.1 hp with hp | hp
   ·obtain ⟨t,ht,rfl⟩:=h1 p hp
    refine ⟨t,ht, ?_⟩
    rw [upd_other F u (fun e=>hno _ hp (by rw [e]))]
   ·rw [List.mem_singleton] at hp
    exact ⟨s,hs,by rw [hp,upd_same]⟩
  ·intro t ht
   by_cases hts:t=s
   ·subst hts
    rw [upd_same]
    exact List.mem_append_right _ (List.mem_singleton.2 rfl)
   ·rw [upd_other F u hts] at ht ⊢
    exact List.mem_append_left _ (h2 t ht)
end Go.Proofs.YtclollnicbcooaaGreatDoor.P
namespace Go.Proofs.YtclollnicbcooaaGreatDoor.P
open Go.RowKit Go.Lib Go.Sort YtclollnicbcooaaGreatDoorW.PrintWords YtclollnicbcooaaGreatDoorW.PrintLast YtclollnicbcooaaGreatDoorW.PrintMore St Base
section
attribute [local go_sem] Oper.semAt_some

structure Lk (w:World) (B:Nat) (g0 g1 g2 g3 g4 Kv Nv:Value) (F:Spt→Int) (q:List Spt) (vq:Value) (ok:Nat→Prop) (W:World):Prop where
 hb:RowKit.Below w.heap.size w W
 hB:w.heap.size≤B
 bg:W.heap[B]? = some (.cells #[g0,g1,g2,g3,g4] 27 (0,0))
 ba:W.heap[B+1]? = some (.cells #[Kv,Nv] 44 (0,0))
 mp:Ah W (B+2) F
 bx:W.heap[B+3]? = some (.cells #[g0,g1,g2,g3,g4,Kv,Nv,.map (some (B+2)),vq] 122 (0,0))
 hq:(Kd.raw 3).Q 125 W (B+4) ok vq (q.map encS)
 ge:∀ k,ok k→B+4≤k
section
variable {w:World} {B:Nat} {g0 g1 g2 g3 g4 Kv Nv:Value} {F F':Spt→Int} {q:List Spt} {vq v1:Value} {ok:Nat→Prop} {W W1:World} {s:Spt}
theorem Lk.size (h:Lk w B g0 g1 g2 g3 g4 Kv Nv F q vq ok W):B+4≤W.heap.size:=by have:=blk_lt h.bx;omega
theorem Lk.below (h:Lk w B g0 g1 g2 g3 g4 Kv Nv F q vq ok W) (hb:RowKit.Below W.heap.size W W1):Lk w B g0 g1 g2 g3 g4 Kv Nv F q vq ok W1 where
 hb:=below_step h.hb hb
 hB:=h.hB
 bg:=blk_below h.bg hb
 ba:=blk_below h.ba hb
 mp:=h.mp.same (hb.block _ h.mp.lt)
 bx:=blk_below h.bx hb
 hq:=Kd.Q_below h.hq hb
 ge:=h.ge
theorem Lk.one (h:Lk w B g0 g1 g2 g3 g4 Kv Nv F q vq ok W) (ho:One W W1 (B+2)) (hF:Ah W1 (B+2) F'):Lk w B g0 g1 g2 g3 g4 Kv Nv F' q vq ok W1 where
 hb:=⟨ho.os.trans h.hb.os,ho.tape.trans h.hb.tape,ho.output.trans h.hb.output,by rw [ho.size];exact h.hb.size,fun i hi=>(ho.other i (by have:=h.hB;omega)).trans (h.hb.block i hi)⟩
 hB:=h.hB
 bg:=(ho.other _ (by omega)).trans h.bg
 ba:=(ho.other _ (by omega)).trans h.ba
 mp:=hF
 bx:=(ho.other _ (by omega)).trans h.bx
 hq:=Kd.Q_step h.hq (fun k hk _=>ho.other k (by have:=h.ge k hk;omega))
 ge:=h.ge
theorem Lk.push (h:Lk w B g0 g1 g2 g3 g4 Kv Nv F q vq ok W) {q':List Spt} (hq:(Kd.raw 3).Q 125 W1 (B+4) ok v1 (q'.map encS)) (hg:W.grownBy W1 vq.ownBlock):Lk w B g0 g1 g2 g3 g4 Kv Nv F q' v1 ok (W1.setCell ⟨B+3,8,none⟩ v1):=by
 have hbs:=fun k hk=>h.ge k (h.hq.1 k hk)
 have hk:∀ k,k < B+4→W1.heap[k]? = W.heap[k]?:=fun k hk=>hg.block k (by have:=h.size;omega) (fun e=>by have:=hbs k e.symm;omega)
 have hf:∀ k,k≠B+3→(W1.setCell ⟨B+3,8,none⟩ v1).heap[k]? = W1.heap[k]?:=fun k hk=>Below.heap_setCell W1 ⟨B+3,8,none⟩ v1 k hk
 have hB:=h.hB
 refine ⟨below_set (below_grown h.hb hg (fun k hk=>by have:=hbs k hk;omega)) (by show w.heap.size≤B+3;omega),hB, ?_, ?_, ?_, ?_, ?_,h.ge⟩
 ·exact ((hf _ (by omega)).trans (hk _ (by omega))).trans h.bg
 ·exact ((hf _ (by omega)).trans (hk _ (by omega))).trans h.ba
 ·exact h.mp.same ((hf _ (by omega)).trans (hk _ (by omega)))
 ·exact blk_put ((hk _ (by omega)).trans h.bx) 8 _ rfl
 ·exact Kd.Q_far hq (fun k hk=>by have:=h.ge k hk;show k≠B+3;omega) _
end
def moreL (F:Spt→Int) (q:List Spt) (s:Spt) (t:Int):(Spt→Int) × List Spt :=
 if Go.bits .or .u64 (F s) t=F s then (F,q) else (upd F s (Go.bits .or .u64 (F s) t),q ++ [s])
theorem raw_enc (s:Spt) {W:World} {b:Nat} {ok:Nat→Prop}:(Kd.raw 3).M W b ok (encS s) (encS s):=⟨rfl,rfl,fun u hu=>by
 simp [encS] at hu
 rcases hu with rfl | rfl | rfl <;> rfl⟩
theorem info125:(Tryz.prog.info? 125).map (fun i=>(i.zero,i.size,i.bytes))=some (some (.agg #[.int .i64 0,.int .i64 0,.int .i64 0]),3,24):=by kernel_rfl

theorem append_spot {w:World} {B:Nat} {g0 g1 g2 g3 g4 Kv Nv:Value} {F:Spt→Int} {q:List Spt} {vq:Value} {ok:Nat→Prop} {W:World} (h:Lk w B g0 g1 g2 g3 g4 Kv Nv F q vq ok W) (s:Spt) (hf:∀ k,W.heap.size≤k→ok k) (hl:q.length≤1000000000)
  (ops:Array Oper) (o:Oper) (ac:Act) (Q:Exit→Act→World→Prop) (Kc:Act→World→Prop) (hw:Region.wanted o (yielded ops ac.tmps)=true)
  (ho:o.op=.call { callee:=.builtin .append,args:=#[.tmp 33,.tmp 35],argTypes:=#[120,120] }) (hs:ac.eval (.tmp 33)=vq) (hx:ac.eval (.tmp 35)=.slice (some ⟨W.heap.size,0,none⟩) 1 1)
  (hk:∀ v1 w1,(Kd.raw 3).Q 125 w1 (B+4) ok v1 ((q ++ [s]).map encS)→W.grownBy w1 vq.ownBlock→(v1.ownBlock=vq.ownBlock ∨ ∃ b,v1.ownBlock=some b∧W.heap.size≤b)→Kc (ac.put o.dst v1) w1) :
  if Region.wanted o (yielded ops ac.tmps)=true then Oper.wp Tryz.prog o ac (W.alloc (.cells #[.int .i64 s.1,.int .i64 s.2.1,.int .i64 s.2.2] 125)) Kc Q else Kc (ac.put o.dst undef) (W.alloc (.cells #[.int .i64 s.1,.int .i64 s.2.1,.int .i64 s.2.2] 125)):=by
 have hsz:=h.size
 refine Kd.Q_append_step (Kd.raw 3) (w0:=W) (B+4) hw (.tmp 33) (.tmp 35) 120 125 _ 24 ho Tryz.underlying120 info125 rfl (by decide) (by decide) vq (q.map encS) (encS s) (encS s) ok (fun _=>False) hs hx (raw_enc s) (fun _ h=>h.elim) hf h.hq (RowKit.Below.refl _ _) hsz (by rw [List.length_map];omega) ?_
 intro v1 w1 hR hB hg hat
 exact hk v1 w1 (by rw [List.map_append];exact hR) hg hat

set_option maxHeartbeats 4000000 in
set_option maxRecDepth 100000 in
theorem more_calls {w:World} {B:Nat} {g0 g1 g2 g3 g4 Kv Nv:Value} {F:Spt→Int} {q:List Spt} {vq:Value} {ok:Nat→Prop} {W:World} (h:Lk w B g0 g1 g2 g3 g4 Kv Nv F q vq ok W) {s:Spt} (hs:rngS s) (t:Int) (hf:∀ k,W.heap.size≤k→ok k) (hl:q.length≤1000000000) :
  Calls Tryz.prog 66 #[.pointer (some ⟨B+3,0,none⟩),valS s,.int .u64 t] W fun e w'=>e=.returned (.tuple #[])∧∃ vq',Lk w B g0 g1 g2 g3 g4 Kv Nv (moreL F q s t).1 (moreL F q s t).2 vq' ok w'∧W.heap.size≤w'.heap.size∧(∀ k,k < W.heap.size→k≠B+2→k≠B+3→some k≠vq.ownBlock→w'.heap[k]? = W.heap[k]?)∧(vq'.ownBlock=vq.ownBlock ∨ ∃ b,vq'.ownBlock=some b∧W.heap.size≤b):=by
 have H:=jM h
 have HS:=jM hs
 have HF:=jM hf
 have HL:=jM hl
 clear h hs hf hl
 have hu125:=Tryz.underlying125
 have hu122:=Tryz.underlying122
 have hu77:=Tryz.underlying77
 unfold valS
 go_enter Tryz.func66,Tryz.ntmps66
 go_upto_region 1 with fail
 have BS:=jM (blk_new W (Obj.cells #[.int .i64 s.1,.int .i64 s.2.1,.int .i64 s.2.2] 125))
 have HB1:=jM (below_alloc (RowKit.Below.refl W.heap.size W) (Obj.cells #[.int .i64 s.1,.int .i64 s.2.1,.int .i64 s.2.2] 125))
 have H1:=jM (H.out.below (below_alloc (RowKit.Below.refl W.heap.size W) (Obj.cells #[.int .i64 s.1,.int .i64 s.2.1,.int .i64 s.2.2] 125)))
 generalize W.alloc (Obj.cells #[.int .i64 s.1,.int .i64 s.2.1,.int .i64 s.2.2] 125)=W1 at *
 obtain ⟨xb,hxb⟩:∃ x,x=W.heap.size:=⟨_,rfl⟩
 rw [← hxb] at BS ⊢
 have HXB:=jM hxb
 clear hxb
 have y0:W1.cell? ⟨xb,0,none⟩=some (.int .i64 s.1):=blk_cell BS.out 0
 have y1:W1.cell? ⟨xb,1,none⟩=some (.int .i64 s.2.1):=blk_cell BS.out 1
 have y2:W1.cell? ⟨xb,2,none⟩=some (.int .i64 s.2.2):=blk_cell BS.out 2
 have ym:W1.cell? ⟨B+3,7,none⟩=some (.map (some (B+2))):=blk_cell H1.out.bx 7
 have hlk0:=H1.out.mp.look HS.out W1 rfl
 have hlk1:=H1.out.mp.look HS.out W1.drew rfl
 unfold valS at hlk0 hlk1
 have hun:=jM fun (W':World)=>bits_Union.calls (F s) t (Go.bits .or .u64 (F s) t) W' rfl
 go_region_with (go_at_call 78;(with_reducible refine (hun.out _).mono ?_);rintro e w2 ⟨rfl,⟨n,rfl⟩⟩)
 all_goals
  have H2:=jM (H1.out.below (pw_below_drewN (RowKit.Below.refl W1.heap.size W1) (1+n)))
  have HB2:=jM (below_step HB1.out (pw_below_drewN (RowKit.Below.refl W1.heap.size W1) (1+n)))
  have BS2:=jM (blk_drewN BS.out (1+n))
  clear y0 y1 y2 ym hlk0 hlk1 hun H1 BS HB1
  generalize W1.drewN (1+n)=W2 at *
  have y0:W2.cell? ⟨xb,0,none⟩=some (.int .i64 s.1):=blk_cell BS2.out 0
  have y1:W2.cell? ⟨xb,1,none⟩=some (.int .i64 s.2.1):=blk_cell BS2.out 1
  have y2:W2.cell? ⟨xb,2,none⟩=some (.int .i64 s.2.2):=blk_cell BS2.out 2
  have ym:W2.cell? ⟨B+3,7,none⟩=some (.map (some (B+2))):=blk_cell H2.out.bx 7
  have hlk0:=H2.out.mp.look HS.out W2 rfl
  have hlk1:=H2.out.mp.look HS.out W2.drew rfl
  unfold valS at hlk0 hlk1
  obtain ⟨u,hu⟩:∃ u,u=Go.bits .or .u64 (F s) t:=⟨_,rfl⟩
  have HU:=jM hu
  rw [← hu]
  clear hu
  by_cases hne:u=F s
  ·have hd:(u == F s)=true:=by simpa using hne
   have hd2:(u != F s)=false:=by simpa using hne
   have HE:=jM hne
   clear hne
   go_wp2_with fail
   go_region_with fail
   all_goals go_wp2_with fail
   all_goals go_end0
   all_goals
    have hm:moreL F q s t=(F,q):=by unfold moreL;rw [← HU.out,if_pos HE.out]
    rw [hm]
    exact ⟨rfl,vq,H2.out.below (below_drew1 (RowKit.Below.refl _ _)),HB2.out.size,fun k hk _ _ _=>HB2.out.block k hk,.inl rfl⟩
  ·have hd:(u == F s)=false:=by simpa using hne
   have hd2:(u != F s)=true:=by simpa using hne
   have HE:=jM hne
   clear hne
   go_wp2_with fail
   go_region_with fail
   all_goals go_wp2_with fail
   all_goals
    have H3:=jM (H2.out.below (below_drew1 (RowKit.Below.refl W2.heap.size W2)))
    have HB3:=jM (below_step HB2.out (below_drew1 (RowKit.Below.refl W2.heap.size W2)))
    have BS3:=jM (blk_drew BS2.out)
    clear y0 y1 y2 ym hlk0 hlk1 hd hd2
    generalize W2.drew=W3 at *
    have y0:W3.cell? ⟨xb,0,none⟩=some (.int .i64 s.1):=blk_cell BS3.out 0
    have y1:W3.cell? ⟨xb,1,none⟩=some (.int .i64 s.2.1):=blk_cell BS3.out 1
    have y2:W3.cell? ⟨xb,2,none⟩=some (.int .i64 s.2.2):=blk_cell BS3.out 2
    have ym:W3.cell? ⟨B+3,7,none⟩=some (.map (some (B+2))):=blk_cell H3.out.bx 7
    obtain ⟨W4,hmu,hah,hone⟩:=(H3.out.mp.same (W':=W3.drew) rfl).store HS.out u
    unfold valS at hmu
    have H4:=jM ((H3.out.below (below_drew1 (RowKit.Below.refl W3.heap.size W3))).one hone hah)
    have BS4:=jM ((hone.other xb (by have:=H.out.size;have:=HXB.out;omega)).trans (blk_drew BS3.out))
    have HB4:=jM (show W.heap.size≤W4.heap.size∧∀ k,k < W.heap.size→k≠B+2→W4.heap[k]? = W.heap[k]? from ⟨by rw [hone.size];exact HB3.out.size,fun k hk h1=>(hone.other k h1).trans (HB3.out.block k hk)⟩)
    clear hah hone
    go_region_with fail
    all_goals go_wp2_with fail
    all_goals
     have H5:=jM (H4.out.below (below_drew1 (RowKit.Below.refl W4.heap.size W4)))
     have HK:=jM (append_spot H5.out s (fun k hk=>HF.out k (Nat.le_trans HB4.out.1 hk)) HL.out)
     clear y0 y1 y2 ym hmu
     have y0:W4.cell? ⟨xb,0,none⟩=some (.int .i64 s.1):=blk_cell BS4.out 0
     have y1:W4.cell? ⟨xb,1,none⟩=some (.int .i64 s.2.1):=blk_cell BS4.out 1
     have y2:W4.cell? ⟨xb,2,none⟩=some (.int .i64 s.2.2):=blk_cell BS4.out 2
     have y8:W4.cell? ⟨B+3,8,none⟩=some vq:=blk_cell H4.out.bx 8
     have hlt:B+3 < W4.heap.size:=blk_lt H4.out.bx
     have hlt2:xb < W4.heap.size:=blk_lt BS4.out
     go_region_law (refine HK.out _ _ _ _ _ (by rfl) rfl (by simp [Act.eval,Act.put]) (by simp [Act.eval,Act.put]) ?_;intro v1 w1 hQ hg hat;obtain ⟨A8,c8,e8,hc8⟩:=Kd.Q_slice hQ;subst e8;have hbx:=(hg.block (B+3) (blk_lt H5.out.bx) (fun e=>by have:=H5.out.ge _ (H5.out.hq.1 _ e.symm);omega)).trans H5.out.bx;have d8:=blk_cell hbx 8;have f8:=blk_frozen hbx 8;have HQ:=jM hQ;have HG:=jM hg;have HAT:=jM hat;clear hQ hg hat hbx hc8)
     all_goals go_wp2_with fail
     all_goals go_end0
     all_goals
      have hm:moreL F q s t=(upd F s u,q ++ [s]):=by unfold moreL;rw [← HU.out,if_neg HE.out]
      rw [hm]
      have hsz:=H.out.size
      have e9:(List.map encS (q ++ [s])).length=q.length+1:=by simp
      rw [e9] at HQ HAT
      refine ⟨rfl,_,H5.out.push HQ.out HG.out, ?_, ?_, ?_⟩
      ·rw [World.size_setCell]
       exact Nat.le_trans HB4.out.1 HG.out.size
      ·intro k hk h1 h2 h3
       rw [Below.heap_setCell _ _ _ k (by show k≠B+3;exact h2)]
       exact (HG.out.block k (Nat.lt_of_lt_of_le hk HB4.out.1) h3).trans (HB4.out.2 k hk h1)
      ·rcases HAT.out with h1 | ⟨b,h1,h2⟩
       ·exact .inl h1
       ·exact .inr ⟨b,h1,Nat.le_trans HB4.out.1 h2⟩
end
section
attribute [local go_sem] Oper.semAt_some

def rightF (st:Int) (l3:List S68) (p:Int):Option (List Int):=if p < 0 then some [wrap64 ((-1) - st)] else if p < (l3.length:Int) then some (rd_T68 l3 p).f2 else none
theorem jL_ (w:World) (a:Addr) {u:Value} (h:w.cell? a=some u):a.block < w.heap.size:=World.block_lt_of_cell? w a h
set_option maxHeartbeats 4000000 in
set_option maxRecDepth 100000 in
theorem right_calls {w:World} {B:Nat} {A0 A1 A2 A3:Option Addr} {c0 c1 c2 c3:Nat} {l0:List S65} {l1:List S73} {l2:List ByteArray} {l3:List S68} {st:Int} {Kv Nv:Value} {F:Spt→Int} {q:List Spt} {vq:Value} {ok:Nat→Prop} {W:World}
  (hr3:Kd.C k68 w A3 l3.length l3) (h:Lk w B (.slice A0 l0.length c0) (.slice A1 l1.length c1) (.slice A2 l2.length c2) (.slice A3 l3.length c3) (.int .i64 st) Kv Nv F q vq ok W) (p:Int) (r:List Int) (hp:rightF st l3 p=some r) :
  Calls Tryz.prog 80 #[.pointer (some ⟨B+3,0,none⟩),.int .i64 p] W fun e w'=>∃ A c,e=.returned (.slice A r.length c)∧r.length≤c∧Kd.C (Kd.int .i64) w' A r.length r∧(p < 0 ∨ Kd.C (Kd.int .i64) w A r.length r)∧RowKit.Below W.heap.size W w':=by
 have hu122:=Tryz.underlying122
 have hu27:=Tryz.underlying27
 have hu68:=Tryz.underlying68
 have hu66:=Tryz.underlying66
 have y3:=blk_cell h.bx 3
 have y4:=blk_cell h.bx 4
 replace y3:W.cell? ⟨B+3,3,none⟩=some (.slice A3 l3.length c3):=y3
 replace y4:W.cell? ⟨B+3,4,none⟩=some (.int .i64 st):=y4
 have H:=jM h
 have HR3:=jM (Kd.C_below hr3 h.hb)
 have HR:=jM hr3
 clear h hr3
 unfold rightF at hp
 by_cases hn:p < 0
 ·have hd:decide (p < 0)=true:=decide_eq_true hn
  rw [if_pos hn] at hp
  obtain rfl:=Option.some.inj hp
  have HN:=jM hn
  clear hn hp
  go_enter Tryz.func80,Tryz.ntmps80
  go_wp2
  go_ret
  exact ⟨_,_,rfl,Nat.le_refl _,C_one (blk_new W _) rfl,.inl HN.out,below_alloc (RowKit.Below.refl _ _) _⟩
 ·have hd:decide (p < 0)=false:=decide_eq_false hn
  rw [if_neg hn] at hp
  split at hp
  ·rename_i hlt
   obtain rfl:=Option.some.inj hp
   obtain ⟨ad,A,c,e,hx0,hx1,hx2,hx3,hle,hC⟩:=at_T68 HR3.out p (by omega) hlt
   obtain ⟨ad',A',c',e',hx0',hx1',hx2',hx3',hle',hC'⟩:=at_T68 HR.out p (by omega) hlt
   have hd2:decide (p < (l3.length:Int))=true:=decide_eq_true hlt
   have hd3:decide (0≤p)=true:=decide_eq_true (by omega)
   subst e
   obtain rfl:=Option.some.inj e'
   have hcell:∀ a v,w.cell? a=some v→W.cell? a=some v:=fun a v hv=>by rw [H.out.hb.cell (jL_ w a hv)];exact hv
   have e2:=(hcell _ _ hx2').symm.trans hx2
   have HX:=jM (Option.some.inj e2)
   have HC:=jM hC
   have HC':=jM hC'
   have HL:=jM hle
   clear hcell e2 hx0' hx1' hx2' hx3' hC hC' hle hle' hp e'
   have h0:0≤p:=by omega
   go_enter Tryz.func80,Tryz.ntmps80
   go_wp2
   go_ret
   refine ⟨_,_,rfl,HL.out,HC.out,.inr ?_,RowKit.Below.refl _ _⟩
   have:=HX.out
   injection this with h1 h2 h3
   subst h1
   exact HC'.out
  ·cases hp
end
section
abbrev Edg:=Spt × List Int
def restF (st:Int) (l3:List S68) (x:Itm):Option (List Int):=if 0≤x.2 then (rightF st l3 x.1).bind fun r=>if x.2+1≤(r.length:Int) then some (r.drop (x.2.toNat+1)) else none else none
def sortsE (l3:List S68) (i sym:Int) (r:List Int) (j:Nat):List Edg:=((List.range j).filter fun (p:Nat)=>(rd_T68 l3 p).f1 == IntKind.i64.wrap (-1 - sym)).map fun (p:Nat)=>((i,((p:Int),0)),r)
def edgesF (l0:List S65) (l1:List S73) (l2:List ByteArray) (l3:List S68) (st:Int) (K:List (List S77)) (N:List (List Int)) (s:Spt):Option (List Edg) :=
 (states_Behind.f l0 l1 l2 l3 st s.2.1 s.2.2).bind fun b=>if b.2=true then (states_Go.f l0 l1 l2 l3 st K N s.1 b.1).bind fun n=>(if b.1 < 0 then (restF st l3 s.2).map fun r=>(((n,(s.2.1,IntKind.i64.wrap (s.2.2+1))),[]) :: sortsE l3 s.1 b.1 r l3.length) else some [((n,(s.2.1,IntKind.i64.wrap (s.2.2+1))),[])]) else some []

def ER (w:World) (e:Edg) (c:List Value):Prop:=∃ A k,c=[.int .i64 e.1.1,.int .i64 e.1.2.1,.int .i64 e.1.2.2,.slice A e.2.length k]∧e.2.length≤k∧(e.2=[] ∨ Kd.C (Kd.int .i64) w A e.2.length e.2)
structure Er (w:World) (b:Nat) (ok:Nat→Prop) (v:Value) (es:List Edg) (W:World):Prop where
 ex:∃ rows,rows.length=es.length∧(∀ (j:Nat) e c,es[j]? = some e→rows[j]? = some c→ER w e c)∧(Kd.raw 4).R 130 W b ok v rows
section
variable {w:World} {b:Nat} {ok:Nat→Prop} {v:Value} {es:List Edg} {W W1:World}
theorem Er.below (h:Er w b ok v es W) (hb:RowKit.Below W.heap.size W W1):Er w b ok v es W1:=by
 obtain ⟨rows,h1,h2,h3⟩:=h.ex
 exact ⟨⟨rows,h1,h2,Kd.R_below h3 hb⟩⟩
theorem Er.nil:Er w b ok (.slice none 0 0) [] W:=⟨⟨[],rfl,fun j e c h=>by simp at h,Kd.R_nil _ _ _ _ _⟩⟩
theorem Er.slice (h:Er w b ok v es W):∃ A c,v=.slice A es.length c∧es.length≤c:=by
 obtain ⟨rows,h1,h2,h3⟩:=h.ex
 obtain ⟨A,c,e,hc,_⟩:=Kd.R_reads h3
 rw [h1] at e hc
 exact ⟨A,c,e,hc⟩
theorem Er.base (h:Er w b ok v es W):∀ k,v.ownBlock=some k→b≤k:=by
 obtain ⟨rows,h1,h2,h3⟩:=h.ex
 exact Kd.R_base h3
theorem Er.lower {b':Nat} (h:Er w b ok v es W) (hb:b'≤b):Er w b' ok v es W:=by
 obtain ⟨rows,h1,h2,h3⟩:=h.ex
 exact ⟨⟨rows,h1,h2,Kd.R_lower h3 hb⟩⟩
theorem Er.mono {ok':Nat→Prop} (h:Er w b ok v es W) (hk:∀ k,ok k→ok' k):Er w b ok' v es W:=by
 obtain ⟨rows,h1,h2,h3⟩:=h.ex
 exact ⟨⟨rows,h1,h2,Kd.R_mono h3 hk⟩⟩
theorem Er.step (h:Er w b ok v es W) (hm:∀ k,some k=v.ownBlock→k < W.heap.size→W1.heap[k]? = W.heap[k]?):Er w b ok v es W1:=by
 obtain ⟨rows,h1,h2,h3⟩:=h.ex
 exact ⟨⟨rows,h1,h2,Kd.R_mono (Kd.R_step (Kd.R_tight2 rfl h3) (fun k hk hlt=>hm k hk.1 hlt)) (fun k hk=>hk.2)⟩⟩
theorem Er.one (e:Edg) (W:World) (A:Option Addr) (k:Nat) (hk:e.2.length≤k) (hr:e.2=[] ∨ Kd.C (Kd.int .i64) w A e.2.length e.2) (hb:b≤W.heap.size):Er w b (fun k=>b≤k) (.slice (some ⟨W.heap.size,0,none⟩) 1 1) [e] (W.alloc (Obj.cells #[.int .i64 e.1.1,.int .i64 e.1.2.1,.int .i64 e.1.2.2,.slice A e.2.length k] 130)):=by
 have hown:=World.ownsRow_lit (base:=b) (e:=130) (size:=4) W #[.int .i64 e.1.1,.int .i64 e.1.2.1,.int .i64 e.1.2.2,.slice A e.2.length k] 1 hb (by decide) rfl
 refine ⟨⟨[[.int .i64 e.1.1,.int .i64 e.1.2.1,.int .i64 e.1.2.2,.slice A e.2.length k]],rfl,fun j e' c h1 h2=>?_,fun k' hk'=>?_,_,hown, ?_⟩⟩
 ·cases j with
  | zero =>
   simp at h1 h2
   subst h1
   subst h2
   exact ⟨A,k,rfl,hk,hr⟩
  | succ j=>simp at h1
 ·have:W.heap.size=k':=by simpa [Value.ownBlock] using hk'
  omega
 ·refine ⟨rfl,fun j p hp=>?_⟩
  cases j with
  | zero =>
   simp at hp
   subst hp
   refine ⟨rfl,rfl,fun u hu=>?_⟩
   replace hu:u ∈ [Value.int .i64 e.1.1,.int .i64 e.1.2.1,.int .i64 e.1.2.2,.slice A e.2.length k]:=hu
   simp at hu
   rcases hu with rfl | rfl | rfl | rfl <;> rfl
  | succ j=>simp at hp
theorem Er.at_ (h:Er w b ok v es W) (j:Nat) {e:Edg} (hj:es[j]? = some e):∃ (ad:Addr) (cap:Nat) (A:Option Addr) (k:Nat),v=.slice (some ad) es.length cap∧W.cell? (ad.add (j * 4))=some (.int .i64 e.1.1)∧W.cell? (ad.add (j * 4+1))=some (.int .i64 e.1.2.1)∧W.cell? (ad.add (j * 4+2))=some (.int .i64 e.1.2.2)∧W.cell? (ad.add (j * 4+3))=some (.slice A e.2.length k)∧e.2.length≤k∧(e.2=[] ∨ Kd.C (Kd.int .i64) w A e.2.length e.2):=by
 obtain ⟨rows,h1,h2,h3⟩:=h.ex
 obtain ⟨A0,cap,ev,hc,hC⟩:=Kd.R_reads h3
 obtain ⟨hlt,_⟩:=List.getElem?_eq_some_iff.1 hj
 obtain ⟨ad,c,e1,hl,hK,hcell⟩:=Kd.C_get hC [] (j:Int) (by omega) (by omega)
 rw [Int.toNat_natCast] at hK hcell
 have hrow:rows[j]? = some c:=by
  have h5:j < rows.length:=by omega
  have hK1:=hK.1
  rw [List.getD_eq_getElem?_getD,List.getElem?_eq_getElem h5] at hK1
  rw [List.getElem?_eq_getElem h5,hK1];rfl
 obtain ⟨A,k,ec,hk,hr⟩:=h2 j e c hj hrow
 subst ec
 refine ⟨ad,cap,A,k,by rw [ev,e1,h1],hcell 0 _ rfl,hcell 1 _ rfl,hcell 2 _ rfl,hcell 3 _ rfl,hk,hr⟩
end
theorem info130:(Tryz.prog.info? 130).map (fun i=>(i.zero,i.size,i.bytes))=some (some (.agg #[.int .i64 0,.int .i64 0,.int .i64 0,.slice none 0 0]),4,48):=by kernel_rfl
theorem append_edge {w:World} {b:Nat} {v:Value} {es:List Edg} {W:World} (h:Er w b (fun k=>b≤k) v es W) (e:Edg) (A:Option Addr) (k:Nat) (hk:e.2.length≤k) (hr:e.2=[] ∨ Kd.C (Kd.int .i64) w A e.2.length e.2) (hb:b≤W.heap.size) (hl:es.length≤1000000)
  (ops:Array Oper) (o:Oper) (ac:Act) (Q:Exit→Act→World→Prop) (Kc:Act→World→Prop) (hw:Region.wanted o (yielded ops ac.tmps)=true)
  (ho:o.op=.call { callee:=.builtin .append,args:=#[.tmp 71,.tmp 88],argTypes:=#[127,127] }) (hs:ac.eval (.tmp 71)=v) (hx:ac.eval (.tmp 88)=.slice (some ⟨W.heap.size,0,none⟩) 1 1)
  (hkc:∀ v1 w1,Er w b (fun k=>b≤k) v1 (es ++ [e]) w1→W.grownBy w1 v.ownBlock→(v1.ownBlock=v.ownBlock ∨ ∃ b,v1.ownBlock=some b∧W.heap.size≤b)→Kc (ac.put o.dst v1) w1) :
  if Region.wanted o (yielded ops ac.tmps)=true then Oper.wp Tryz.prog o ac (W.alloc (.cells #[.int .i64 e.1.1,.int .i64 e.1.2.1,.int .i64 e.1.2.2,.slice A e.2.length k] 130)) Kc Q else Kc (ac.put o.dst undef) (W.alloc (.cells #[.int .i64 e.1.1,.int .i64 e.1.2.1,.int .i64 e.1.2.2,.slice A e.2.length k] 130)):=by
 obtain ⟨rows,h1,h2,h3⟩:=h.ex
 refine Kd.R_append_step (Kd.raw 4) (w0:=W) b hw (.tmp 71) (.tmp 88) 127 130 _ 48 ho Tryz.underlying127 info130 rfl (by decide) (by decide) v rows [.int .i64 e.1.1,.int .i64 e.1.2.1,.int .i64 e.1.2.2,.slice A e.2.length k] [.int .i64 e.1.1,.int .i64 e.1.2.1,.int .i64 e.1.2.2,.slice A e.2.length k] (fun k=>b≤k) (fun _=>False) hs hx ⟨rfl,rfl,fun u hu=>by simp at hu;rcases hu with rfl | rfl | rfl | rfl <;> rfl⟩ (fun _ h=>h.elim) (fun k hk=>by omega) h3 (RowKit.Below.refl _ _) hb (by omega) ?_
 intro v1 w1 hR hB hg hat
 refine hkc v1 w1 ⟨⟨_, ?_, ?_,hR⟩⟩ hg hat
 ·simp [h1]
 ·intro j e' c hj hc
  rcases Nat.lt_or_ge j es.length with hlt | hge
  ·rw [List.getElem?_append_left hlt] at hj
   rw [List.getElem?_append_left (by omega)] at hc
   exact h2 j e' c hj hc
  ·rw [List.getElem?_append_right hge] at hj
   rw [List.getElem?_append_right (by omega)] at hc
   have hz:j - es.length=0:=by
    have:=(List.getElem?_eq_some_iff.1 hj).1
    simp at this
    omega
   rw [h1] at hc
   rw [hz] at hj hc
   simp at hj hc
   subst hj
   subst hc
   exact ⟨A,k,rfl,hk,hr⟩
end
section
attribute [local go_sem] Oper.semAt_some
theorem right_max {w:World} {A3:Option Addr} {l3:List S68} {st:Int} (hr3:Kd.C k68 w A3 l3.length l3) {p:Int} {r:List Int} (h:rightF st l3 p=some r):r.length≤9223372036854775807:=by
 unfold rightF at h
 split at h
 ·obtain rfl:=Option.some.inj h
  simp
 ·split at h
  ·rename_i hn hlt
   obtain rfl:=Option.some.inj h
   obtain ⟨ad,A,c,e,hx0,hx1,hx2,hx3,hle,hC⟩:=at_T68 hr3 p (by omega) hlt
   exact hC.2.1
  ·cases h
theorem right_neg {l3:List S68} {st:Int} {p:Int} {r:List Int} (h:rightF st l3 p=some r) (hp:p < 0):r.length=1:=by
 unfold rightF at h
 rw [if_pos hp] at h
 obtain rfl:=Option.some.inj h
 rfl
theorem rest_ok {w:World} {A5:Option Addr} {c5 m:Nat} {r0:List Int} {p:Int} (hm:m≤r0.length) (hl:r0.length≤c5) (hO:p < 0 ∨ Kd.C (Kd.int .i64) w A5 r0.length r0) (hn:p < 0→r0.length≤m) :
  (r0.drop m).length≤c5 - m∧(r0.drop m=[] ∨ Kd.C (Kd.int .i64) w (if c5=m then A5 else A5.map (·.add (m * (Kd.int .i64).sz))) (r0.drop m).length (r0.drop m)):=by
 refine ⟨by rw [List.length_drop];omega, ?_⟩
 rcases hO with h | h
 ·exact .inl (List.drop_eq_nil_of_le (hn h))
 ·exact .inr (Kd.C_drop (m:=m) h hm hl)
section
variable {w:World} {B:Nat} {A0 A1 A2 A3 AK AN:Option Addr} {c0 c1 c2 c3 cK cN:Nat} {l0:List S65} {l1:List S73} {l2:List ByteArray} {l3:List S68} {st:Int} {K:List (List S77)} {N:List (List Int)} {F:Spt→Int} {q:List Spt} {vq:Value} {ok:Nat→Prop} {W:World}
set_option maxHeartbeats 4000000 in
set_option maxRecDepth 100000 in
theorem edges_calls (hr0:Kd.C k65 w A0 l0.length l0) (hc0:l0.length≤c0) (hr1:Kd.C k73 w A1 l1.length l1) (hc1:l1.length≤c1) (hr2:Kd.C Kd.string w A2 l2.length l2) (hc2:l2.length≤c2) (hr3:Kd.C k68 w A3 l3.length l3) (hc3:l3.length≤c3)
  (hrK:Kd.C (Kd.slice 77 k77) w AK K.length K) (hcK:K.length≤cK) (hrN:Kd.C (Kd.slice 3 (Kd.int .i64)) w AN N.length N) (hcN:N.length≤cN)
  (h:Lk w B (.slice A0 l0.length c0) (.slice A1 l1.length c1) (.slice A2 l2.length c2) (.slice A3 l3.length c3) (.int .i64 st) (.slice AK K.length cK) (.slice AN N.length cN) F q vq ok W) (s:Spt) (es:List Edg) (he:edgesF l0 l1 l2 l3 st K N s=some es) (hl3:l3.length≤100000) :
  Calls Tryz.prog 68 #[.pointer (some ⟨B+3,0,none⟩),valS s] W fun e w'=>∃ A c,e=.returned (.slice A es.length c)∧Er w W.heap.size (fun k=>W.heap.size≤k) (.slice A es.length c) es w'∧RowKit.Below W.heap.size W w':=by
 have H:=jM h
 have HR0:=jM hr0
 have HR1:=jM hr1
 have HR2:=jM hr2
 have HR3:=jM hr3
 have HRK:=jM hrK
 have HRN:=jM hrN
 have HC0:=jM hc0
 have HC1:=jM hc1
 have HC2:=jM hc2
 have HC3:=jM hc3
 have HCK:=jM hcK
 have HCN:=jM hcN
 have HL3:=jM hl3
 unfold edgesF at he
 obtain ⟨⟨sym,okb⟩,hbh,he⟩:=Option.bind_eq_some_iff.1 he
 simp only at he
 have HBH:=jM hbh
 have HE:=jM he
 clear h hr0 hr1 hr2 hr3 hrK hrN hc0 hc1 hc2 hc3 hcK hcN hl3 hbh he
 have hu125:=Tryz.underlying125
 have hu122:=Tryz.underlying122
 have hu77:=Tryz.underlying77
 have hu27:=Tryz.underlying27
 have hu44:=Tryz.underlying44
 have hu66:=Tryz.underlying66
 unfold valS
 go_enter Tryz.func68,Tryz.ntmps68
 go_upto_region 1 with fail
 have BS:=jM (blk_new W (Obj.cells #[.int .i64 s.1,.int .i64 s.2.1,.int .i64 s.2.2] 125))
 have HB1:=jM (below_alloc (RowKit.Below.refl W.heap.size W) (Obj.cells #[.int .i64 s.1,.int .i64 s.2.1,.int .i64 s.2.2] 125))
 have H1:=jM (H.out.below (below_alloc (RowKit.Below.refl W.heap.size W) (Obj.cells #[.int .i64 s.1,.int .i64 s.2.1,.int .i64 s.2.2] 125)))
 generalize W.alloc (Obj.cells #[.int .i64 s.1,.int .i64 s.2.1,.int .i64 s.2.2] 125)=W1 at *
 obtain ⟨xb,hxb⟩:∃ x,x=W.heap.size:=⟨_,rfl⟩
 rw [← hxb] at BS ⊢
 have HXB:=jM hxb
 clear hxb
 have hcells:∀ W':World,W'.heap[xb]? = some (.cells #[.int .i64 s.1,.int .i64 s.2.1,.int .i64 s.2.2] 125 (0,0))→W'.heap[B+3]? = some (.cells #[.slice A0 l0.length c0,.slice A1 l1.length c1,.slice A2 l2.length c2,.slice A3 l3.length c3,.int .i64 st,.slice AK K.length cK,.slice AN N.length cN,.map (some (B+2)),vq] 122 (0,0)) →
   W'.cell? ⟨xb,0,none⟩=some (.int .i64 s.1)∧W'.cell? ⟨xb,1,none⟩=some (.int .i64 s.2.1)∧W'.cell? ⟨xb,2,none⟩=some (.int .i64 s.2.2)∧W'.cell? ⟨B+3,0,none⟩=some (.slice A0 l0.length c0)∧W'.cell? ⟨B+3,1,none⟩=some (.slice A1 l1.length c1)∧W'.cell? ⟨B+3,2,none⟩=some (.slice A2 l2.length c2)∧W'.cell? ⟨B+3,3,none⟩=some (.slice A3 l3.length c3)∧W'.cell? ⟨B+3,4,none⟩=some (.int .i64 st)∧W'.cell? ⟨B+3,5,none⟩=some (.slice AK K.length cK)∧W'.cell? ⟨B+3,6,none⟩=some (.slice AN N.length cN):=fun W' h1 h2 =>
  ⟨blk_cell h1 0,blk_cell h1 1,blk_cell h1 2,blk_cell h2 0,blk_cell h2 1,blk_cell h2 2,blk_cell h2 3,blk_cell h2 4,blk_cell h2 5,blk_cell h2 6⟩
 have HCL:=jM hcells
 clear hcells
 obtain ⟨y0,y1,y2,z0,z1,z2,z3,z4,z5,z6⟩:=HCL.out W1 BS.out H1.out.bx
 have hBe:=jM fun (W':World) (hb:RowKit.Below w.heap.size w W')=>states_Behind.calls A0 c0 l0 A1 c1 l1 A2 c2 l2 A3 c3 l3 st s.2.1 s.2.2 sym okb W' (Kd.C_below HR0.out hb) HC0.out (Kd.C_below HR1.out hb) HC1.out (Kd.C_below HR2.out hb) HC2.out (Kd.C_below HR3.out hb) HC3.out HBH.out
 go_region_held3 (fun w'=>w'.cell? ⟨xb,1,none⟩=some (.int .i64 s.2.1)∧w'.cell? ⟨xb,2,none⟩=some (.int .i64 s.2.2)∧w'.cell? ⟨B+3,0,none⟩=some (.slice A0 l0.length c0)∧w'.cell? ⟨B+3,1,none⟩=some (.slice A1 l1.length c1)∧w'.cell? ⟨B+3,2,none⟩=some (.slice A2 l2.length c2)∧w'.cell? ⟨B+3,3,none⟩=some (.slice A3 l3.length c3)∧w'.cell? ⟨B+3,4,none⟩=some (.int .i64 st)) (go_keep)
  (first | (go_at_call 79;refine (hBe.out _ (by first | exact H1.out.hb | exact below_drew1 H1.out.hb)).mono ?_;rintro e w2 ⟨rfl,hb2⟩;have HB2:=jM hb2;have BS2:=jM (blk_below (w:=W1) BS.out (by first | exact hb2 | exact below_step (below_drew1 (RowKit.Below.refl _ _)) hb2));have H2:=jM (H1.out.below (W1:=w2) (by first | exact hb2 | exact below_step (below_drew1 (RowKit.Below.refl _ _)) hb2));clear hb2 y0 y1 y2 z0 z1 z2 z3 z4 z5 z6;obtain ⟨y0,y1,y2,z0,z1,z2,z3,z4,z5,z6⟩:=HCL.out w2 BS2.out H2.out.bx))
 cases okb with
 | false =>
  have HEE:=jM (show []=es by have:=HE.out;rw [if_neg (by decide)] at this;exact Option.some.inj this)
  go_wp2_with fail
  go_ret
  rw [← HEE.out]
  exact ⟨none,0,rfl,Er.nil,below_step HB1.out (by first | exact HB2.out | exact below_step (below_drew1 (RowKit.Below.refl _ _)) HB2.out)⟩
 | true =>
  have he:=HE.out
  rw [if_pos rfl] at he
  obtain ⟨n,hn,he⟩:=Option.bind_eq_some_iff.1 he
  have HN:=jM hn
  replace HE:=jM he
  clear he hn hBe
  have HBW2:=jM (below_step HB1.out (W:=W1) (w2:=w2) (by first | exact HB2.out | exact below_step (below_drew1 (RowKit.Below.refl _ _)) HB2.out))
  clear HB2 H1 BS HB1 HBH
  go_upto_region 4 with fail
  have hGo:=jM fun (W':World) (hb:RowKit.Below w.heap.size w W')=>states_Go.calls A0 c0 l0 A1 c1 l1 A2 c2 l2 A3 c3 l3 st AK cK K AN cN N s.1 sym n W' (Kd.C_below HR0.out hb) HC0.out (Kd.C_below HR1.out hb) HC1.out (Kd.C_below HR2.out hb) HC2.out (Kd.C_below HR3.out hb) HC3.out (Kd.C_below HRK.out hb) HCK.out (Kd.C_below HRN.out hb) HCN.out HN.out
  have hlt:xb < w2.heap.size:=blk_lt BS2.out
  have hlt2:B+3 < w2.heap.size:=blk_lt H2.out.bx
  have ne1:¬ xb=w2.heap.size:=Nat.ne_of_lt hlt
  have ne2:¬ B+3=w2.heap.size:=Nat.ne_of_lt hlt2
  have ne3:w2.heap.size≠xb:=Nat.ne_of_gt hlt
  have ne4:w2.heap.size≠B+3:=Nat.ne_of_gt hlt2
  go_cut [7] from 22 to 42 (fun s7 wr=>∃ nb:Nat,s7=.pointer (some ⟨nb,0,none⟩)∧Aside0 (w2.heap.size≤nb∧wr.heap[nb]? = some (.cells #[.int .i64 n,.int .i64 s.2.1,.int .i64 (IntKind.i64.wrap (s.2.2+1))] 125 (0,0))∧RowKit.Below w2.heap.size w2 wr))
  case first =>
   go_region_held3 (fun w'=>w'.cell? ⟨xb,0,none⟩=some (.int .i64 s.1)∧w'.cell? ⟨xb,1,none⟩=some (.int .i64 s.2.1)∧w'.cell? ⟨xb,2,none⟩=some (.int .i64 s.2.2)∧w'.cell? ⟨B+3,0,none⟩=some (.slice A0 l0.length c0)∧w'.cell? ⟨B+3,1,none⟩=some (.slice A1 l1.length c1)∧w'.cell? ⟨B+3,2,none⟩=some (.slice A2 l2.length c2)∧w'.cell? ⟨B+3,3,none⟩=some (.slice A3 l3.length c3)∧w'.cell? ⟨B+3,4,none⟩=some (.int .i64 st)∧w'.cell? ⟨B+3,5,none⟩=some (.slice AK K.length cK)∧w'.cell? ⟨B+3,6,none⟩=some (.slice AN N.length cN)) (go_keep)
    (first | (go_at_call 16;refine (hGo.out _ (by repeat (first | exact H2.out.hb | apply below_drew1 | apply below_alloc))).mono ?_;rintro e w4 ⟨rfl,hb4⟩;have hbb:=below_step (w:=w2) (by repeat (first | exact RowKit.Below.refl _ _ | apply below_drew1 | apply below_alloc)) hb4;obtain ⟨t0,t1,t2,s0,s1,s2,s3,s4,s5,s6⟩:=HCL.out w4 (blk_below BS2.out hbb) (blk_below H2.out.bx hbb);(first | (have BZ:=jM (blk_below (g:=w2.heap.size) (o:=.cells #[.int .i64 0,.int .i64 0,.int .i64 0] 125 (0,0)) (by first | exact blk_new w2.drew _ | exact blk_drew (blk_new w2 _)) hb4);have b0:=blk_cell BZ.out 0;have b1:=blk_cell BZ.out 1;have b2:=blk_cell BZ.out 2;have f0:=blk_frozen BZ.out 0;have f1:=blk_frozen BZ.out 1;have f2:=blk_frozen BZ.out 2) | skip);have m1:¬ xb=w4.heap.size:=Nat.ne_of_lt (Nat.lt_of_lt_of_le hlt hbb.size);have m2:¬ B+3=w4.heap.size:=Nat.ne_of_lt (Nat.lt_of_lt_of_le hlt2 hbb.size);have m3:=World.new_ne w4 _ t0;have m4:=World.new_ne w4 _ s0;have HBB:=jM hbb;clear hb4 hbb))
   all_goals go_wp2_with fail
   all_goals go_meet
   ·exact ⟨_,rfl,⟨HBB.out.size,blk_new w4 _,below_alloc HBB.out _⟩⟩
   ·exact ⟨_,rfl,⟨Nat.le_refl _,blk_put (blk_put (blk_put BZ.out 0 _ rfl) 1 _ rfl) 2 _ rfl,below_set (below_set (below_set HBB.out (Nat.le_refl _)) (Nat.le_refl _)) (Nat.le_refl _)⟩⟩
  case rest =>
   obtain ⟨nb,rfl,HX⟩:=hcut
   obtain ⟨d',hd'⟩:∃ d',IntKind.i64.wrap (s.2.2+1)=d':=⟨_,rfl⟩
   have he:=HE.out
   rw [hd'] at he HX
   replace HE:=jM he
   have HD':=jM hd'
   clear he hd'
   have HBc:=jM (show RowKit.Below W.heap.size W wc from below_step HBW2.out (by first | exact HX.out.2.2 | exact HX.out.2.2))
   have HWc:=jM HX.out.2.2
   have hn0:wc.cell? ⟨nb,0,none⟩=some (.int .i64 n):=blk_cell HX.out.2.1 0
   have hn1:wc.cell? ⟨nb,1,none⟩=some (.int .i64 s.2.1):=blk_cell HX.out.2.1 1
   have hn2:wc.cell? ⟨nb,2,none⟩=some (.int .i64 d'):=blk_cell HX.out.2.1 2
   have BSc:=jM (blk_below BS2.out HWc.out)
   have Hc:=jM (H2.out.below HWc.out)
   clear y0 y1 y2 z0 z1 z2 z3 z4 z5 z6 hlt hlt2 ne1 ne2 ne3 ne4 hGo HX
   obtain ⟨fe,hfe⟩:∃ fe:Edg,fe=((n,(s.2.1,d')),[]):=⟨_,rfl⟩
   have hone:=Er.one (w:=w) (b:=wc.heap.size) fe wc none 0 (by rw [hfe];exact Nat.le_refl _) (by rw [hfe];exact .inl rfl) (Nat.le_refl _)
   rw [hfe] at hone
   simp only [List.length_nil] at hone
   have HO:=jM hone
   have HFE:=jM hfe
   clear hone hfe
   go_upto_region 6 with fail
   have HW6:=jM (below_alloc (RowKit.Below.refl wc.heap.size wc) (Obj.cells #[.int .i64 n,.int .i64 s.2.1,.int .i64 d',.slice none 0 0] 130))
   generalize wc.alloc (Obj.cells #[.int .i64 n,.int .i64 s.2.1,.int .i64 d',.slice none 0 0] 130)=W6 at *
   rw [← HFE.out] at HO
   obtain ⟨y0,y1,y2,z0,z1,z2,z3,z4,z5,z6⟩:=HCL.out W6 (blk_below BSc.out HW6.out) (blk_below Hc.out.bx HW6.out)
   by_cases hsym:sym < 0
   ·have hsb:decide (sym < 0)=true:=decide_eq_true hsym
    have he:=HE.out
    rw [if_pos hsym,← HFE.out] at he
    obtain ⟨r,hr,hes⟩:=Option.map_eq_some_iff.1 he
    unfold restF at hr
    split at hr
    ·rename_i hd0
     obtain ⟨r0,hr0',hr⟩:=Option.bind_eq_some_iff.1 hr
     split at hr
     ·rename_i hdr
      obtain ⟨m,hm⟩:∃ m:Nat,m=s.2.2.toNat+1:=⟨_,rfl⟩
      rw [← hm] at hr
      obtain rfl:=Option.some.inj hr
      obtain ⟨r,hrr⟩:∃ r,r=r0.drop m:=⟨_,rfl⟩
      rw [← hrr] at hes
      have HES:=jM hes
      have HRG:=jM fun (W':World) hL=>right_calls (F:=F) (q:=q) (vq:=vq) (ok:=ok) (W:=W') (B:=B) (A0:=A0) (A1:=A1) (A2:=A2) (c0:=c0) (c1:=c1) (c2:=c2) (c3:=c3) (l0:=l0) (l1:=l1) (l2:=l2) (Kv:=.slice AK K.length cK) (Nv:=.slice AN N.length cN) HR3.out hL s.2.1 r0 hr0'
      have hrl:r0.length - m=r.length:=by rw [hrr,List.length_drop]
      have HPR:=jM hr0'
      have HRR:=jM hrr
      have HNG:=jM (show s.2.1 < 0→r0.length≤m from fun hp=>by have:=right_neg hr0' hp;omega)
      have HM:=jM (show m≤r0.length∧1≤m by omega)
      have HDM:=jM (show s.2.2+1=(m:Int) by omega)
      have HMX:=jM hdr
      have HRX:=jM (show r0.length≤9223372036854775807 from right_max HR3.out hr0')
      clear he hes hr hr0' hdr hsym hrr hm hd0
      go_wp2_with fail
      clear z0 z1 z2 z3 z4 z5 z6 y0 y1 y2
      go_loopw [8,52] (fun v8 v52 wr=>∃ j:Nat,v52=.int .i64 j∧j≤l3.length∧Aside0 (Er w wc.heap.size (fun k=>wc.heap.size≤k) v8 (fe :: sortsE l3 s.1 sym r j) wr)∧Aside0 (RowKit.Below wc.heap.size wc wr)) (fun _ v52 _=>l3.length - (intOf v52).toNat)
      case atStart=>exact ⟨0,rfl,Nat.zero_le _,HO,HW6⟩
      case round =>
       obtain ⟨j,rfl,hj,HR,HBr⟩:=hrel
       by_cases hlt:j < l3.length
       ·have hjb:decide (j < l3.length)=true:=decide_eq_true hlt
        have hjw:IntKind.i64.wrap ((j:Int)+1)=((j+1:Nat):Int):=by
         have:=HL3.out
         rw [IntWalk.i64_in _ (by omega)]
         rfl
        obtain ⟨y0,y1,y2,z0,z1,z2,z3,z4,z5,z6⟩:=HCL.out wr (blk_below BSc.out HBr.out) (blk_below Hc.out.bx HBr.out)
        obtain ⟨ad,A',c',e,hx0,hx1,hx2,hx3,hle,hC⟩:=at_T68 (Kd.C_below HR3.out (below_step Hc.out.hb HBr.out)) (j:Int) (by omega) (by omega)
        subst e
        rw [Int.toNat_natCast] at hx0 hx1 hx2 hx3
        clear hx0 hx2 hx3 hle hC
        obtain ⟨A8,c8,e8,hc8⟩:=HR.out.slice
        subst e8
        simp only [List.length_cons] at HR
        by_cases hq:(rd_T68 l3 j).f1=IntKind.i64.wrap (-1 - sym)
        ·have hst:sortsE l3 s.1 sym r (j+1)=sortsE l3 s.1 sym r j ++ [((s.1,((j:Int),0)),r)]:=by
          unfold sortsE
          rw [List.range_succ,List.filter_append,List.map_append]
          congr 1
          rw [List.filter_cons_of_pos (by simpa using hq)]
          rfl
         have HST:=jM hst
         simp only [i64_w] at hq
         have hqb:((rd_T68 l3 j).f1 == wrap64 (-1 - sym))=true:=by rw [hq];simp
         clear hst hq
         go_upto_region 10 with fail
         have HXC:=jM (show xb < wc.heap.size from blk_lt BSc.out)
         have HLN:=jM (show (fe :: sortsE l3 s.1 sym r j).length≤1000000 by
          have h1:(sortsE l3 s.1 sym r j).length≤j:=by unfold sortsE;rw [List.length_map];exact Nat.le_trans (List.length_filter_le _ _) (by simp)
          have:=HL3.out
          rw [List.length_cons];omega)
         have hlx:xb < wr.heap.size:=blk_lt (blk_below BSc.out HBr.out)
         have ne3:=World.new_ne wr _ y0
         have HLr:=jM (Hc.out.below HBr.out)
         have HWR:=jM (blk_below BSc.out HBr.out)
         have hdm:wrap64 (s.2.2+1)=(m:Int):=by
          rw [← i64_w,HDM.out]
          exact IntWalk.i64_in _ (by have:=HM.out;have:=HRX.out;omega)
         have hdm2:IntKind.i64.wrap (s.2.2+1)=(m:Int):=by rw [i64_w];exact hdm
         clear z0 z1 z2 z3 z4 z5 z6
         go_region_held3 (fun w'=>w'.cell? ⟨xb,0,none⟩=some (.int .i64 s.1)∧w'.cell? ⟨xb,1,none⟩=some (.int .i64 s.2.1)∧w'.cell? ⟨xb,2,none⟩=some (.int .i64 s.2.2)) (go_keep)
          (first | (go_at_call 80;refine (HRG.out _ (HLr.out.below (by repeat (first | exact RowKit.Below.refl _ _ | apply below_drew1)))).mono ?_;rintro e w5 ⟨A5,c5,rfl,hl5,hC5,hO5,hb5⟩;have hbb:=below_step (w:=wr) (by repeat (first | exact RowKit.Below.refl _ _ | apply below_drew1)) hb5;obtain ⟨t0,t1,t2,s0,s1,s2,s3,s4,s5,s6⟩:=HCL.out w5 (blk_below HWR.out hbb) (blk_below HLr.out.bx hbb);have hm5:m≤r0.length:=HM.out.1;have hm6:m≤c5:=Nat.le_trans hm5 hl5;have hm7:(0:Int)≤(m:Int):=Int.natCast_nonneg m;have hm8:(m:Int)≤(r0.length:Int):=Int.ofNat_le.2 hm5;have hm9:(r0.length:Int)≤(c5:Int):=Int.ofNat_le.2 hl5;have hm10:(m:Int)≤(c5:Int):=Int.ofNat_le.2 hm6;obtain ⟨hq1,hq2⟩:=rest_ok hm5 hl5 hO5 HNG.out;obtain ⟨T,hTT⟩:∃ T,(if c5=m then A5 else A5.map (·.add (m * (Kd.int .i64).sz)))=T:=⟨_,rfl⟩;obtain ⟨i41,hi41,hsz⟩:=Option.map_eq_some_iff.1 info56;have hsl:=cut_from (P:=Tryz.prog) 66 56 .i64 Tryz.underlying66 hi41 (Kd.int .i64).sz (congrArg (fun z=>z.2.1) hsz) A5 r0.length c5 (m:Int) hm7 hm8;rw [Int.toNat_natCast,hTT] at hsl;rw [hTT,← HRR.out] at hq2;rw [← HRR.out] at hq1;have HQ1:=jM hq1;have HQ2:=jM hq2;clear hq1 hq2 hTT hi41 hsz;have m3:=World.new_ne w5 _ t0;have HBB:=jM hbb;have HO5:=jM hO5;have HR5:=jM (HR.out.below hbb);have HSZ:=jM (show wc.heap.size≤w5.heap.size from Nat.le_trans HBr.out.size hbb.size);have HX5:=jM (blk_below HWR.out hbb);clear hb5 hbb hC5 hO5 s0 s1 s2 s3 s4 s5 s6) | (refine append_edge (w:=w) (b:=wc.heap.size) HR5.out ((s.1,((j:Int),0)),r) T (c5 - m) HQ1.out HQ2.out HSZ.out HLN.out _ _ _ _ _ (by rfl) rfl (by simp [Act.eval,Act.put]) (by simp [Act.eval,Act.put]) ?_;intro v9 w9 hE9 hg9 hat9;obtain ⟨A9,c9,e9,hc9⟩:=hE9.slice;subst e9;have hx9:=(hg9.block xb (blk_lt HX5.out) (fun e=>by have:=HR5.out.base _ e.symm;have:=HXC.out;omega)).trans HX5.out;have t0:=blk_cell hx9 0;have t1:=blk_cell hx9 1;have t2:=blk_cell hx9 2;have HE9:=jM hE9;have HG9:=jM hg9;clear hE9 hg9 hat9 hx9 hc9))
         have e7:((fe :: sortsE l3 s.1 sym r j) ++ [((s.1,((j:Int),0)),r)]).length=(sortsE l3 s.1 sym r j).length+1+1:=by simp
         rw [e7] at HE9
         have HB9:=jM (below_grown (below_step HBr.out HBB.out) HG9.out (fun k hk=>HR5.out.base k hk))
         go_wp2_with fail
         go_roundw
         all_goals first
          | exact ⟨j+1,rfl,by omega,⟨by rw [HST.out];exact HE9.out⟩,HB9⟩
          | (simp [intOf];omega)
        ·have hst:sortsE l3 s.1 sym r (j+1)=sortsE l3 s.1 sym r j:=by
          unfold sortsE
          rw [List.range_succ,List.filter_append,List.map_append]
          rw [List.filter_cons_of_neg (by simpa using hq)]
          simp
         have HST:=jM hst
         simp only [i64_w] at hq
         have hqb:((rd_T68 l3 j).f1 == wrap64 (-1 - sym))=false:=by simpa using hq
         clear hst hq
         go_wp2_with fail
         go_roundw
         all_goals first
          | exact ⟨j+1,rfl,by omega,by rw [HST.out];exact HR,HBr⟩
          | (simp [intOf];omega)
       ·have hjb:decide (j < l3.length)=false:=decide_eq_false hlt
        have hje:j=l3.length:=by omega
        subst hje
        obtain ⟨A8,c8,e8,hc8⟩:=HR.out.slice
        subst e8
        go_wp2_with fail
        go_ret
        rw [← HES.out]
        exact ⟨_,_,rfl,(HR.out.lower HBc.out.size).mono (fun k hk=>Nat.le_trans HBc.out.size hk),below_step HBc.out HBr.out⟩
     ·cases hr
    ·cases hr
   ·have hsb:decide (sym < 0)=false:=decide_eq_false hsym
    have HES:=jM (show [fe]=es by have:=HE.out;rw [if_neg hsym,← HFE.out] at this;exact Option.some.inj this)
    clear hsym
    go_wp2_with fail
    clear z0 z1 z2 z3 z4 z5 z6 y0 y1 y2
    go_loopw [8,52] (fun v8 v52 wr=>∃ j:Nat,v52=.int .i64 j∧j≤l3.length∧Aside0 (Er w wc.heap.size (fun k=>wc.heap.size≤k) v8 [fe] wr)∧Aside0 (RowKit.Below wc.heap.size wc wr)) (fun _ v52 _=>l3.length - (intOf v52).toNat)
    case atStart=>exact ⟨0,rfl,Nat.zero_le _,HO,HW6⟩
    case round =>
     obtain ⟨j,rfl,hj,HR,HBr⟩:=hrel
     by_cases hlt:j < l3.length
     ·have hjb:decide (j < l3.length)=true:=decide_eq_true hlt
      have hjw:IntKind.i64.wrap ((j:Int)+1)=((j+1:Nat):Int):=by
       have:=HL3.out
       rw [IntWalk.i64_in _ (by omega)]
       rfl
      go_wp2_with fail
      go_roundw
      all_goals first
       | exact ⟨j+1,rfl,by omega,HR,HBr⟩
       | (simp [intOf];omega)
     ·have hjb:decide (j < l3.length)=false:=decide_eq_false hlt
      obtain ⟨A8,c8,e8,hc8⟩:=HR.out.slice
      subst e8
      go_wp2_with fail
      go_ret
      rw [← HES.out]
      exact ⟨_,_,rfl,(HR.out.lower HBc.out.size).mono (fun k hk=>Nat.le_trans HBc.out.size hk),below_step HBc.out HBr.out⟩
end
end
end Go.Proofs.YtclollnicbcooaaGreatDoor.P
namespace Go.Proofs.YtclollnicbcooaaGreatDoor.P
open Go.RowKit YtclollnicbcooaaGreatDoorW.PrintWords YtclollnicbcooaaGreatDoorW.PrintLast YtclollnicbcooaaGreatDoorW.PrintMore
def badB (term:Bool) (xs:List Bool) (s:Int):Bool:=(decide (0≤s) && !term) || (decide (s < 0) && !rdOf false xs (IntKind.i64.wrap (-1 - s)))
def moreB (term:Bool) (xs:List Bool) (p:S68):Bool:=if p.f2.any (badB term xs) then rdOf false xs p.f1 else true

theorem any_here {α:Type} (f:α→Bool) (l:List α) (k:Nat) (hk:k < l.length) (h:f l[k]=true):l.any f=true:=List.any_eq_true.2 ⟨l[k],List.getElem_mem hk,h⟩
theorem any_take {α:Type} (f:α→Bool) (l:List α) (k:Nat) (hk:k < l.length):(l.take (k+1)).any f=((l.take k).any f || f l[k]):=by
 rw [List.take_add_one,List.getElem?_eq_getElem hk,List.any_append]
 simp
theorem rd_atS (l:List Int) (k:Nat) (hk:k < l.length):rd l (k:Int)=l[k]:=by unfold rd;simp [List.getD,hk]

set_option maxHeartbeats 4000000 in
set_option maxRecDepth 100000 in
theorem all1_calls (term:Bool) (bt b5 G n cap:Nat) (xs:List Bool) (base:Nat) (ok:Nat→Prop) (p:S68) (A:Option Addr) (c:Nat) (w:World)
  (hbt:w.cell? ⟨bt,0,none⟩=some (.bool term)) (hb5:w.cell? ⟨b5,0,none⟩=some (.slice (some ⟨G,0,none⟩) n cap)) (hR:Kd.R Kd.bool 4 w base ok (.slice (some ⟨G,0,none⟩) n cap) xs)
  (hp:Kd.C (Kd.int .i64) w A p.f2.length p.f2) (hs:∀ s ∈ p.f2,s < 0→0≤IntKind.i64.wrap (-1 - s)∧IntKind.i64.wrap (-1 - s) < n) (h0:0≤p.f1) (h1:p.f1 < n) :
  Calls Tryz.prog 65 #[.agg #[.string p.f0,.int .i64 p.f1,.slice A p.f2.length c,.int .i64 p.f3],.pointer (some ⟨bt,0,none⟩),.pointer (some ⟨b5,0,none⟩)] w fun e w'=>e=.returned (.tuple #[.int .i64 p.f1,.bool (moreB term xs p)])∧Below w.heap.size w w':=by
 have HR:=jM hR
 have HP:=jM hp
 have HS:=jM hs
 have Bt:=jM hbt
 have B5:=jM hb5
 have hmx:p.f2.length≤9223372036854775807:=hp.2.1
 have P0:=jM h0
 have P1:=jM h1
 have hu:=Tryz.underlying68
 clear hR hp hs hbt hb5 h0 h1
 obtain ⟨nl,hnl⟩:∃ nl,p.f2.length=nl:=⟨_,rfl⟩
 rw [hnl] at hmx ⊢
 have HN:=jM hnl
 clear hnl
 obtain ⟨lab,hlab⟩:∃ lab,p.f0=lab:=⟨_,rfl⟩
 obtain ⟨srt,hsrt⟩:∃ srt,p.f1=srt:=⟨_,rfl⟩
 obtain ⟨cls,hcls⟩:∃ cls,p.f3=cls:=⟨_,rfl⟩
 rw [hlab,hsrt,hcls]
 replace hsrt:=jM hsrt
 clear hlab hcls
 go_enter Tryz.func65,Tryz.ntmps65
 go_upto_region 1 with fail
 have HZ:Aside0 (Below w.heap.size w (w.alloc (Obj.cells #[.string lab,.int .i64 srt,.slice A nl c,.int .i64 cls] 68))):=⟨below_alloc (Below.refl _ _) _⟩
 have G1:(w.alloc (Obj.cells #[.string lab,.int .i64 srt,.slice A nl c,.int .i64 cls] 68)).cell? ⟨w.heap.size,1,none⟩=some (.int .i64 srt):=by go_simp
 have G2:(w.alloc (Obj.cells #[.string lab,.int .i64 srt,.slice A nl c,.int .i64 cls] 68)).cell? ⟨w.heap.size,2,none⟩=some (.slice A nl c):=by go_simp
 generalize w.alloc (Obj.cells #[.string lab,.int .i64 srt,.slice A nl c,.int .i64 cls] 68)=wy at *
 replace HR:=jM (Kd.R_below HR.out HZ.out)
 replace HP:=jM (Kd.C_below HP.out HZ.out)
 replace Bt:=jM (pw_cell_below HZ.out Bt.out)
 replace B5:=jM (pw_cell_below HZ.out B5.out)
 generalize hg:w.heap.size=gy at G1 G2 ⊢
 clear hg
 go_wp2
 replace G1:=jM G1
 clear G2
 go_loopw [11] (fun v wr=>∃ k:Nat,v=.int .i64 k∧k≤nl∧Aside0 ((p.f2.take k).any (badB term xs)=false)∧Aside0 (∃ m,wr=wy.drewN m)) (fun v _=>nl - (intOf v).toNat)
 case atStart=>exact ⟨0,rfl,Nat.zero_le _,⟨by simp⟩,⟨⟨0,rfl⟩⟩⟩
 case round =>
  obtain ⟨k,rfl,hk,HT,⟨m,rfl⟩⟩:=hrel
  by_cases hlt:k < nl
  ·have hltb:decide (k < nl)=true:=decide_eq_true (by omega)
   have hlt':k < p.f2.length:=by rw [HN.out];exact hlt
   obtain ⟨ad,e1,hx1⟩:=Kd.at_int HP.out (k:Int) (by omega) (by omega)
   rw [Int.toNat_natCast] at hx1
   obtain ⟨s,hsx⟩:∃ s,rd p.f2 (k:Int)=s:=⟨_,rfl⟩
   rw [hsx] at hx1
   rw [rd_atS _ _ hlt'] at hsx
   subst e1
   have hmem:s < 0→0≤IntKind.i64.wrap (-1 - s)∧IntKind.i64.wrap (-1 - s) < n:=HS.out s (by rw [← hsx];exact List.getElem_mem hlt')
   have HSX:=jM hsx
   have BT:=Bt.out
   clear hsx
   by_cases hs0:0≤s
   ·have hb0:decide (0≤s)=true:=decide_eq_true hs0
    have hb1:decide (s < 0)=false:=decide_eq_false (by omega)
    cases term
    ·have g1:=G1.out
     have b5:=B5.out
     obtain ⟨hxs, -⟩:=Kd.R_celln false HR.out srt (by rw [← hsrt.out];exact P0.out) (by rw [← hsrt.out];exact P1.out)
     have q0:(0≤srt)=True:=eq_true (by rw [← hsrt.out];exact P0.out)
     have q1:(srt < (n:Int))=True:=eq_true (by rw [← hsrt.out];exact P1.out)
     go_wp2
     go_quiet (fail)
     go_wp2
     go_ret2
     exact ⟨by rw [moreB,if_pos (any_here _ _ k hlt' (by rw [HSX.out];simp [badB,hb0])),hsrt.out];rfl,pw_below_drewN (pw_below_drewN HZ.out _) _⟩
    ·go_wp2
     go_roundw
     case rel=>exact ⟨k+1,rfl,by omega,⟨by rw [any_take _ _ k hlt',HT.out,HSX.out];simp [badB,hb0,hb1]⟩,⟨⟨_,rfl⟩⟩⟩
     case measure=>simp [intOf];omega
   ·have hb0:decide (0≤s)=false:=decide_eq_false hs0
    have hb1:decide (s < 0)=true:=decide_eq_true (by omega)
    obtain ⟨hj0,hj1⟩:=hmem (by omega)
    obtain ⟨j,hj⟩:∃ j,IntKind.i64.wrap (-1 - s)=j:=⟨_,rfl⟩
    rw [hj] at hj0 hj1
    obtain ⟨hxj, -⟩:=Kd.R_celln false HR.out j hj0 hj1
    replace hj0:(0≤j)=True:=eq_true hj0
    replace hj1:(j < (n:Int))=True:=eq_true hj1
    have b5':=B5.out
    have HJ:=jM hj
    obtain ⟨o,ho⟩:∃ o,rdOf false xs j=o:=⟨_,rfl⟩
    rw [ho] at hxj
    have HO:=jM ho
    clear ho
    cases o
    ·have g1:=G1.out
     have b5:=B5.out
     obtain ⟨hxs, -⟩:=Kd.R_celln false HR.out srt (by rw [← hsrt.out];exact P0.out) (by rw [← hsrt.out];exact P1.out)
     have q0:(0≤srt)=True:=eq_true (by rw [← hsrt.out];exact P0.out)
     have q1:(srt < (n:Int))=True:=eq_true (by rw [← hsrt.out];exact P1.out)
     go_wp2
     go_quiet (fail)
     go_wp2
     go_ret2
     exact ⟨by rw [moreB,if_pos (any_here _ _ k hlt' (by rw [HSX.out];simp [badB,hb0,hb1,HJ.out,HO.out])),hsrt.out];rfl,pw_below_drewN (pw_below_drewN HZ.out _) _⟩
    ·go_wp2
     go_roundw
     case rel=>exact ⟨k+1,rfl,by omega,⟨by rw [any_take _ _ k hlt',HT.out,HSX.out];simp [badB,hb0,hb1,HJ.out,HO.out]⟩,⟨⟨_,rfl⟩⟩⟩
     case measure=>simp [intOf];omega
  ·have hltb:decide (k < nl)=false:=decide_eq_false (by omega)
   have HA:Aside0 (p.f2.any (badB term xs)=false):=⟨by have:=HT.out;rwa [List.take_of_length_le (by rw [HN.out];omega)] at this⟩
   replace G1:=G1.out
   go_wp2
   go_ret2
   exact ⟨by simp [moreB,HA.out],pw_below_drewN HZ.out _⟩
end Go.Proofs.YtclollnicbcooaaGreatDoor.P
namespace Go.Proofs.YtclollnicbcooaaGreatDoor.Base
open Go Classical
theorem Exit.jump_imp {l:Nat} {J J':Act→World→Prop} {Q:Exit→Act→World→Prop} (h:∀ a w,J a w→J' a w):∀ (e:Exit) (a:Act) (w:World),Exit.jump l J Q e a w→Exit.jump l J' Q e a w:=fun e a w hh=>by
 unfold Exit.jump at *
 split <;> rename_i h1 <;> simp_all
 all_goals (split <;> simp_all)

theorem exists_least {p:Nat→Prop} (h:∃ n,p n):∃ n,p n∧∀ m,p m→n≤m:=by
 obtain ⟨n,hn⟩:=h
 induction n using Nat.strongRecOn with
 | _ n ih =>
  by_cases hs:∃ m,m < n∧p m
  ·obtain ⟨m,hm,hp⟩:=hs;exact ih m hm hp
  ·exact ⟨n,hn,fun m hp=>Nat.le_of_not_lt fun hm=>hs ⟨m,hm,hp⟩⟩
noncomputable def least (J:Nat→Act→World→Prop) (a:Act) (w:World):Nat:=if h:∃ n,J n a w then Classical.choose (exists_least h) else 0
theorem least_le {J:Nat→Act→World→Prop} {a:Act} {w:World} {n:Nat} (h:J n a w):least J a w≤n:=by
 have hx:∃ n,J n a w:=⟨n,h⟩
 unfold least;rw [dif_pos hx];exact (Classical.choose_spec (exists_least hx)).2 n h
theorem least_at {J:Nat→Act→World→Prop} {a:Act} {w:World} (h:∃ n,J n a w):J (least J a w) a w:=by
 unfold least;rw [dif_pos h];exact (Classical.choose_spec (exists_least h)).1

theorem wp_scope_ghost {P:Program} {Q:Exit→Act→World→Prop} {a:Act} {w:World} {c rest:Code} (l:Nat) (J:Nat→Act→World→Prop) (hf:findLabel c l=some rest)
  (first:c.wp P (Exit.jump l (fun a w=>∃ n,J n a w) Q) a w)
  (pass:∀ n a w,J n a w→rest.wp P (Exit.jump l (fun a' w'=>∃ m,m < n∧J m a' w') Q) a w):(Code.scope c).wp P Q a w :=
 wp_scope_jumps l (fun a w=>∃ n,J n a w) (least J) hf first fun a w h =>
  Code.wp_mono (Exit.jump_imp fun _ _ ⟨m,hm,hj⟩=>⟨⟨m,hj⟩,Nat.lt_of_le_of_lt (least_le hj) hm⟩) (pass _ a w (least_at h))

theorem wp_scope_label {P:Program} {Q:Exit→Act→World→Prop} {a:Act} {w:World} {rest:Code} (l k0:Nat) (J:Nat→Act→World→Prop) 
  (init:J k0 a w) (pass:∀ n a w,J n a w→rest.wp P (Exit.jump l (fun a' w'=>∃ m,m < n∧J m a' w') Q) a w):(Code.scope ((Code.label l).seq rest)).wp P Q a w :=
 wp_scope_ghost (rest:=Code.skip.seq rest) l J (by simp [findLabel]) (wp_seq (wp_label (Code.wp_mono (Exit.jump_imp fun _ _ ⟨m,_,hj⟩=>⟨m,hj⟩) (pass k0 a w init)))) fun n a w hj=>wp_seq (wp_skip (pass n a w hj))
end Go.Proofs.YtclollnicbcooaaGreatDoor.Base
namespace Go.Proofs.YtclollnicbcooaaGreatDoor.P
open YtclollnicbcooaaGreatDoor.Base Go.RowKit YtclollnicbcooaaGreatDoorW.PrintWords YtclollnicbcooaaGreatDoorW.PrintLast YtclollnicbcooaaGreatDoorW.PrintMore
section
section
variable {β:Type} [DecidableEq β] (z:β) (more:List β→S68→β)
def passG:List S68→List β × Bool→List β × Bool
 | [],st=>st
 | p :: ps,st=>passG ps (if rdOf z st.1 p.f1=more st.1 p then st else (st.1.set p.f1.toNat (more st.1 p),true))
def growG (ps:List S68):Nat→List β→Option (List β)
 | 0,_=>none
 | k+1,xs=>if (passG z more ps (xs,false)).2=true then growG ps k (passG z more ps (xs,false)).1 else some (passG z more ps (xs,false)).1
theorem growG_mono (ps:List S68):∀ (k:Nat) (xs:List β),LeO (growG z more ps k xs) (growG z more ps (k+1) xs)
 | 0,xs=>by intro r h;cases h
 | k+1,xs=>by
  intro r h
  unfold growG at h ⊢
  split at h
  ·rw [if_pos (by assumption)];exact growG_mono ps k _ r h
  ·rw [if_neg (by assumption)];exact h
theorem passG_drop (ps:List S68) (k:Nat) (hk:k < ps.length) (st:List β × Bool) :
  passG z more (ps.drop k) st=passG z more (ps.drop (k+1)) (if rdOf z st.1 ps[k].f1=more st.1 ps[k] then st else (st.1.set ps[k].f1.toNat (more st.1 ps[k]),true)):=by
 rw [List.drop_eq_getElem_cons hk];rfl
end

theorem grown_put {W w:World} {g:Nat} {i:Nat} {u:Value} (h:W.grownBy w (some g)):W.grownBy (w.setCell ⟨g,i,none⟩ u) (some g) :=
 ⟨h.os,h.tape,h.output,by rw [World.size_setCell];exact h.size,fun k hk hne=>by rw [Below.heap_setCell w _ u k (fun e=>hne (by rw [e]))];exact h.block k hk hne⟩
theorem grown_below {W w w':World} {g:Nat} (h:W.grownBy w (some g)) (hb:Below w.heap.size w w'):W.grownBy w' (some g) :=
 ⟨hb.os.trans h.os,hb.tape.trans h.tape,hb.output.trans h.output,Nat.le_trans h.size hb.size,fun k hk hne=>(hb.block k (Nat.lt_of_lt_of_le hk h.size)).trans (h.block k hk hne)⟩
theorem grown_of {W w w':World} {g:Nat} (hb:Below W.heap.size W w) (h:w.grownBy w' (some g)):W.grownBy w' (some g) :=
 ⟨h.os.trans hb.os,h.tape.trans hb.tape,h.output.trans hb.output,Nat.le_trans hb.size h.size,fun k hk hne=>(h.block k (Nat.lt_of_lt_of_le hk hb.size) hne).trans (hb.block k hk)⟩
theorem below_grownS {w W w':World} {g:Nat} (hb:Below w.heap.size w W) (h:W.grownBy w' (some g)) (hg:w.heap.size≤g):Below w.heap.size w w' :=
 ⟨h.os.trans hb.os,h.tape.trans hb.tape,h.output.trans hb.output,Nat.le_trans hb.size h.size,fun k hk=>(h.block k (Nat.lt_of_lt_of_le hk hb.size) (fun e=>by injection e;omega)).trans (hb.block k hk)⟩

set_option maxHeartbeats 4000000 in
set_option maxRecDepth 100000 in
theorem grow_bool (k0:Nat) (term:Bool) (A0:Option Addr) (c0:Nat) (l0:List S65) (A1:Option Addr) (c1:Nat) (l1:List S73) (A2:Option Addr) (c2:Nat) (l2:List ByteArray) (A3:Option Addr) (c3:Nat) (l3:List S68) (st:Int)
  (bt b5 G n cap base:Nat) (ok:Nat→Prop) (x0 r:List Bool) (w W:World) (hr3:Kd.C k68 w A3 l3.length l3) (hbel:Below w.heap.size w W) (hG:w.heap.size≤G) (hGW:G < W.heap.size)
  (hbt:W.cell? ⟨bt,0,none⟩=some (.bool term)) (hb5:W.cell? ⟨b5,0,none⟩=some (.slice (some ⟨G,0,none⟩) n cap)) (hbtG:bt≠G) (hb5G:b5≠G)
  (hR:Kd.R Kd.bool 4 W base ok (.slice (some ⟨G,0,none⟩) n cap) x0)
  (hs:∀ p ∈ l3,(0≤p.f1∧p.f1 < n)∧∀ s ∈ p.f2,s < 0→0≤IntKind.i64.wrap (-1 - s)∧IntKind.i64.wrap (-1 - s) < n)
  (h:growG false (moreB term) l3 k0 x0=some r) :
  Calls Tryz.prog 64 #[.agg #[.slice A0 l0.length c0,.slice A1 l1.length c1,.slice A2 l2.length c2,.slice A3 l3.length c3,.int .i64 st],.slice (some ⟨G,0,none⟩) n cap,.func (.func 65) #[] #[.pointer (some ⟨bt,0,none⟩),.pointer (some ⟨b5,0,none⟩)]] W
   fun e w'=>e=.returned (.slice (some ⟨G,0,none⟩) n cap)∧Kd.R Kd.bool 4 w' base ok (.slice (some ⟨G,0,none⟩) n cap) r∧W.grownBy w' (some G):=by
 have HR:=jM hR
 have HR3:=jM hr3
 have HS:=jM hs
 have HBEL:=jM hbel
 have HG:=jM hG
 have HGW:=jM hGW
 have Bt:=jM hbt
 have B5:=jM hb5
 have NB:=jM (And.intro hbtG hb5G)
 have H:=jM h
 have hu:=Tryz.underlying68
 have hu27:=Tryz.underlying27
 clear hR hr3 hs hbel hG hGW hbt hb5 hbtG hb5G h
 go_enter Tryz.func64,Tryz.ntmps64
 go_wp2
 have HZ:Aside0 (Below W.heap.size W (W.alloc (Obj.cells #[.slice A0 l0.length c0,.slice A1 l1.length c1,.slice A2 l2.length c2,.slice A3 l3.length c3,.int .i64 st] 27))):=⟨below_alloc (Below.refl _ _) _⟩
 have G3:Aside0 ((W.alloc (Obj.cells #[.slice A0 l0.length c0,.slice A1 l1.length c1,.slice A2 l2.length c2,.slice A3 l3.length c3,.int .i64 st] 27)).cell? ⟨W.heap.size,3,none⟩=some (.slice A3 l3.length c3)):=⟨by go_simp⟩
 generalize W.alloc (Obj.cells #[.slice A0 l0.length c0,.slice A1 l1.length c1,.slice A2 l2.length c2,.slice A3 l3.length c3,.int .i64 st] 27)=wy at *
 replace HR:=jM (Kd.R_below HR.out HZ.out)
 replace Bt:=jM (pw_cell_below HZ.out Bt.out)
 replace B5:=jM (pw_cell_below HZ.out B5.out)
 replace HBEL:=jM (below_step HBEL.out HZ.out)
 have HGN:Aside0 (W.heap.size≠G):=⟨by have:=HGW.out;omega⟩
 generalize hg:W.heap.size=gb at G3 HGN ⊢
 clear hg
 obtain ⟨vg,hvg⟩:∃ vg:Value,vg=.agg #[.slice A0 l0.length c0,.slice A1 l1.length c1,.slice A2 l2.length c2,.slice A3 l3.length c3,.int .i64 st]:=⟨_,rfl⟩
 rw [← hvg]
 clear hvg
 refine wp_scope_label 0 k0 (fun k a wr=>∃ (xs:List Bool) (u7 u8 u9 u10 u11 u12 u13 u14 u15 u16 u17 u18 u19 u20 u21 u22 u23 u24 u25 u26 u27 u28 u29 u30 u31 u32 u33 u34 u35 u36 u37:Value),a={ tmps:=#[vg,.slice (some ⟨G,0,none⟩) n cap,.func (.func 65) #[] #[.pointer (some ⟨bt,0,none⟩),.pointer (some ⟨b5,0,none⟩)],.pointer (some ⟨gb,0,none⟩),undef,undef,.slice none 0 0,u7,u8,u9,u10,u11,u12,u13,u14,u15,u16,u17,u18,u19,u20,u21,u22,u23,u24,u25,u26,u27,u28,u29,u30,u31,u32,u33,u34,u35,u36,u37],defers:=[] }∧Aside0 (growG false (moreB term) l3 k xs=some r)∧Aside0 (Kd.R Kd.bool 4 wr base ok (.slice (some ⟨G,0,none⟩) n cap) xs)∧Aside0 (wy.grownBy wr (some G))) ⟨x0,_,_,_,_,_,_,_,_,_,_,_,_,_,_,_,_,_,_,_,_,_,_,_,_,_,_,_,_,_,_,_,rfl,H,HR,⟨World.grownBy.refl _ _⟩⟩ ?_
 clear HR H
 rintro kk a wq ⟨xs,u7,u8,u9,u10,u11,u12,u13,u14,u15,u16,u17,u18,u19,u20,u21,u22,u23,u24,u25,u26,u27,u28,u29,u30,u31,u32,u33,u34,u35,u36,u37,rfl,H,HR,HY⟩
 go_hide hQ
 replace hQ:=jM hQ
 have g3:wq.cell? ⟨gb,3,none⟩=some (.slice A3 l3.length c3):=HY.out.cell G3.out (by intro e;injection e with e;exact HGN.out e)
 go_wp2
 clear g3
 go_loopw [7,15] (fun v7 v15 wr=>∃ (k:Nat) (ch:Bool) (ys:List Bool),v7=.bool ch∧v15=.int .i64 k∧k≤l3.length∧Aside0 (Kd.R Kd.bool 4 wr base ok (.slice (some ⟨G,0,none⟩) n cap) ys)∧Aside0 (wy.grownBy wr (some G))∧Aside0 (passG false (moreB term) l3 (xs,false)=passG false (moreB term) (l3.drop k) (ys,ch))) (fun _ v15 _=>l3.length - (intOf v15).toNat)
 case atStart=>exact ⟨0,false,xs,rfl,rfl,Nat.zero_le _,HR,HY,⟨rfl⟩⟩
 case round =>
  obtain ⟨k,ch,ys,rfl,rfl,hk,HRR,HYR,HP⟩:=hrel
  have hmx:l3.length≤9223372036854775807:=HR3.out.2.1
  by_cases hlt:k < l3.length
  ·have hltb:decide (k < l3.length)=true:=decide_eq_true (by omega)
   have hbw:Aside0 (Below w.heap.size w wr):=⟨below_grownS HBEL.out HYR.out HG.out⟩
   obtain ⟨ad,A4,c4,e4,hx1,hx2,hx3,hx4,hcap,hr4⟩:=at_T68 (Kd.C_below HR3.out hbw.out) (k:Int) (by omega) (by omega)
   rw [Int.toNat_natCast] at hx1 hx2 hx3 hx4
   obtain ⟨p,hp⟩:∃ p,rd_T68 l3 k=p:=⟨_,rfl⟩
   rw [hp] at hx1 hx2 hx3 hx4 hr4
   have hpk:l3[k]=p:=by rw [← hp];unfold rd_T68;simp [List.getD,hlt]
   have hmem:p ∈ l3:=by rw [← hpk];exact List.getElem_mem hlt
   have HPK:=jM hpk
   have hsp:=jM (HS.out p hmem)
   have HR4:=jM hr4
   clear hp hpk hr4 hcap hmem
   subst e4
   obtain ⟨m,hm⟩:∃ m,moreB term ys p=m:=⟨_,rfl⟩
   obtain ⟨o,ho⟩:∃ o,rdOf false ys p.f1=o:=⟨_,rfl⟩
   have hstep:Aside0 (passG false (moreB term) l3 (xs,false)=passG false (moreB term) (l3.drop (k+1)) (if o=m then (ys,ch) else (ys.set p.f1.toNat m,true))):=⟨by rw [HP.out,passG_drop _ _ _ k hlt,HPK.out,ho,hm]⟩
   obtain ⟨nl,hnl⟩:∃ nl,p.f2.length=nl:=⟨_,rfl⟩
   obtain ⟨lab,hlab⟩:∃ lab,p.f0=lab:=⟨_,rfl⟩
   obtain ⟨srt,hsrt⟩:∃ srt,p.f1=srt:=⟨_,rfl⟩
   obtain ⟨cls,hcls⟩:∃ cls,p.f3=cls:=⟨_,rfl⟩
   have hcont:Aside0 (∀ wz:World,Below wr.heap.size wr wz→Calls Tryz.prog 65 #[.agg #[.string lab,.int .i64 srt,.slice A4 nl c4,.int .i64 cls],.pointer (some ⟨bt,0,none⟩),.pointer (some ⟨b5,0,none⟩)] wz fun e w'=>e=.returned (.tuple #[.int .i64 srt,.bool m])∧Below wz.heap.size wz w'∧w'.cell? ⟨G,srt.toNat,none⟩=some (.bool o)∧w'.frozen? ⟨G,srt.toNat,none⟩=false):=⟨fun wz hz=>by
    have hg2:wy.grownBy wz (some G):=grown_below HYR.out hz
    have hc:=all1_calls term bt b5 G n cap ys base ok p A4 c4 wz (hg2.cell Bt.out (by intro e;injection e with e;exact NB.out.1 e)) (hg2.cell B5.out (by intro e;injection e with e;exact NB.out.2 e)) (Kd.R_below HRR.out hz) (Kd.C_below HR4.out hz) hsp.out.2 hsp.out.1.1 hsp.out.1.2
    rw [hnl,hlab,hsrt,hcls,hm] at hc
    refine hc.mono ?_
    rintro e w2 ⟨rfl,hb2⟩
    have hcell:=Kd.R_celln false (Kd.R_below (Kd.R_below HRR.out hz) hb2) p.f1 hsp.out.1.1 hsp.out.1.2
    rw [ho,hsrt] at hcell
    exact ⟨rfl,hb2,hcell.1,hcell.2⟩⟩
   rw [hlab] at hx1
   rw [hsrt] at hx2
   rw [hnl] at hx3
   rw [hcls] at hx4
   have hsrt2:=jM hsrt
   rw [hsrt] at hsp
   have q0:(0≤srt)=True:=eq_true hsp.out.1.1
   have q1:(srt < (n:Int))=True:=eq_true hsp.out.1.2
   clear hm ho hlab hnl hcls hsrt
   go_upto_region 5 with fail
   have HZ2:Aside0 (Below wr.heap.size wr (wr.alloc (Obj.cells #[.string lab,.int .i64 srt,.slice A4 nl c4,.int .i64 cls] 68))):=⟨below_alloc (Below.refl _ _) _⟩
   have y0:(wr.alloc (Obj.cells #[.string lab,.int .i64 srt,.slice A4 nl c4,.int .i64 cls] 68)).cell? ⟨wr.heap.size,0,none⟩=some (.string lab):=by go_simp
   have y1:(wr.alloc (Obj.cells #[.string lab,.int .i64 srt,.slice A4 nl c4,.int .i64 cls] 68)).cell? ⟨wr.heap.size,1,none⟩=some (.int .i64 srt):=by go_simp
   have y2:(wr.alloc (Obj.cells #[.string lab,.int .i64 srt,.slice A4 nl c4,.int .i64 cls] 68)).cell? ⟨wr.heap.size,2,none⟩=some (.slice A4 nl c4):=by go_simp
   have y3:(wr.alloc (Obj.cells #[.string lab,.int .i64 srt,.slice A4 nl c4,.int .i64 cls] 68)).cell? ⟨wr.heap.size,3,none⟩=some (.int .i64 cls):=by go_simp
   generalize wr.alloc (Obj.cells #[.string lab,.int .i64 srt,.slice A4 nl c4,.int .i64 cls] 68)=wz at *
   clear hx1 hx2 hx3 hx4
   generalize hgy:wr.heap.size=gy at y0 y1 y2 y3 ⊢
   clear hgy
   have hcall:=hcont.out wz HZ2.out
   clear hcont
   replace hcall:=jM hcall
   have HYZ:=jM (grown_below HYR.out HZ2.out)
   have HRZ:=jM (Kd.R_below HRR.out HZ2.out)
   cases o <;> cases m
   ·go_wp2_with (go_at_call 65;refine hcall.out.mono ?_;rintro e w2 ⟨rfl,hb2,hc2,hf2⟩;replace hb2:=jM hb2)
    have hR2:=jM (Kd.R_below HRZ.out hb2.out)
    exact ⟨⟨k+1,ch,ys,rfl,rfl,by omega,hR2,⟨grown_below HYZ.out hb2.out⟩,⟨by rw [hstep.out];simp⟩⟩,by simp [intOf];omega⟩
   ·go_wp2_with (go_at_call 65;refine hcall.out.mono ?_;rintro e w2 ⟨rfl,hb2,hc2,hf2⟩;replace hb2:=jM hb2)
    have hR2:=jM (Kd.R_putn (Kd.R_below HRZ.out hb2.out) srt true)
    exact ⟨⟨k+1,true,ys.set srt.toNat true,rfl,rfl,by omega,hR2,⟨grown_put (grown_below HYZ.out hb2.out)⟩,⟨by rw [hstep.out,if_neg (by decide),hsrt2.out]⟩⟩,by simp [intOf];omega⟩
   ·go_wp2_with (go_at_call 65;refine hcall.out.mono ?_;rintro e w2 ⟨rfl,hb2,hc2,hf2⟩;replace hb2:=jM hb2)
    have hR2:=jM (Kd.R_putn (Kd.R_below HRZ.out hb2.out) srt false)
    exact ⟨⟨k+1,true,ys.set srt.toNat false,rfl,rfl,by omega,hR2,⟨grown_put (grown_below HYZ.out hb2.out)⟩,⟨by rw [hstep.out,if_neg (by decide),hsrt2.out]⟩⟩,by simp [intOf];omega⟩
   ·go_wp2_with (go_at_call 65;refine hcall.out.mono ?_;rintro e w2 ⟨rfl,hb2,hc2,hf2⟩;replace hb2:=jM hb2)
    have hR2:=jM (Kd.R_below HRZ.out hb2.out)
    exact ⟨⟨k+1,ch,ys,rfl,rfl,by omega,hR2,⟨grown_below HYZ.out hb2.out⟩,⟨by rw [hstep.out];simp⟩⟩,by simp [intOf];omega⟩
  ·have hltb:decide (k < l3.length)=false:=decide_eq_false (by omega)
   obtain ⟨k',rfl⟩:∃ k',kk=k'+1:=by
    cases kk with
    | zero=>have:=H.out;cases this
    | succ k'=>exact ⟨k',rfl⟩
   have HF:Aside0 (passG false (moreB term) l3 (xs,false)=(ys,ch)):=⟨by rw [HP.out,List.drop_eq_nil_of_le (by omega)];rfl⟩
   cases ch
   ·have HE:Aside0 (ys=r):=⟨by have:=H.out;unfold growG at this;rw [HF.out] at this;simpa using this⟩
    go_wp2
    rw [← hQ.out]
    simp only [Exit.jump]
    go_ret
    exact ⟨rfl,by rw [← HE.out];exact HRR.out,grown_of HZ.out HYR.out⟩
   ·have HE:Aside0 (growG false (moreB term) l3 k' ys=some r):=⟨by have:=H.out;unfold growG at this;rw [HF.out] at this;simpa using this⟩
    go_wp2
    go_step3
    rw [← hQ.out]
    exact ⟨rfl,k',Nat.lt_succ_self _,ys,_,_,_,_,_,_,_,_,_,_,_,_,_,_,_,_,_,_,_,_,_,_,_,_,_,_,_,_,_,_,_,rfl,HE,HRR,HYR⟩
end
def sets_all.f (k:Nat) (l0:List S65) (l1:List S73) (l2:List ByteArray) (l3:List S68) (st:Int) (term:Bool):Option (List Bool) :=
 if validB l0 l1 l2 l3 st=true then growG false (moreB term) l3 k (List.replicate l2.length false) else some []

theorem sets_all.mono (l0:List S65) (l1:List S73) (l2:List ByteArray) (l3:List S68) (st:Int) (term:Bool) (k:Nat):LeO (sets_all.f k l0 l1 l2 l3 st term) (sets_all.f (k+1) l0 l1 l2 l3 st term):=by
 unfold sets_all.f
 split
 ·exact growG_mono _ _ _ _ _
 ·exact fun _ h=>h

theorem valid_has {l0:List S65} {l1:List S73} {l2:List ByteArray} {l3:List S68} {st:Int} (h:validB l0 l1 l2 l3 st=true) :
  l2.length≤60∧(0≤st∧st < l2.length)∧∀ p ∈ l3,(0≤p.f1∧p.f1 < l2.length)∧∀ s ∈ p.f2,s < 0→0≤IntKind.i64.wrap (-1 - s)∧IntKind.i64.wrap (-1 - s) < l2.length:=by
 simp only [validB,Bool.and_eq_true,Bool.not_eq_true',decide_eq_false_iff_not,List.all_eq_true] at h
 obtain ⟨⟨⟨⟨⟨⟨⟨⟨h0,h1⟩,h2⟩,h3⟩,h4⟩,h5⟩, -⟩, -⟩, -⟩:=h
 refine ⟨by omega,by simpa [inB] using h3,fun p hp=>?_⟩
 have:=h5 p hp
 simp only [prodB,Bool.and_eq_true,Bool.not_eq_true',decide_eq_false_iff_not] at this
 obtain ⟨⟨h6,h7⟩,h8⟩:=this
 refine ⟨by simpa [inB] using h6,fun s hs hneg=>?_⟩
 have h9:¬ oddB l0.length l2.length s=true:=fun ho=>by
  have:p.f2.any (oddB l0.length l2.length)=true:=List.any_eq_true.2 ⟨s,hs,ho⟩
  rw [h8] at this;cases this
 have hn:decide (0≤s)=false:=decide_eq_false (by omega)
 have hy:decide (s < 0)=true:=decide_eq_true hneg
 simp only [oddB,hn,hy,Bool.false_and,Bool.false_or,Bool.true_and,Bool.not_eq_true',Bool.not_eq_true,Bool.not_eq_false] at h9
 simpa [inB] using h9

theorem below_of_grown0 {w w':World} (h:w.grownBy w' none):Below w.heap.size w w':=⟨h.os,h.tape,h.output,h.size,fun k hk=>h.block k hk (by simp)⟩

set_option maxHeartbeats 4000000 in
set_option maxRecDepth 100000 in
theorem sets_all.calls (k:Nat) (A0:Option Addr) (c0:Nat) (l0:List S65) (A1:Option Addr) (c1:Nat) (l1:List S73) (A2:Option Addr) (c2:Nat) (l2:List ByteArray) (A3:Option Addr) (c3:Nat) (l3:List S68) (st:Int) (term:Bool) (r:List Bool) (w:World)
  (hr0:Kd.C k65 w A0 l0.length l0) (hc0:l0.length≤c0) (hr1:Kd.C k73 w A1 l1.length l1) (hc1:l1.length≤c1) (hr2:Kd.C Kd.string w A2 l2.length l2) (hc2:l2.length≤c2) (hr3:Kd.C k68 w A3 l3.length l3) (hc3:l3.length≤c3)
  (h:sets_all.f k l0 l1 l2 l3 st term=some r) :
  Calls Tryz.prog 37 #[.agg #[.slice A0 l0.length c0,.slice A1 l1.length c1,.slice A2 l2.length c2,.slice A3 l3.length c3,.int .i64 st],.bool term] w fun e w'=>∃ v0_:Value,e=.returned v0_∧Kd.R Kd.bool 4 w' w.heap.size (fun _=>True) v0_ r∧Below w.heap.size w w':=by
 have HR0:=jM hr0
 have HR1:=jM hr1
 have HR2:=jM hr2
 have HR3:=jM hr3
 clear hr0 hr1 hr2 hr3 hc0 hc1 hc2 hc3
 obtain ⟨vb,hv⟩:∃ vb,validB l0 l1 l2 l3 st=vb:=⟨_,rfl⟩
 unfold sets_all.f at h
 rw [hv] at h
 have HV:=jM hv
 have H:=jM h
 have hu27:=Tryz.underlying27
 clear hv h
 go_enter Tryz.func37,Tryz.ntmps37
 go_upto_region 1 with fail
 have HB:Aside0 (Below w.heap.size w ((w.alloc (Obj.cells #[.slice A0 l0.length c0,.slice A1 l1.length c1,.slice A2 l2.length c2,.slice A3 l3.length c3,.int .i64 st] 27)).alloc (Obj.cells #[.bool term] 4))):=⟨below_alloc (below_alloc (Below.refl _ _) _) _⟩
 have f0:((w.alloc (Obj.cells #[.slice A0 l0.length c0,.slice A1 l1.length c1,.slice A2 l2.length c2,.slice A3 l3.length c3,.int .i64 st] 27)).alloc (Obj.cells #[.bool term] 4)).cell? ⟨w.heap.size,0,none⟩=some (.slice A0 l0.length c0):=by go_simp
 have f1:((w.alloc (Obj.cells #[.slice A0 l0.length c0,.slice A1 l1.length c1,.slice A2 l2.length c2,.slice A3 l3.length c3,.int .i64 st] 27)).alloc (Obj.cells #[.bool term] 4)).cell? ⟨w.heap.size,1,none⟩=some (.slice A1 l1.length c1):=by go_simp
 have f2:((w.alloc (Obj.cells #[.slice A0 l0.length c0,.slice A1 l1.length c1,.slice A2 l2.length c2,.slice A3 l3.length c3,.int .i64 st] 27)).alloc (Obj.cells #[.bool term] 4)).cell? ⟨w.heap.size,2,none⟩=some (.slice A2 l2.length c2):=by go_simp
 have f3:((w.alloc (Obj.cells #[.slice A0 l0.length c0,.slice A1 l1.length c1,.slice A2 l2.length c2,.slice A3 l3.length c3,.int .i64 st] 27)).alloc (Obj.cells #[.bool term] 4)).cell? ⟨w.heap.size,3,none⟩=some (.slice A3 l3.length c3):=by go_simp
 have f4:((w.alloc (Obj.cells #[.slice A0 l0.length c0,.slice A1 l1.length c1,.slice A2 l2.length c2,.slice A3 l3.length c3,.int .i64 st] 27)).alloc (Obj.cells #[.bool term] 4)).cell? ⟨w.heap.size,4,none⟩=some (.int .i64 st):=by go_simp
 have f5:((w.alloc (Obj.cells #[.slice A0 l0.length c0,.slice A1 l1.length c1,.slice A2 l2.length c2,.slice A3 l3.length c3,.int .i64 st] 27)).alloc (Obj.cells #[.bool term] 4)).cell? ⟨w.heap.size+1,0,none⟩=some (.bool term):=by go_simp
 have hsz:Aside0 (((w.alloc (Obj.cells #[.slice A0 l0.length c0,.slice A1 l1.length c1,.slice A2 l2.length c2,.slice A3 l3.length c3,.int .i64 st] 27)).alloc (Obj.cells #[.bool term] 4)).heap.size=w.heap.size+2):=⟨by simp⟩
 generalize ((w.alloc (Obj.cells #[.slice A0 l0.length c0,.slice A1 l1.length c1,.slice A2 l2.length c2,.slice A3 l3.length c3,.int .i64 st] 27)).alloc (Obj.cells #[.bool term] 4))=wy at *
 have E0:=jM f0
 have E1:=jM f1
 have E2:=jM f2
 have E3:=jM f3
 have E4:=jM f4
 have E5:=jM f5
 have HX:Aside0 (∃ gb gt:Nat,gb=w.heap.size∧gt=w.heap.size+1):=⟨_,_,rfl,rfl⟩
 generalize hgb:w.heap.size=gb at f0 f1 f2 f3 f4 f5 E0 E1 E2 E3 E4 E5 hsz ⊢
 obtain ⟨gt,hgt⟩:∃ gt,gb+1=gt:=⟨_,rfl⟩
 rw [hgt] at f5 E5 ⊢
 have HGT:Aside0 (gb < wy.heap.size∧gt < wy.heap.size):=⟨by have:=hsz.out;omega⟩
 clear hgb hgt hsz HX
 have hval:Aside0 (Calls Tryz.prog 27 #[.agg #[.slice A0 l0.length c0,.slice A1 l1.length c1,.slice A2 l2.length c2,.slice A3 l3.length c3,.int .i64 st]] wy fun e w'=>e=.returned (.bool vb)∧Below wy.heap.size wy w'):=⟨by
  have:=valid_calls A0 c0 l0 A1 c1 l1 A2 c2 l2 A3 c3 l3 st wy (Kd.C_below HR0.out HB.out) (Kd.C_below HR1.out HB.out) (Kd.C_below HR2.out HB.out) (Kd.C_below HR3.out HB.out)
  rwa [HV.out] at this⟩
 cases vb
 ·go_wp2_with (go_at_call 27;refine hval.out.mono ?_;rintro e w3 ⟨rfl,hb3⟩;replace hb3:=jM hb3)
  go_ret
  have hr:([]:List Bool)=r:=by have:=H.out;simpa using this
  subst hr
  exact ⟨_,rfl,Kd.R_nil _ _ _ _ _,below_step HB.out hb3.out⟩
 ·have HH:Aside0 (growG false (moreB term) l3 k (List.replicate l2.length false)=some r):=⟨by have:=H.out;simpa using this⟩
  have hvh:=jM (valid_has HV.out)
  have h60:(l2.length:Int)≤60:=by have:=hvh.out.1;omega
  have hpos:Aside0 (0 < l2.length):=⟨by have:=hvh.out.2.1;omega⟩
  clear H
  go_upto_region 4 with (first | (go_at_call 27;refine hval.out.mono ?_;rintro e w3 ⟨rfl,hb3⟩;have F2:=pw_cell_below hb3 E2.out;replace hb3:=jM hb3) | ((with_reducible refine gate_dst (N:=12) rfl ?_);refine Kd.R_make (w0:=w) Kd.bool w.heap.size 4 rfl (N:=12) rfl 61 _ _ rfl (l2.length:Int) rfl rfl Tryz.underlying61 (.bool false) 1 info4 rfl (by decide) (by omega) false (ok:=fun _=>True) (okp:=fun _=>True) rfl (fun _ hk=>hk) trivial (by omega) (by omega) (below_step HB.out hb3.out) (below_size (below_step HB.out hb3.out)) ?_;intro v1 w4 ho hb4 hg4 hnew4;rw [Int.toNat_natCast] at ho;obtain ⟨G,cap,hv1,hGb,hGs,hGc⟩:=Kd.R_form ho (by rw [List.length_replicate];exact hpos.out);rw [List.length_replicate] at hv1;subst hv1;replace ho:=jM ho;replace hb4:=jM hb4;replace hg4:=jM hg4;replace hnew4:=jM hnew4;replace hGb:=jM (And.intro hGb hGs);clear hGs hGc))
  have hmf:∀ (fn:Fn) (first cap:Array Value) (w:World),(Instr.makeFunc fn first cap).run Tryz.prog w=.ok (.func fn first cap) w:=fun _ _ _ _=>rfl
  have hG3:Aside0 (w3.heap.size≤G):=⟨by obtain ⟨b,e,hb⟩:=hnew4.out;simp only [Value.ownBlock] at e;injection e with e;rw [e];exact hb⟩
  have H34:Aside0 (Below w3.heap.size w3 (w4.alloc (Obj.cells #[.slice (some ⟨G,0,none⟩) l2.length cap] 61))):=⟨below_alloc (below_of_grown0 hg4.out) _⟩
  have Hy5:Aside0 (Below wy.heap.size wy (w4.alloc (Obj.cells #[.slice (some ⟨G,0,none⟩) l2.length cap] 61))):=⟨below_step hb3.out H34.out⟩
  have Hw5:Aside0 (Below w.heap.size w (w4.alloc (Obj.cells #[.slice (some ⟨G,0,none⟩) l2.length cap] 61))):=⟨below_alloc hb4.out _⟩
  have hR5:=jM (Kd.R_alloc ho.out (Obj.cells #[.slice (some ⟨G,0,none⟩) l2.length cap] 61))
  have q5:(w4.alloc (Obj.cells #[.slice (some ⟨G,0,none⟩) l2.length cap] 61)).cell? ⟨w4.heap.size,0,none⟩=some (.slice (some ⟨G,0,none⟩) l2.length cap):=by go_simp
  have hs5:Aside0 (w4.heap.size < (w4.alloc (Obj.cells #[.slice (some ⟨G,0,none⟩) l2.length cap] 61)).heap.size):=⟨by simp⟩
  have hb5n:Aside0 (w4.heap.size≠G):=⟨by have:=hGb.out.2;omega⟩
  have hgtn:Aside0 (gt≠G):=⟨by have:=hG3.out;have:=hb3.out.size;have:=HGT.out.2;omega⟩
  clear f0 f1 f2 f3 f4 f5 F2
  generalize (w4.alloc (Obj.cells #[.slice (some ⟨G,0,none⟩) l2.length cap] 61))=w5 at *
  generalize w4.heap.size=b5 at *
  have f0:=pw_cell_below Hy5.out E0.out
  have f1:=pw_cell_below Hy5.out E1.out
  have f2:=pw_cell_below Hy5.out E2.out
  have f3:=pw_cell_below Hy5.out E3.out
  have f4:=pw_cell_below Hy5.out E4.out
  have hgrow:=jM (grow_bool k term A0 c0 l0 A1 c1 l1 A2 c2 l2 A3 c3 l3 st gt b5 G l2.length cap w.heap.size (fun _=>True) (List.replicate l2.length false) r w w5 HR3.out Hw5.out hGb.out.1 (Nat.lt_trans hGb.out.2 hs5.out) (pw_cell_below Hy5.out E5.out) q5 hgtn.out hb5n.out hR5.out hvh.out.2.2 HH.out)
  go_wp2_with (go_at_call 64;refine hgrow.out.mono ?_;rintro e w6 ⟨rfl,hr6,hg6⟩;replace hr6:=jM hr6;replace hg6:=jM hg6)
  go_ret
  exact ⟨_,rfl,hr6.out,below_grownS Hw5.out hg6.out hGb.out.1⟩
end Go.Proofs.YtclollnicbcooaaGreatDoor.P
namespace Go.Proofs.YtclollnicbcooaaGreatDoor.P
open Go.RowKit YtclollnicbcooaaGreatDoorW.PrintWords YtclollnicbcooaaGreatDoorW.PrintLast YtclollnicbcooaaGreatDoorW.PrintMore
section
attribute [local go_sem] max2_int min2_int max_two min_two max_three min_three max_four min_four   -- for this text's walks alone

/-! ### sets_Empty: function 80 -/
def sets_Empty.f (k:Nat) (l0_0:List (S65)) (l0_1:List (S73)) (l0_2:List ByteArray) (l0_3:List (S68)) (a0_4:Int):Option (List Bool):=(sets_all.f k l0_0 l0_1 l0_2 l0_3 a0_4 false).bind fun t170=>(some t170)
theorem sets_Empty.mono:∀ a0 a1 a2 a3 a4 k,LeO (sets_Empty.f k a0 a1 a2 a3 a4) (sets_Empty.f (k+1) a0 a1 a2 a3 a4):=by
 intro a0 a1 a2 a3 a4 k
 unfold sets_Empty.f
 repeat' first
   | (with_reducible exact sets_all.mono _ _ _ _ _ _ _)
   | (with_reducible exact LeO.refl _)
   | (with_reducible exact LeO.none _)
   | (with_reducible refine LeO.ite ?_ ?_)
   | (with_reducible refine LeO.bind ?_ (fun _=>?_))
   | exact sets_all.mono _ _ _ _ _ _ _
   | exact LeO.none _
   | refine LeO.ite ?_ ?_
   | refine LeO.bind ?_ (fun _=>?_)
set_option maxHeartbeats 8000000 in
set_option maxRecDepth 100000 in
theorem sets_Empty.calls (k:Nat) (A0_0:Option Addr) (c0_0:Nat) (l0_0:List (S65)) (A0_1:Option Addr) (c0_1:Nat) (l0_1:List (S73)) (A0_2:Option Addr) (c0_2:Nat) (l0_2:List ByteArray) (A0_3:Option Addr) (c0_3:Nat) (l0_3:List (S68)) (a0_4:Int) (r:List Bool) (w:World) (hr0_0:Kd.C k65 w A0_0 l0_0.length l0_0) (hc0_0:l0_0.length≤c0_0) (hr0_1:Kd.C k73 w A0_1 l0_1.length l0_1) (hc0_1:l0_1.length≤c0_1) (hr0_2:Kd.C Kd.string w A0_2 l0_2.length l0_2) (hc0_2:l0_2.length≤c0_2) (hr0_3:Kd.C k68 w A0_3 l0_3.length l0_3) (hc0_3:l0_3.length≤c0_3) (h:sets_Empty.f k l0_0 l0_1 l0_2 l0_3 a0_4=some r) :
  Calls Tryz.prog 19 #[.agg #[.slice A0_0 l0_0.length c0_0,.slice A0_1 l0_1.length c0_1,.slice A0_2 l0_2.length c0_2,.slice A0_3 l0_3.length c0_3,.int .i64 a0_4]] w fun e w'=>∃ v0_:Value,e=.returned (v0_)∧Kd.R Kd.bool 4 w' w.heap.size (fun _=>True) v0_ r∧Below w.heap.size w w':=by
 have hu27:=Tryz.underlying27
 have HR0_0:=jM hr0_0
 have HC0_0:=jM hc0_0
 clear hr0_0 hc0_0
 have HR0_1:=jM hr0_1
 have HC0_1:=jM hc0_1
 clear hr0_1 hc0_1
 have HR0_2:=jM hr0_2
 have HC0_2:=jM hc0_2
 clear hr0_2 hc0_2
 have HR0_3:=jM hr0_3
 have HC0_3:=jM hc0_3
 clear hr0_3 hc0_3
 have HB:=jM (Below.refl w.heap.size w)
 have H:((sets_all.f k l0_0 l0_1 l0_2 l0_3 a0_4 false).bind fun t170=>(some t170))=some r:=h
 clear h
 replace H:=Option.bind_eq_some_iff.mp H
 obtain ⟨t170,A20,H⟩:=H
 replace H:(some t170)=some r:=H
 have A2:=jM A20
 clear A20
 obtain rfl:=Option.some.inj H
 go_enter Tryz.func19,Tryz.ntmps19
 go_wp2_with (first | ((with_reducible refine gate_dst (N:=1) rfl ?_);refine box_event ?hg (N:=1) ?hd (cs:=#[.slice A0_0 l0_0.length c0_0,.slice A0_1 l0_1.length c0_1,.slice A0_2 l0_2.length c0_2,.slice A0_3 l0_3.length c0_3,.int .i64 a0_4]) (t:=27) ?hr ?_;(case hd=>rfl);(case hg=>rfl);(case hr=>first | (go_simp;done) | (go_simp;rfl));intro gb169 hg w3 hbox hb;have n0_:=jM (below_step (by repeat (first | (with_reducible first | exact HB.out | apply below_alloc | apply pw_below_drewN | apply below_drew1) | exact HB.out)) hb);have n1_:=jM (hbox);have n2_:=jM ((by rw [hg];exact (below_size (by repeat (first | (with_reducible first | exact HB.out | apply below_alloc | apply pw_below_drewN | apply below_drew1) | exact HB.out))):w.heap.size≤gb169));have n3_:=jM ((by rw [hg];exact (below_size (by repeat (first | (with_reducible first | exact HB.out | apply below_alloc | apply pw_below_drewN | apply below_drew1) | exact HB.out))):w.heap.size≤gb169));clear HB;have HB:=n0_;have BK169:=n1_;have GW169:=n2_;have GE169:=n3_;clear n0_ n1_ n2_ n3_;clear hb hbox hg;have hcz4_0:w3.cell? ⟨gb169,0,none⟩=some (.slice A0_0 l0_0.length c0_0):=(blk_cell BK169.out 0).trans rfl;have hcz4_1:w3.cell? ⟨gb169,1,none⟩=some (.slice A0_1 l0_1.length c0_1):=(blk_cell BK169.out 1).trans rfl;have hcz4_2:w3.cell? ⟨gb169,2,none⟩=some (.slice A0_2 l0_2.length c0_2):=(blk_cell BK169.out 2).trans rfl;have hcz4_3:w3.cell? ⟨gb169,3,none⟩=some (.slice A0_3 l0_3.length c0_3):=(blk_cell BK169.out 3).trans rfl;have hcz4_4:w3.cell? ⟨gb169,4,none⟩=some (.int .i64 a0_4):=(blk_cell BK169.out 4).trans rfl;have hfz4_0:=blk_frozen BK169.out 0;have hfz4_1:=blk_frozen BK169.out 1;have hfz4_2:=blk_frozen BK169.out 2;have hfz4_3:=blk_frozen BK169.out 3;have hfz4_4:=blk_frozen BK169.out 4) | ((with_reducible refine gate_callee (f:=37) rfl ?_);refine goesL_ (some 4) rfl rfl Tryz.func37 (by kernel_rfl) rfl #[.agg #[.slice A0_0 l0_0.length c0_0,.slice A0_1 l0_1.length c0_1,.slice A0_2 l0_2.length c0_2,.slice A0_3 l0_3.length c0_3,.int .i64 a0_4],.bool false] rfl (by (try simp only [List.map_toArray,List.map_cons,List.map_nil]);first | done | rfl | (simp only [List.length_drop,List.length_take];rfl)) ?_;(with_reducible refine (sets_all.calls k _ _ l0_0 _ _ l0_1 _ _ l0_2 _ _ l0_3 a0_4 false t170 _ ?side1 ?side2 ?side3 ?side4 ?side5 ?side6 ?side7 ?side8 A2.out).mono ?_);(case side1=>repeat (first | exact (Kd.C_below HR0_0.out HB.out) | (with_reducible refine Kd.C_alloc ?_ _) | (with_reducible refine Kd.C_drewN ?_ _) | (with_reducible refine Kd.C_drew ?_)));(case side2=>exact HC0_0.out);(case side3=>repeat (first | exact (Kd.C_below HR0_1.out HB.out) | (with_reducible refine Kd.C_alloc ?_ _) | (with_reducible refine Kd.C_drewN ?_ _) | (with_reducible refine Kd.C_drew ?_)));(case side4=>exact HC0_1.out);(case side5=>repeat (first | exact (Kd.C_below HR0_2.out HB.out) | (with_reducible refine Kd.C_alloc ?_ _) | (with_reducible refine Kd.C_drewN ?_ _) | (with_reducible refine Kd.C_drew ?_)));(case side6=>exact HC0_2.out);(case side7=>repeat (first | exact (Kd.C_below HR0_3.out HB.out) | (with_reducible refine Kd.C_alloc ?_ _) | (with_reducible refine Kd.C_drewN ?_ _) | (with_reducible refine Kd.C_drew ?_)));(case side8=>exact HC0_3.out);rintro e w5 ⟨v171,rfl,ho0,hb⟩;refine ⟨_,rfl, ?_⟩;have n0_:=jM (Kd.R_lower ho0 (below_size (by repeat (first | (with_reducible first | exact HB.out | apply below_alloc | apply pw_below_drewN | apply below_drew1 | refine below_set ?_ GE169.out) | exact HB.out))));have n1_:=jM (blk_below (g:=gb169) (o:=.cells #[.slice A0_0 l0_0.length c0_0,.slice A0_1 l0_1.length c0_1,.slice A0_2 l0_2.length c0_2,.slice A0_3 l0_3.length c0_3,.int .i64 a0_4] 27 (0,0)) (by (with_reducible repeat (first | refine blk_drewN ?_ _ | refine blk_drew ?_ | refine blk_alloc ?_ _));exact BK169.out) hb);have n2_:=jM (below_step (by repeat (first | (with_reducible first | exact HB.out | apply below_alloc | apply pw_below_drewN | apply below_drew1 | refine below_set ?_ GE169.out) | exact HB.out)) hb);clear BK169;clear HB;have HO172:=n0_;have BK169:=n1_;have HB:=n2_;clear n0_ n1_ n2_;(try clear hb);(try clear hb2);(try clear hk);(try clear hi);(try clear ho0)))
 go_ret
 exact ⟨_,by first | rfl | (simp [errW_none,errW_some] <;> rfl) | (simp [*,errW_none,errW_some] <;> rfl),by (with_reducible repeat (first | apply Kd.R_alloc | apply Kd.R_drewN | apply Kd.R_drew));exact HO172.out,by repeat (first | (with_reducible first | exact HB.out | apply below_alloc | apply pw_below_drewN | apply below_drew1 | refine below_set ?_ GE169.out) | exact HB.out)⟩

-- NOT PRINTED: function 81 (api_Set)

-- NOT PRINTED: function 51 (sets_known)

/-! ### sets_Lives: function 29 -/
def sets_Lives.f (k:Nat) (l0_0:List (S65)) (l0_1:List (S73)) (l0_2:List ByteArray) (l0_3:List (S68)) (a0_4:Int):Option (List Bool):=(sets_all.f k l0_0 l0_1 l0_2 l0_3 a0_4 true).bind fun t252=>(some t252)
end
def rowF (nT nS:Int) (es:List Bool) (fs:List Int) (behind:Int):List Int→Int→Option Int
 | [],out=>bits_Union.f out behind
 | s :: l,out=>if nT≤s ∨ s < -nS then some out else if 0≤s then bits_With.f out s else
   (bits_Union.f out (rd fs (-1 - s))).bind fun o=>if rdOf false es (-1 - s)=true then rowF nT nS es fs behind l o else some o

theorem rowF_drop (nT nS:Int) (es:List Bool) (fs:List Int) (behind:Int) (l:List Int) (k:Nat) (hk:k < l.length) (out:Int) :
  rowF nT nS es fs behind (l.drop k) out=if nT≤l[k] ∨ l[k] < -nS then some out else if 0≤l[k] then bits_With.f out l[k] else
   (bits_Union.f out (rd fs (-1 - l[k]))).bind fun o=>if rdOf false es (-1 - l[k])=true then rowF nT nS es fs behind (l.drop (k+1)) o else some o:=by
 rw [List.drop_eq_getElem_cons hk];rfl

set_option maxHeartbeats 4000000 in
set_option maxRecDepth 100000 in
theorem row_calls (tb nT nS:Nat) (A0 A2 E F:Option Addr) (c0 c2 cE cF:Nat) (es:List Bool) (fs:List Int) (A:Option Addr) (c:Nat) (l:List Int) (behind r:Int) (w:World)
  (hl:Kd.C (Kd.int .i64) w A l.length l) (hnS:nS≤60) (ht0:w.cell? ⟨tb,0,none⟩=some (.slice A0 nT c0)) (ht2:w.cell? ⟨tb,2,none⟩=some (.slice A2 nS c2)) (ht5:w.cell? ⟨tb,5,none⟩=some (.slice E nS cE)) (ht6:w.cell? ⟨tb,6,none⟩=some (.slice F nS cF))
  (hE:Kd.C Kd.bool w E nS es) (hF:Kd.C (Kd.int .u64) w F nS fs) (h:rowF nT nS es fs behind l 0=some r) :
  Calls Tryz.prog 82 #[.pointer (some ⟨tb,0,none⟩),.slice A l.length c,.int .u64 behind] w fun e w'=>e=.returned (.int .u64 r)∧Drawn0 w w':=by
 have HL:=jM hl
 have HE:=jM hE
 have HF:=jM hF
 have H:=jM h
 have hmx:l.length≤9223372036854775807:=hl.2.1
 have hu156:=Tryz.underlying156
 have hu27:=Tryz.underlying27
 have hneg:IntKind.i64.wrap (-(nS:Int))=-(nS:Int):=IntWalk.i64_in _ (by omega)
 have HnS:=jM hnS
 clear hl hE hF h hnS
 go_enter Tryz.func82,Tryz.ntmps82
 go_wp2
 go_loopw [7,12] (fun v7 v12 wr=>∃ (k:Nat) (out:Int),v7=.int .u64 out∧v12=.int .i64 k∧k≤l.length∧Aside0 (rowF nT nS es fs behind (l.drop k) out=some r)∧Aside0 (∃ m,wr=w.drewN m)) (fun _ v12 _=>l.length - (intOf v12).toNat)
 case atStart=>exact ⟨0,0,rfl,rfl,Nat.zero_le _,⟨by rw [List.drop_zero];exact H.out⟩,⟨⟨0,rfl⟩⟩⟩
 case round =>
  obtain ⟨k,out,rfl,rfl,hk,HT,⟨m,rfl⟩⟩:=hrel
  by_cases hlt:k < l.length
  ·have hltb:decide (k < l.length)=true:=decide_eq_true (by omega)
   obtain ⟨ad,e1,hx1⟩:=Kd.at_int HL.out (k:Int) (by omega) (by omega)
   rw [Int.toNat_natCast] at hx1
   have hrk:rd l (k:Int)=l[k]:=by unfold rd;simp [List.getD,hlt]
   obtain ⟨s,hs⟩:∃ s,l[k]=s:=⟨_,rfl⟩
   rw [hrk,hs] at hx1
   have HT2:=HT.out
   rw [rowF_drop _ _ _ _ _ l k hlt,hs] at HT2
   clear hrk hs
   subst e1
   by_cases h1:(nT:Int)≤s
   ·rw [if_pos (.inl h1)] at HT2
    replace HT2:=jM HT2
    go_wp2
    go_ret
    exact ⟨by have:=HT2.out;injection this with this;rw [← this];rfl,⟨_,rfl⟩⟩
   ·by_cases h2:s < -(nS:Int)
    ·rw [if_pos (.inr h2)] at HT2
     replace HT2:=jM HT2
     have h2b:decide (s < -(nS:Int))=true:=decide_eq_true h2
     go_wp2
     go_ret
     exact ⟨by have:=HT2.out;injection this with this;rw [← this];rfl,⟨_,rfl⟩⟩
    ·rw [if_neg (by rintro (h | h) <;> omega)] at HT2
     have h2b:decide (s < -(nS:Int))=false:=decide_eq_false h2
     by_cases h3:0≤s
     ·rw [if_pos h3] at HT2
      replace HT2:=jM HT2
      have h3b:decide (0≤s)=true:=decide_eq_true h3
      go_wp2_with (go_at_call 15;refine (bits_With.calls _ _ _ _ HT2.out).mono ?_;rintro e wx ⟨rfl,m2,rfl⟩)
      go_ret
      exact ⟨rfl,⟨_,rfl⟩⟩
     ·rw [if_neg h3] at HT2
      have h3b:decide (0≤s)=false:=decide_eq_false h3
      obtain ⟨j,hj⟩:∃ j, -1 - s=j:=⟨_,rfl⟩
      have hw:IntKind.i64.wrap (-1 - s)=j:=by rw [IntWalk.i64_in _ (by have:=HnS.out;omega)];exact hj
      obtain ⟨adf,e2,hx2⟩:=Kd.at_int HF.out j (by omega) (by omega)
      obtain ⟨ade,e3,hx3⟩:=Kd.at_bool HE.out j (by omega) (by omega)
      subst e2
      subst e3
      rw [hj] at HT2
      have q0:(0≤j)=True:=eq_true (by omega)
      have q1:(j < (nS:Int))=True:=eq_true (by omega)
      obtain ⟨o,ho⟩:∃ o,rdOf false es j=o:=⟨_,rfl⟩
      obtain ⟨u,hu⟩:∃ u,bits_Union.f out (rd fs j)=some u:=⟨_,rfl⟩
      rw [ho] at HT2 hx3
      rw [hu] at HT2
      have HU:=jM hu
      clear ho hu hj
      cases o
      ·replace HT2:Aside0 (some u=some r):=⟨by simpa using HT2⟩
       go_wp2_with (go_at_call 78;refine (bits_Union.calls _ _ _ _ HU.out).mono ?_;rintro e wx ⟨rfl,m2,rfl⟩)
       go_ret
       exact ⟨by have:=HT2.out;injection this with this;rw [← this];rfl,⟨_,rfl⟩⟩
      ·replace HT2:Aside0 (rowF nT nS es fs behind (l.drop (k+1)) u=some r):=⟨by simpa using HT2⟩
       go_wp2_with (go_at_call 78;refine (bits_Union.calls _ _ _ _ HU.out).mono ?_;rintro e wx ⟨rfl,m2,rfl⟩)
       exact ⟨⟨k+1,u,rfl,rfl,by omega,HT2,⟨⟨_,rfl⟩⟩⟩,by simp [intOf];omega⟩
  ·have hltb:decide (k < l.length)=false:=decide_eq_false (by omega)
   have HU:Aside0 (bits_Union.f out behind=some r):=⟨by have:=HT.out;rwa [List.drop_eq_nil_of_le (by omega)] at this⟩
   go_wp2_with (go_at_call 78;refine (bits_Union.calls _ _ _ _ HU.out).mono ?_;rintro e wx ⟨rfl,m2,rfl⟩)
   go_ret
   exact ⟨rfl,⟨_,rfl⟩⟩
end Go.Proofs.YtclollnicbcooaaGreatDoor.P
namespace Go.Proofs.YtclollnicbcooaaGreatDoor.P
open YtclollnicbcooaaGreatDoor.Base Go.RowKit YtclollnicbcooaaGreatDoorW.PrintWords YtclollnicbcooaaGreatDoorW.PrintLast YtclollnicbcooaaGreatDoorW.PrintMore
def moreS (nT nS:Int) (es:List Bool) (xs:List Int) (p:S68):Int:=Go.bits .or .u64 (rdOf 0 xs p.f1) ((rowF nT nS es xs 0 p.f2 0).getD 0)

theorem below_drawn {w w':World} (h:Drawn0 w w'):Below w.heap.size w w':=by
 obtain ⟨m,rfl⟩:=h;exact pw_below_drewN (Below.refl _ _) m

set_option maxHeartbeats 4000000 in
set_option maxRecDepth 100000 in
theorem known1_calls (b3 tb nT nS G cap:Nat) (A0 A2 E:Option Addr) (c0 c2 cE:Nat) (es:List Bool) (xs:List Int) (base:Nat) (ok:Nat→Prop) (p:S68) (A:Option Addr) (c:Nat) (w:World)
  (hnS:nS≤60) (h3:w.cell? ⟨b3,0,none⟩=some (.pointer (some ⟨tb,0,none⟩))) (ht0:w.cell? ⟨tb,0,none⟩=some (.slice A0 nT c0)) (ht2:w.cell? ⟨tb,2,none⟩=some (.slice A2 nS c2)) (ht5:w.cell? ⟨tb,5,none⟩=some (.slice E nS cE)) (ht6:w.cell? ⟨tb,6,none⟩=some (.slice (some ⟨G,0,none⟩) nS cap))
  (hE:Kd.C Kd.bool w E nS es) (hR:Kd.R (Kd.int .u64) 48 w base ok (.slice (some ⟨G,0,none⟩) nS cap) xs) (hp:Kd.C (Kd.int .i64) w A p.f2.length p.f2) (h0:0≤p.f1) (h1:p.f1 < nS) (hq:∃ q,rowF nT nS es xs 0 p.f2 0=some q) :
  Calls Tryz.prog 92 #[.agg #[.string p.f0,.int .i64 p.f1,.slice A p.f2.length c,.int .i64 p.f3],.pointer (some ⟨b3,0,none⟩)] w fun e w'=>e=.returned (.tuple #[.int .i64 p.f1,.int .u64 (moreS nT nS es xs p)])∧Below w.heap.size w w':=by
 obtain ⟨q,hq⟩:=hq
 have hmo:Aside0 (moreS nT nS es xs p=Go.bits .or .u64 (rdOf 0 xs p.f1) q):=⟨by unfold moreS;rw [hq];rfl⟩
 have hcell:=(Kd.R_celln 0 hR p.f1 h0 h1).1
 have hC:=(Kd.R_reads' hR).2.2
 rw [← (Kd.R_reads' hR).1] at hC
 have hrow:=fun (w':World) (hb:Below w.heap.size w w')=>row_calls tb nT nS A0 A2 E (some ⟨G,0,none⟩) c0 c2 cE cap es xs A c p.f2 0 q w' (Kd.C_below hp hb) hnS (pw_cell_below hb ht0) (pw_cell_below hb ht2) (pw_cell_below hb ht5) (pw_cell_below hb ht6) (Kd.C_below hE hb) (Kd.C_below hC hb) hq
 have q0:(0≤p.f1)=True:=eq_true h0
 have q1:(p.f1 < (nS:Int))=True:=eq_true h1
 obtain ⟨o,ho⟩:∃ o,rdOf 0 xs p.f1=o:=⟨_,rfl⟩
 obtain ⟨nl,hnl⟩:∃ nl,p.f2.length=nl:=⟨_,rfl⟩
 obtain ⟨lab,hlab⟩:∃ lab,p.f0=lab:=⟨_,rfl⟩
 obtain ⟨srt,hsrt⟩:∃ srt,p.f1=srt:=⟨_,rfl⟩
 obtain ⟨cls,hcls⟩:∃ cls,p.f3=cls:=⟨_,rfl⟩
 have HMO:Aside0 (moreS nT nS es xs p=Go.bits .or .u64 o q):=⟨by rw [hmo.out,ho]⟩
 rw [ho] at hcell
 rw [hsrt] at hcell q0 q1
 rw [hnl] at hrow
 rw [hnl,hlab,hsrt,hcls]
 replace hrow:=jM hrow
 have hu68:=Tryz.underlying68
 have hu156:=Tryz.underlying156
 clear hmo ho hnl hlab hsrt hcls h0 h1 hnS hE hR hp hC hq ht0 ht2 ht5
 go_enter Tryz.func92,Tryz.ntmps92
 go_upto_region 1 with fail
 have HZ:Aside0 (Below w.heap.size w (w.alloc (Obj.cells #[.string lab,.int .i64 srt,.slice A nl c,.int .i64 cls] 68))):=⟨below_alloc (Below.refl _ _) _⟩
 have g1:(w.alloc (Obj.cells #[.string lab,.int .i64 srt,.slice A nl c,.int .i64 cls] 68)).cell? ⟨w.heap.size,1,none⟩=some (.int .i64 srt):=by go_simp
 have g2:(w.alloc (Obj.cells #[.string lab,.int .i64 srt,.slice A nl c,.int .i64 cls] 68)).cell? ⟨w.heap.size,2,none⟩=some (.slice A nl c):=by go_simp
 generalize w.alloc (Obj.cells #[.string lab,.int .i64 srt,.slice A nl c,.int .i64 cls] 68)=wy at *
 replace h3:=cell_below (pw_cell_below HZ.out h3)
 replace ht6:=cell_below (pw_cell_below HZ.out ht6)
 replace hcell:=cell_below (pw_cell_below HZ.out hcell)
 replace g1:=cell_below g1
 replace g2:=cell_below g2
 generalize hg:w.heap.size=gy at g1 g2 ⊢
 clear hg
 refine wp_region_below (by kernel_rfl) (by kernel_rfl) ?_
 repeat (refine wpQuiet_step (fun K hK=>?_);go_simp;(first | (refine hK _ ?_;clear hK K) | (apply Exists.intro;refine ⟨fun wc hwc=>?_,hK _ ?_⟩;(first | exact rfl | (first | (go_at_call 82;exact calls_below hwc hwc.size ((hrow.out _ (below_step HZ.out hwc)).mono fun _ _ h=>⟨h.1,below_drawn h.2⟩)) | (go_at_call 78;exact calls_below hwc hwc.size ((bits_Union.calls _ _ _ _ rfl).mono fun _ _ h=>⟨h.1,below_drawn h.2⟩))) | (go_simp;exact rfl));clear hK K)))
 refine wpQuiet_nil ?_
 intro wq hwq
 go_wp2
 go_ret2
 exact ⟨by rw [HMO.out];rfl,below_step HZ.out hwq⟩
set_option maxHeartbeats 4000000 in
set_option maxRecDepth 100000 in
theorem grow_set (k0 tb nT nS:Nat) (B0 B2 E:Option Addr) (d0 d2 dE:Nat) (es:List Bool) (A0:Option Addr) (c0:Nat) (l0:List S65) (A1:Option Addr) (c1:Nat) (l1:List S73) (A2:Option Addr) (c2:Nat) (l2:List ByteArray) (A3:Option Addr) (c3:Nat) (l3:List S68) (st:Int)
  (b3 G cap base:Nat) (ok:Nat→Prop) (x0 r:List Int) (w W:World) (hr3:Kd.C k68 w A3 l3.length l3) (hbel:Below w.heap.size w W) (hG:w.heap.size≤G) (hGW:G < W.heap.size)
  (hnS:nS≤60) (h3:W.cell? ⟨b3,0,none⟩=some (.pointer (some ⟨tb,0,none⟩))) (ht0:W.cell? ⟨tb,0,none⟩=some (.slice B0 nT d0)) (ht2:W.cell? ⟨tb,2,none⟩=some (.slice B2 nS d2)) (ht5:W.cell? ⟨tb,5,none⟩=some (.slice E nS dE)) (ht6:W.cell? ⟨tb,6,none⟩=some (.slice (some ⟨G,0,none⟩) nS cap)) (hE:∀ wz:World,W.grownBy wz (some G)→Kd.C Kd.bool wz E nS es) (h3G:b3≠G) (htG:tb≠G)
  (hR:Kd.R (Kd.int .u64) 48 W base ok (.slice (some ⟨G,0,none⟩) nS cap) x0)
  (hs:∀ p ∈ l3,(0≤p.f1∧p.f1 < nS)∧∀ xs,∃ q,rowF nT nS es xs 0 p.f2 0=some q)
  (h:growG (0:Int) (moreS nT nS es) l3 k0 x0=some r) :
  Calls Tryz.prog 91 #[.agg #[.slice A0 l0.length c0,.slice A1 l1.length c1,.slice A2 l2.length c2,.slice A3 l3.length c3,.int .i64 st],.slice (some ⟨G,0,none⟩) nS cap,.func (.func 92) #[] #[.pointer (some ⟨b3,0,none⟩)]] W
   fun e w'=>e=.returned (.slice (some ⟨G,0,none⟩) nS cap)∧Kd.R (Kd.int .u64) 48 w' base ok (.slice (some ⟨G,0,none⟩) nS cap) r∧W.grownBy w' (some G):=by
 have HR:=jM hR
 have HR3:=jM hr3
 have HS:=jM hs
 have HBEL:=jM hbel
 have HG:=jM hG
 have HGW:=jM hGW
 have Bt:=jM (And.intro h3 (And.intro ht0 (And.intro ht2 (And.intro ht5 ht6))))
 have NB:=jM (And.intro h3G htG)
 have HE0:=jM hE
 have HNS:=jM hnS
 have H:=jM h
 have hu:=Tryz.underlying68
 have hu27:=Tryz.underlying27
 clear hR hr3 hs hbel hG hGW h3 ht0 ht2 ht5 ht6 hE h3G htG hnS h
 go_enter Tryz.func91,Tryz.ntmps91
 go_wp2
 have HZ:Aside0 (Below W.heap.size W (W.alloc (Obj.cells #[.slice A0 l0.length c0,.slice A1 l1.length c1,.slice A2 l2.length c2,.slice A3 l3.length c3,.int .i64 st] 27))):=⟨below_alloc (Below.refl _ _) _⟩
 have G3:Aside0 ((W.alloc (Obj.cells #[.slice A0 l0.length c0,.slice A1 l1.length c1,.slice A2 l2.length c2,.slice A3 l3.length c3,.int .i64 st] 27)).cell? ⟨W.heap.size,3,none⟩=some (.slice A3 l3.length c3)):=⟨by go_simp⟩
 generalize W.alloc (Obj.cells #[.slice A0 l0.length c0,.slice A1 l1.length c1,.slice A2 l2.length c2,.slice A3 l3.length c3,.int .i64 st] 27)=wy at *
 replace HR:=jM (Kd.R_below HR.out HZ.out)
 have HEE:Aside0 (∀ wz:World,wy.grownBy wz (some G)→Kd.C Kd.bool wz E nS es):=⟨fun wz hz=>HE0.out wz (grown_of HZ.out hz)⟩
 clear HE0
 replace Bt:=jM (And.intro (pw_cell_below HZ.out Bt.out.1) (And.intro (pw_cell_below HZ.out Bt.out.2.1) (And.intro (pw_cell_below HZ.out Bt.out.2.2.1) (And.intro (pw_cell_below HZ.out Bt.out.2.2.2.1) (pw_cell_below HZ.out Bt.out.2.2.2.2)))))
 replace HBEL:=jM (below_step HBEL.out HZ.out)
 have HGN:Aside0 (W.heap.size≠G):=⟨by have:=HGW.out;omega⟩
 generalize hg:W.heap.size=gb at G3 HGN ⊢
 clear hg
 obtain ⟨vg,hvg⟩:∃ vg:Value,vg=.agg #[.slice A0 l0.length c0,.slice A1 l1.length c1,.slice A2 l2.length c2,.slice A3 l3.length c3,.int .i64 st]:=⟨_,rfl⟩
 rw [← hvg]
 clear hvg
 refine wp_scope_label 0 k0 (fun k a wr=>∃ (xs:List Int) (u7 u8 u9 u10 u11 u12 u13 u14 u15 u16 u17 u18 u19 u20 u21 u22 u23 u24 u25 u26 u27 u28 u29 u30 u31 u32 u33 u34 u35 u36 u37:Value),a={ tmps:=#[vg,.slice (some ⟨G,0,none⟩) nS cap,.func (.func 92) #[] #[.pointer (some ⟨b3,0,none⟩)],.pointer (some ⟨gb,0,none⟩),undef,undef,.slice none 0 0,u7,u8,u9,u10,u11,u12,u13,u14,u15,u16,u17,u18,u19,u20,u21,u22,u23,u24,u25,u26,u27,u28,u29,u30,u31,u32,u33,u34,u35,u36,u37],defers:=[] }∧Aside0 (growG (0:Int) (moreS nT nS es) l3 k xs=some r)∧Aside0 (Kd.R (Kd.int .u64) 48 wr base ok (.slice (some ⟨G,0,none⟩) nS cap) xs)∧Aside0 (wy.grownBy wr (some G))) ⟨x0,_,_,_,_,_,_,_,_,_,_,_,_,_,_,_,_,_,_,_,_,_,_,_,_,_,_,_,_,_,_,_,rfl,H,HR,⟨World.grownBy.refl _ _⟩⟩ ?_
 clear HR H
 rintro kk a wq ⟨xs,u7,u8,u9,u10,u11,u12,u13,u14,u15,u16,u17,u18,u19,u20,u21,u22,u23,u24,u25,u26,u27,u28,u29,u30,u31,u32,u33,u34,u35,u36,u37,rfl,H,HR,HY⟩
 go_hide hQ
 replace hQ:=jM hQ
 have g3:wq.cell? ⟨gb,3,none⟩=some (.slice A3 l3.length c3):=HY.out.cell G3.out (by intro e;injection e with e;exact HGN.out e)
 go_wp2
 clear g3
 go_loopw [7,15] (fun v7 v15 wr=>∃ (k:Nat) (ch:Bool) (ys:List Int),v7=.bool ch∧v15=.int .i64 k∧k≤l3.length∧Aside0 (Kd.R (Kd.int .u64) 48 wr base ok (.slice (some ⟨G,0,none⟩) nS cap) ys)∧Aside0 (wy.grownBy wr (some G))∧Aside0 (passG (0:Int) (moreS nT nS es) l3 (xs,false)=passG (0:Int) (moreS nT nS es) (l3.drop k) (ys,ch))) (fun _ v15 _=>l3.length - (intOf v15).toNat)
 case atStart=>exact ⟨0,false,xs,rfl,rfl,Nat.zero_le _,HR,HY,⟨rfl⟩⟩
 case round =>
  obtain ⟨k,ch,ys,rfl,rfl,hk,HRR,HYR,HP⟩:=hrel
  have hmx:l3.length≤9223372036854775807:=HR3.out.2.1
  by_cases hlt:k < l3.length
  ·have hltb:decide (k < l3.length)=true:=decide_eq_true (by omega)
   have hbw:Aside0 (Below w.heap.size w wr):=⟨below_grownS HBEL.out HYR.out HG.out⟩
   obtain ⟨ad,A4,c4,e4,hx1,hx2,hx3,hx4,hcap,hr4⟩:=at_T68 (Kd.C_below HR3.out hbw.out) (k:Int) (by omega) (by omega)
   rw [Int.toNat_natCast] at hx1 hx2 hx3 hx4
   obtain ⟨p,hp⟩:∃ p,rd_T68 l3 k=p:=⟨_,rfl⟩
   rw [hp] at hx1 hx2 hx3 hx4 hr4
   have hpk:l3[k]=p:=by rw [← hp];unfold rd_T68;simp [List.getD,hlt]
   have hmem:p ∈ l3:=by rw [← hpk];exact List.getElem_mem hlt
   have HPK:=jM hpk
   have hsp:=jM (HS.out p hmem)
   have HR4:=jM hr4
   clear hp hpk hr4 hcap hmem
   subst e4
   obtain ⟨m,hm⟩:∃ m,moreS nT nS es ys p=m:=⟨_,rfl⟩
   obtain ⟨o,ho⟩:∃ o,rdOf 0 ys p.f1=o:=⟨_,rfl⟩
   have hstep:Aside0 (passG (0:Int) (moreS nT nS es) l3 (xs,false)=passG (0:Int) (moreS nT nS es) (l3.drop (k+1)) (if o=m then (ys,ch) else (ys.set p.f1.toNat m,true))):=⟨by rw [HP.out,passG_drop _ _ _ k hlt,HPK.out,ho,hm]⟩
   obtain ⟨nl,hnl⟩:∃ nl,p.f2.length=nl:=⟨_,rfl⟩
   obtain ⟨lab,hlab⟩:∃ lab,p.f0=lab:=⟨_,rfl⟩
   obtain ⟨srt,hsrt⟩:∃ srt,p.f1=srt:=⟨_,rfl⟩
   obtain ⟨cls,hcls⟩:∃ cls,p.f3=cls:=⟨_,rfl⟩
   have hcont:Aside0 (∀ wz:World,Below wr.heap.size wr wz→Calls Tryz.prog 92 #[.agg #[.string lab,.int .i64 srt,.slice A4 nl c4,.int .i64 cls],.pointer (some ⟨b3,0,none⟩)] wz fun e w'=>e=.returned (.tuple #[.int .i64 srt,.int .u64 m])∧Below wz.heap.size wz w'∧w'.cell? ⟨G,srt.toNat,none⟩=some (.int .u64 o)∧w'.frozen? ⟨G,srt.toNat,none⟩=false):=⟨fun wz hz=>by
    have hg2:wy.grownBy wz (some G):=grown_below HYR.out hz
    have hc:=known1_calls b3 tb nT nS G cap B0 B2 E d0 d2 dE es ys base ok p A4 c4 wz HNS.out (hg2.cell Bt.out.1 (by intro e;injection e with e;exact NB.out.1 e)) (hg2.cell Bt.out.2.1 (by intro e;injection e with e;exact NB.out.2 e)) (hg2.cell Bt.out.2.2.1 (by intro e;injection e with e;exact NB.out.2 e)) (hg2.cell Bt.out.2.2.2.1 (by intro e;injection e with e;exact NB.out.2 e)) (hg2.cell Bt.out.2.2.2.2 (by intro e;injection e with e;exact NB.out.2 e)) (HEE.out wz hg2) (Kd.R_below HRR.out hz) (Kd.C_below HR4.out hz) hsp.out.1.1 hsp.out.1.2 (hsp.out.2 ys)
    rw [hnl,hlab,hsrt,hcls,hm] at hc
    refine hc.mono ?_
    rintro e w2 ⟨rfl,hb2⟩
    have hcell:=Kd.R_celln 0 (Kd.R_below (Kd.R_below HRR.out hz) hb2) p.f1 hsp.out.1.1 hsp.out.1.2
    rw [ho,hsrt] at hcell
    exact ⟨rfl,hb2,hcell.1,hcell.2⟩⟩
   rw [hlab] at hx1
   rw [hsrt] at hx2
   rw [hnl] at hx3
   rw [hcls] at hx4
   have hsrt2:=jM hsrt
   rw [hsrt] at hsp
   have q0:(0≤srt)=True:=eq_true hsp.out.1.1
   have q1:(srt < (nS:Int))=True:=eq_true hsp.out.1.2
   clear hm ho hlab hnl hcls hsrt
   go_upto_region 5 with fail
   have HZ2:Aside0 (Below wr.heap.size wr (wr.alloc (Obj.cells #[.string lab,.int .i64 srt,.slice A4 nl c4,.int .i64 cls] 68))):=⟨below_alloc (Below.refl _ _) _⟩
   have y0:(wr.alloc (Obj.cells #[.string lab,.int .i64 srt,.slice A4 nl c4,.int .i64 cls] 68)).cell? ⟨wr.heap.size,0,none⟩=some (.string lab):=by go_simp
   have y1:(wr.alloc (Obj.cells #[.string lab,.int .i64 srt,.slice A4 nl c4,.int .i64 cls] 68)).cell? ⟨wr.heap.size,1,none⟩=some (.int .i64 srt):=by go_simp
   have y2:(wr.alloc (Obj.cells #[.string lab,.int .i64 srt,.slice A4 nl c4,.int .i64 cls] 68)).cell? ⟨wr.heap.size,2,none⟩=some (.slice A4 nl c4):=by go_simp
   have y3:(wr.alloc (Obj.cells #[.string lab,.int .i64 srt,.slice A4 nl c4,.int .i64 cls] 68)).cell? ⟨wr.heap.size,3,none⟩=some (.int .i64 cls):=by go_simp
   generalize wr.alloc (Obj.cells #[.string lab,.int .i64 srt,.slice A4 nl c4,.int .i64 cls] 68)=wz at *
   clear hx1 hx2 hx3 hx4
   generalize hgy:wr.heap.size=gy at y0 y1 y2 y3 ⊢
   clear hgy
   have hcall:=hcont.out wz HZ2.out
   clear hcont
   replace hcall:=jM hcall
   have HYZ:=jM (grown_below HYR.out HZ2.out)
   have HRZ:=jM (Kd.R_below HRR.out HZ2.out)
   by_cases hom:o=m
   ·subst hom
    go_wp2_with (go_at_call 92;refine hcall.out.mono ?_;rintro e w2 ⟨rfl,hb2,hc2,hf2⟩;replace hb2:=jM hb2)
    have hR2:=jM (Kd.R_below HRZ.out hb2.out)
    exact ⟨⟨k+1,ch,ys,rfl,rfl,by omega,hR2,⟨grown_below HYZ.out hb2.out⟩,⟨by rw [hstep.out];simp⟩⟩,by simp [intOf];omega⟩
   ·have hom1:decide (o=m)=false:=decide_eq_false hom
    have hom2:(o != m)=true:=by simp [hom]
    go_wp2_with (go_at_call 92;refine hcall.out.mono ?_;rintro e w2 ⟨rfl,hb2,hc2,hf2⟩;replace hb2:=jM hb2)
    have hR2:=jM (Kd.R_putn (Kd.R_below HRZ.out hb2.out) srt m)
    exact ⟨⟨k+1,true,ys.set srt.toNat m,rfl,rfl,by omega,hR2,⟨grown_put (grown_below HYZ.out hb2.out)⟩,⟨by rw [hstep.out,if_neg hom,hsrt2.out]⟩⟩,by simp [intOf];omega⟩
  ·have hltb:decide (k < l3.length)=false:=decide_eq_false (by omega)
   obtain ⟨k',rfl⟩:∃ k',kk=k'+1:=by
    cases kk with
    | zero=>have:=H.out;cases this
    | succ k'=>exact ⟨k',rfl⟩
   have HF:Aside0 (passG (0:Int) (moreS nT nS es) l3 (xs,false)=(ys,ch)):=⟨by rw [HP.out,List.drop_eq_nil_of_le (by omega)];rfl⟩
   cases ch
   ·have HE:Aside0 (ys=r):=⟨by have:=H.out;unfold growG at this;rw [HF.out] at this;simpa using this⟩
    go_wp2
    rw [← hQ.out]
    simp only [Exit.jump]
    go_ret
    exact ⟨rfl,by rw [← HE.out];exact HRR.out,grown_of HZ.out HYR.out⟩
   ·have HE:Aside0 (growG (0:Int) (moreS nT nS es) l3 k' ys=some r):=⟨by have:=H.out;unfold growG at this;rw [HF.out] at this;simpa using this⟩
    go_wp2
    go_step3
    rw [← hQ.out]
    exact ⟨rfl,k',Nat.lt_succ_self _,ys,_,_,_,_,_,_,_,_,_,_,_,_,_,_,_,_,_,_,_,_,_,_,_,_,_,_,_,_,_,_,_,rfl,HE,HRR,HYR⟩
end Go.Proofs.YtclollnicbcooaaGreatDoor.P
