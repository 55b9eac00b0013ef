/- Texts of this claim put together: Lr8, Lr9, Tp4, Lr10, Lr11, Lr12, PureTableEmpty, Glob. -/
import Derived.Test.YtclollnicbcooaaGreatDoorEm4
import Derived.Test.YtclollnicbcooaaGreatDoorEm3
import Derived.Test.YtclollnicbcooaaGreatDoorRows
import Derived.Test.YtclollnicbcooaaGreatDoorEm2
import Derived.Lib.LaidTab
import Derived.Lib.LaidU8
import Derived.OpenShut
import Derived.ProofKit
import Derived.LaidLaws
import Derived.Handed
set_option linter.unusedVariables false
set_option linter.unusedSimpArgs false
set_option linter.unusedSectionVars false
namespace Go.Proofs.YtclollnicbcooaaGreatDoor.P
open Go.RowKit YtclollnicbcooaaGreatDoorW.PrintWords YtclollnicbcooaaGreatDoorW.PrintLast YtclollnicbcooaaGreatDoorW.PrintMore St Bitty Lr
section
section
variable {l0:List S65} {l1:List S73} {l2:List ByteArray} {l3:List S68} {st:Int} {K:List (List Itm)} {N:List (List Int)} {F:Spt→Int}
def ItK (l3:List S68) (st:Int) (K:List (List Itm)) (n:Nat) (x:Itm):Prop:=∃ c,K[n]? = some c∧Cl (gr st l3) (· ∈ c) x
def LaK (F:Spt→Int) (n:Nat) (x:Itm) (b:Nat):Prop:=tb (F ((n:Int),x)) b=true
def dOf (d:S53):Deed:=if d.f0=1 then .shift d.f1.toNat else if d.f0=2 then .reduce d.f1.toNat else if d.f0=3 then .accept else .wrong
def colB (T b:Nat):Nat:=if b=63 then T else b
def Mk (l0:List S65) (l1:List S73) (l2:List ByteArray) (l3:List S68) (st:Int) (K:List (List Itm)) (N:List (List Int)) (F:Spt→Int):Mach where
 dd n b:=if n < K.length∧(b < l0.length ∨ b=63) then dOf (oneD (deedsP l0 l1 l2 l3 st K N F n (colB l0.length b))) else .wrong
 go n s:=if n < K.length∧-9223372036854775808≤s∧s≤9223372036854775807 then (goV l0 l1 l2 l3 st K N n s).toNat else 0
theorem ItK.lt {n:Nat} {x:Itm} (h:ItK l3 st K n x):∃ hn:n < K.length,Cl (gr st l3) (· ∈ K[n]) x:=by
 obtain ⟨c,hc,hx⟩:=h
 obtain ⟨hn,e⟩:=List.getElem?_eq_some_iff.1 hc
 exact ⟨hn,by rw [e];exact hx⟩
section
variable (H:Aheads l0 l1 l2 l3 st K N F) (hr:∀ p ∈ l3,∀ s ∈ p.f2, -9223372036854775808≤s∧s≤9223372036854775807)
include H hr
theorem beh_rng {x:Itm} {s:Int} (hb:behindL (gr st l3) x=some s):-(l2.length:Int)≤s∧s < l0.length:=by
 obtain ⟨r,hr',h1,h2,h3⟩:=behind_right hb
 exact right_range H.ord hr' s (by rw [h3];simp)
theorem go_item {n:Nat} {x:Itm} {s:Int} (hI:ItK l3 st K n x) (hb:behindL (gr st l3) x=some s):∃ (c:List Itm) (t:Nat),K[n]? = some c∧goV l0 l1 l2 l3 st K N n s=(t:Int)∧K[t]? = some (Sg (gr st l3) c s)∧(Mk l0 l1 l2 l3 st K N F).go n s=t∧(x.1,x.2+1) ∈ Sg (gr st l3) c s:=by
 obtain ⟨hn,hx⟩:=hI.lt
 have hs:=beh_rng H hr hb
 have hT:=H.ord.gram.hT
 have hS:=H.ord.gram.hS
 obtain ⟨_,hN⟩:=go_val H hr hn s (by omega)
 have hin:(x.1,x.2+1) ∈ Sg (gr st l3) K[n] s:=(sg_has H.ord.valid _ _ _).2 ⟨x,hx,hb,rfl⟩
 rcases hN with ⟨h1,_⟩ | ⟨_,t,h1,h2⟩
 ·rw [h1] at hin;cases hin
 ·refine ⟨K[n],t,List.getElem?_eq_getElem hn,h1,h2, ?_,hin⟩
  show (if n < K.length∧-9223372036854775808≤s∧s≤9223372036854775807 then (goV l0 l1 l2 l3 st K N n s).toNat else 0)=t
  rw [if_pos ⟨hn,by omega⟩,h1]
  rfl
theorem next_item {n:Nat} {x:Itm} {s:Int} (hI:ItK l3 st K n x) (hb:behindL (gr st l3) x=some s):ItK l3 st K ((Mk l0 l1 l2 l3 st K N F).go n s) (x.1,x.2+1):=by
 obtain ⟨c,t,hc,h1,h2,h3,h4⟩:=go_item H hr hI hb
 rw [h3]
 refine ⟨_,h2,.base _ h4 ?_⟩
 obtain ⟨r,hr',h0,hl,_⟩:=behind_right hb
 unfold isI
 simp only
 rw [hr']
 exact decide_eq_true ⟨by omega,by omega⟩
theorem clo_item {n:Nat} {x:Itm} {p:Nat} (hI:ItK l3 st K n x) (hp:p < l3.length) (hb:behindL (gr st l3) x=some (-1 - (prodAt (gr st l3) p).1)):ItK l3 st K n ((p:Int),0):=by
 obtain ⟨c,hc,hx⟩:=hI
 have hs:=srt_gr H.ord (st:=st) hp
 refine ⟨c,hc,.next x _ hx (in_nexts hb (by omega) hp ?_)⟩
 rw [prod_gr hp]
 simp only
 omega
theorem la_edge {n:Nat} {c:List Itm} {x:Itm} {e:Edg} (hc:K[n]? = some c) (hx:Cl (gr st l3) (· ∈ c) x) (he:isEdge l3 st K n c x e) {b':Nat} (hb':LaK F n x b') {b:Nat} (hb:tb (oR l0 l2 l3 e.2 (F ((n:Int),x))) b=true):tb (F e.1) b=true :=
 H.clo n c x e hc hx (tb_pos hb') he b hb
variable (hno:¬ Clash l0 l1 l2 l3 st K N F)
include hno
theorem one_of {n col:Nat} (hn:n < K.length) (hc:col≤l0.length) {d:S53} (hd:d ∈ deedsP l0 l1 l2 l3 st K N F n col):oneD (deedsP l0 l1 l2 l3 st K N F n col)=d:=by
 have h1:¬ 1 < (deedsP l0 l1 l2 l3 st K N F n col).length:=fun h=>hno ⟨n,col,hn,hc,h⟩
 match hm:deedsP l0 l1 l2 l3 st K N F n col,h1,hd with
 | [],_,hd=>cases hd
 | [y],_,hd=>rw [List.mem_singleton.1 hd];rfl
 | y :: z :: l,h1,_=>simp at h1
theorem dd_done {n:Nat} {x:Itm} {b:Nat} (hI:ItK l3 st K n x) (hb:behindL (gr st l3) x=none) (hL:LaK F n x b):(Mk l0 l1 l2 l3 st K N F).dd n b=if x.1 < 0 then .accept else .reduce x.1.toNat:=by
 obtain ⟨hn,hx⟩:=hI.lt
 have hcol:=mayBe_col H.ord (H.may _ b hL) (cl_is _ _ _ hx)
 have hT:=H.ord.gram.hT
 have hc:colB l0.length b≤l0.length:=by
  unfold colB
  rcases hcol with h | h
  ·rw [if_neg (by omega)];omega
  ·rw [if_pos h];exact Nat.le_refl _
 have e:bitN l0.length (colB l0.length b)=b:=by
  rcases hcol with h | h
  ·have e1:colB l0.length b=b:=if_neg (by omega)
   rw [e1];unfold bitN;rw [if_neg (by omega)]
  ·have e1:colB l0.length b=l0.length:=if_pos h
   rw [e1];unfold bitN;rw [if_pos rfl,h]
 have h1:=deed_done H hr hn hx hb (c:=colB l0.length b) (by rw [e];exact hL)
 have h2:=one_of H hr hno hn hc h1
 show (if n < K.length∧(b < l0.length ∨ b=63) then dOf (oneD (deedsP l0 l1 l2 l3 st K N F n (colB l0.length b))) else .wrong)=_
 rw [if_pos ⟨hn,hcol⟩,h2]
 by_cases h0:x.1 < 0
 ·rw [if_pos h0,if_pos h0];rfl
 ·rw [if_neg h0,if_neg h0];rfl
theorem behind_end {p:Int} {R:List Int} (hR:rightL (gr st l3) p=some R):behindL (gr st l3) (p,(R.length:Int))=none:=by
 unfold behindL
 simp only
 rw [hR]
 simp only
 rw [if_neg (by omega)]
theorem okay:Okay (gr st l3) (Mk l0 l1 l2 l3 st K N F) (ItK l3 st K) (LaK F) where
 srt p hp:=by rw [gr_len] at hp;exact (srt_gr H.ord hp).1
 isI n x h:=by obtain ⟨c,_,hx⟩:=h;exact cl_is _ _ _ hx
 clo n x p hI hp hb:=by rw [gr_len] at hp;exact clo_item H hr hI hp hb
 next n x s hI hb:=next_item H hr hI hb
 laNext n x s b hI hb hL:=by
  obtain ⟨c,t,hc,h1,h2,h3,h4⟩:=go_item H hr hI hb
  obtain ⟨c',hc',hx⟩:=hI
  obtain rfl:c'=c:=Option.some.inj (hc'.symm.trans hc)
  obtain ⟨r,hr',_⟩:=behind_right hb
  rw [h3]
  refine la_edge H hr hc hx (e:=(((t:Int),(x.1,x.2+1)),[])) ⟨s,r,hb,hr',.inl ⟨t,h2,rfl⟩⟩ hL ?_
  exact bg_oR (st:=st) H.ord (fun s hs=>by cases hs) (H.okF _) (.inr ⟨.nil,hL⟩)
 laClo n x p R b b' hI hp hb hR hL hor:=by
  rw [gr_len] at hp
  obtain ⟨c,hc,hx⟩:=hI
  have hs:=srt_gr H.ord (st:=st) hp
  refine la_edge H hr hc hx (e:=(((n:Int),((p:Int),0)),R.drop (x.2.toNat+1))) ⟨_,R,hb,hR,.inr ⟨by omega,p,hp, ?_,rfl⟩⟩ hL ?_
  ·rw [prod_gr hp];simp only;omega
  ·exact bg_oR H.ord (fun s hs=>right_range H.ord hR s (List.mem_of_mem_drop hs)) (H.okF _) hor
 done n p b hp hI hL:=by
  rw [dd_done H hr hno hI (behind_end H hr hno (right_of hp)) hL,if_neg (show ¬ ((p:Int) < 0) by omega)]
  rfl
 acc n b hI hL:=by
  rw [dd_done H hr hno hI (behind_end H hr hno (p:=-1) (R:=[-1 - (gr st l3).start]) rfl) hL]
  rfl
 shift n x s hI hb h0:=by
  obtain ⟨hn,hx⟩:=hI.lt
  obtain ⟨h1,h2,h3⟩:=deed_shift H hr hn hx hb h0
  have hT:=H.ord.gram.hT
  have e:colB l0.length s.toNat=s.toNat:=by unfold colB;rw [if_neg (by omega)]
  have h4:=one_of H hr hno hn (by omega) h3
  show (if n < K.length∧(s.toNat < l0.length ∨ s.toNat=63) then dOf (oneD (deedsP l0 l1 l2 l3 st K N F n (colB l0.length s.toNat))) else .wrong)=.shift (if n < K.length∧-9223372036854775808≤s∧s≤9223372036854775807 then (goV l0 l1 l2 l3 st K N n s).toNat else 0)
  rw [if_pos ⟨hn,.inl h1⟩,e,h4,if_pos ⟨hn,by omega⟩]
  rfl
end
end
end
section
section
variable {l0:List S65} {l1:List S73} {l2:List ByteArray} {l3:List S68} {st:Int}
theorem rows_least (h:Order l0 l1 l2 l3 st) (hr:∀ p ∈ l3,∀ s ∈ p.f2, -9223372036854775808≤s∧s≤9223372036854775807) {K:List (List Itm)} {N:List (List Int)} (hB:Built (Sg (gr st l3)) (symsL l0.length l2.length) [(-1,0)] K N) (hN:N.length=K.length) (hK:K.length≤2003) {Z:Spt→Nat→Prop} (hZ0:Z beg0 63) (hZe:∀ (n:Nat) (c:List Itm) (x:Itm) (e:Edg) (v:Int),K[n]? = some c→Cl (gr st l3) (· ∈ c) x→isEdge l3 st K n c x e→ok v→(∀ b,tb v b=true→Z ((n:Int),x) b)→∀ b,tb (oR l0 l2 l3 e.2 v) b=true→Z e.1 b) :
  ∃ k F,look_rows.f k l0 l1 l2 l3 st (K.map (·.map ofI)) N=some (K.mapIdx fun j c=>rowOf (gr st l3) F j c)∧(∀ x,ok (F x))∧(∀ s b,tb (F s) b=true→Z s b)∧tb (F beg0) 63=true ∧
   (∀ (n:Nat) (c:List Itm) (x:Itm) (e:Edg),K[n]? = some c→Cl (gr st l3) (· ∈ c) x→F ((n:Int),x)≠0→isEdge l3 st K n c x e→∀ b,tb (oR l0 l2 l3 e.2 (F ((n:Int),x))) b=true→tb (F e.1) b=true):=by
 have hv:=h.valid
 have hF:=fits_of hv
 obtain ⟨U,hUd⟩:∃ U:List Spt,U=(List.range K.length).flatMap fun (i:Nat)=>(allI (gr st l3)).map fun x=>((i:Int),x):=⟨_,rfl⟩
 have hUl:U.length≤2003 * 1562:=by
  rw [hUd,List.length_flatMap]
  have:(List.map (fun i:Nat=>((allI (gr st l3)).map fun x=>(((i:Int),x):Spt)).length) (List.range K.length))=List.replicate K.length (allI (gr st l3)).length:=by
   apply List.ext_getElem
   ·simp
   ·intro i h1 h2;simp
  rw [this,List.sum_replicate_nat]
  exact Nat.mul_le_mul hK (allI_len hF)
 have hU:∀ s,Sp0 l3 st K s→s ∈ U:=fun s ⟨n,c,hc,hx,he⟩=>by
  obtain ⟨hlt,_⟩:=List.getElem?_eq_some_iff.1 hc
  rw [hUd]
  exact List.mem_flatMap.2 ⟨n,List.mem_range.2 hlt,List.mem_map.2 ⟨s.2,allI_has _ _ (cl_is _ _ _ hx),by rw [← he]⟩⟩
 have hR:∀ s,Sp0 l3 st K s→rngS s:=fun s ⟨n,c,hc,hx,he⟩=>by
  obtain ⟨hlt,_⟩:=List.getElem?_eq_some_iff.1 hc
  have:=isI_rng hF (cl_is _ _ _ hx)
  unfold rngS rngN rngI
  omega
 have hE:∀ s,Sp0 l3 st K s→∃ es,edgesF l0 l1 l2 l3 st (K.map (·.map ofI)) N s=some es∧es.length≤1000000∧∀ e ∈ es,EdgeOk (sets_Of.f 61 l0 l1 l2 l3 st) (Sp0 l3 st K) Z s e:=fun s ⟨n,c,hc,hx,he⟩=>by
  obtain ⟨i,x⟩:=s
  simp only at he hx
  subst he
  obtain ⟨es,h1,h2,h3⟩:=edges_is hv hr hB hN hc hx (K.map (·.map ofI))
  refine ⟨es,h1,h2,fun e he=>⟨edge_spot hv hc hx ((h3 e).1 he),fun v hvv=>⟨_,Of_is h e.2 v hvv 61 (Nat.le_refl _),(oR_has h e.2 v hvv).2.1,fun hz=>hZe n c x e v hc hx ((h3 e).1 he) hvv hz⟩⟩⟩
 have hbeg:Sp0 l3 st K beg0:=⟨0,[(-1,0)],hB.first,.base _ (List.mem_singleton.2 rfl) rfl,rfl⟩
 have h63:ok ((2 ^ 63:Nat):Int):=bit_ok 63 (by omega) (by omega)
 obtain ⟨F0,q0,e0,hF0,hb0, -,hq0,hs0,hc0⟩:=more_is U (F:=fun _=>0) [] (s:=beg0) (fun _=>ok_zero) h63 (hU _ hbeg)
 have hcz:=cnt_64 (fun _=>0) U
 simp only [List.length_nil,Nat.add_zero] at hc0
 have hF63:tb (F0 beg0) 63=true:=by rw [hb0,bit_tb];simp
 obtain ⟨F,hq,hFo,hFz,hFl,hFc⟩:=queue_ok hU hR hE 300000000 F0 q0 hF0 (fun x hx=>by rcases hq0 x hx with h1 | rfl;cases h1;exact hbeg) (fun x b hb=>by
  rw [hb0,tb_zero,Bool.false_or,Bool.and_eq_true,bit_tb] at hb
  have h1:=of_decide_eq_true hb.1
  have h2:63=b:=of_decide_eq_true hb.2
  subst h1
  subst h2
  exact hZ0) (by omega) (fun x hx h0 hxq=>by
  have:=hs0 x hxq
  exact absurd this h0) (by omega)
 have hmo:∀ m l b,LeO (sets_Of.f 61 l0 l1 l2 l3 st l b) (sets_Of.f (61+m) l0 l1 l2 l3 st l b):=fun m l b=>by
  induction m with
  | zero=>exact fun r hr=>hr
  | succ m ih=>exact fun r hr=>sets_Of.mono _ _ _ _ _ _ _ _ _ (ih r hr)
 have hqm:∀ {f g:List Int→Int→Option Int} (hfg:∀ l b,LeO (f l b) (g l b)) (ed:Spt→Option (List Edg)) (k:Nat) (Z:(Spt→Int) × List Spt),LeO (queueF f ed k Z) (queueF g ed k Z):=by
  intro f g hfg ed k
  induction k with
  | zero=>exact fun Z r hr=>hr
  | succ k ih =>
   rintro ⟨F,q⟩ r hr
   cases q with
   | nil=>exact hr
   | cons s q =>
    rw [queueF] at hr ⊢
    -- (the queue is told)
    obtain ⟨es,he,hr⟩:=Option.bind_eq_some_iff.1 hr
    refine Option.bind_eq_some_iff.2 ⟨es,he, ?_⟩
    split at hr
    ·rename_i hg
     rw [if_pos hg]
     obtain ⟨Z,hZ,hr⟩:=Option.bind_eq_some_iff.1 hr
     exact Option.bind_eq_some_iff.2 ⟨Z,foldE_mono hfg s es _ _ hZ,ih Z r hr⟩
    ·cases hr
 refine ⟨300000000,F, ?_,hFo,hFz,hFl _ _ hF63,fun n c x e hc hx h0 he b hb=>?_⟩
 ·unfold look_rows.f
  rw [if_pos ⟨by rw [List.length_map];omega,by have:=hF.few;omega⟩,of_one 300000000 (by omega) 63 (by omega) (by omega),Option.bind_some,show Int.toNat 63=63 from rfl,e0]
  have h5:=hqm (fun l b=>hmo (300000000 - 61) l b) _ _ _ _ hq
  rw [show 61+(300000000 - 61)=300000000 from rfl] at h5
  rw [h5,Option.bind_some,out_is hv hr F K 0 (built_small hv hB) (by omega)]
  simp only [Nat.zero_add]
 ·obtain ⟨es,h1,h2,h3⟩:=edges_is hv hr hB hN hc hx (K.map (·.map ofI))
  exact hFc ((n:Int),x) ⟨n,c,hc,hx,rfl⟩ h0 es h1 e ((h3 e).2 he) _ (Of_is h e.2 _ (hFo _) 61 (Nat.le_refl _)) b hb
end
section
variable {l0:List S65} {l1:List S73} {l2:List ByteArray} {l3:List S68} {st:Int} {K:List (List Itm)} {N:List (List Int)} {F:Spt→Int}
variable (H:Aheads l0 l1 l2 l3 st K N F) (hr:∀ p ∈ l3,∀ s ∈ p.f2, -9223372036854775808≤s∧s≤9223372036854775807)
include H hr
theorem la_fnd (hE:Ev (fun k=>look_rows.f k l0 l1 l2 l3 st (K.map (·.map ofI)) N) (LRows (gr st l3) F K)) {n:Nat} {x:Itm} {b:Nat} (hI:ItK l3 st K n x) (hL:LaK F n x b):Fnd (gr st l3) (Mk l0 l1 l2 l3 st K N F) (ItK l3 st K) n x b:=by
 obtain ⟨k,F',h1,h2,h3, -, -⟩:=rows_least H.ord hr H.bui H.len H.few (Z:=fun s b=>∀ (n:Nat) (x:Itm),s=((n:Int),x)→Fnd (gr st l3) (Mk l0 l1 l2 l3 st K N F) (ItK l3 st K) n x b)
  (fun n x e=>by
   injection e with e1 e2
   have e1:(0:Int)=(n:Int):=e1
   obtain rfl:n=0:=by omega
   rw [← e2]
   exact .beg)
  (fun m c y e v hc hy he hv hz b hb n x ex=>by
   obtain ⟨sym,r,a1,a2,a3⟩:=he
   have hIy:ItK l3 st K m y:=⟨c,hc,hy⟩
   have hbg:=oR_bg H.ord (st:=st) hv hb
   rcases a3 with ⟨t,a4,rfl⟩ | ⟨a4,p,hp,a5,rfl⟩
   ·injection ex with e1 e2
    have e1:(t:Int)=(n:Int):=e1
    obtain rfl:t=n:=by omega
    obtain ⟨c',t',b1,b2,b3,b4,_⟩:=go_item H hr hIy a1
    obtain rfl:c'=c:=Option.some.inj (b1.symm.trans hc)
    have ht:t'=t:=by
     exact nodup_at H.bui.apart b3 a4
    rw [← e2,← ht,← b4]
    rcases hbg with h | ⟨_,h⟩
    ·cases h
    ·exact .next m y sym b hIy a1 (hz b h m y rfl)
   ·injection ex with e1 e2
    have e1:(m:Int)=(n:Int):=e1
    obtain rfl:m=n:=by omega
    rw [← e2]
    have hs:=srt_gr H.ord (st:=st) hp
    have eb:behindL (gr st l3) y=some (-1 - (prodAt (gr st l3) p).1):=by
     rw [a1,prod_gr hp]
     simp only
     congr 1
     omega
    rcases hbg with h | ⟨h,h'⟩
    ·exact .first m y p r b hIy (by rw [gr_len];exact hp) eb a2 h
    ·exact .pass m y p r b hIy (by rw [gr_len];exact hp) eb a2 h (hz b h' m y rfl))
 -- the rows are the same
 obtain ⟨k2,hk2⟩:=hE
 have hm:∀ j,LeO (look_rows.f k l0 l1 l2 l3 st (K.map (·.map ofI)) N) (look_rows.f (k+j) l0 l1 l2 l3 st (K.map (·.map ofI)) N):=by
  intro j
  induction j with
  | zero=>exact fun r hr=>hr
  | succ j ih=>exact fun r hr=>look_rows.mono _ _ _ _ _ _ _ _ _ (ih r hr)
 have e1:=hm k2 _ h1
 have e2:=hk2 (k+k2) (by omega)
 dsimp only at e2
 rw [e1] at e2
 have e2:=Option.some.inj e2
 obtain ⟨hn,hx⟩:=hI.lt
 have e3:rowOf (gr st l3) F' n K[n]=rowOf (gr st l3) F n K[n]:=by
  have:=congrArg (fun l=>rd_T96 l (n:Int)) e2
  have h4:=rows_at (gr st l3) F K n hn
  have h5:=rows_at (gr st l3) F' K n hn
  exact h5.symm.trans (this.trans h4)
 have hm:=(H.cl hn (x:=x)).2 hx
 have e4:F' ((n:Int),x)=F ((n:Int),x):=by
  unfold rowOf at e3
  injection e3 with _ e3
  exact List.map_inj_left.1 e3 x hm
 exact h3 _ b (by rw [e4];exact hL) n x rfl
theorem deed_cases {n col:Nat} (hn:n < K.length) {d:S53} (hd:d ∈ deedsP l0 l1 l2 l3 st K N F n col):(d=⟨1,goV l0 l1 l2 l3 st K N n col⟩∧0≤goV l0 l1 l2 l3 st K N n col) ∨
  ∃ y R,ItK l3 st K n y∧rightL (gr st l3) y.1=some R∧y.2=(R.length:Int)∧tb (F ((n:Int),y)) (bitN l0.length col)=true∧d=if y.1 < 0 then ⟨3,0⟩ else ⟨2,y.1⟩:=by
 have eK:K.getD n []=K[n]:=by rw [List.getD_eq_getElem?_getD,List.getElem?_eq_getElem hn];rfl
 unfold deedsP at hd
 rw [eK] at hd
 rcases List.mem_append.1 hd with h | h
 ·left
  split at h
  ·rename_i h0;exact ⟨List.mem_singleton.1 h,h0⟩
  ·cases h
 ·right
  obtain ⟨y,hy,e⟩:=List.mem_filterMap.1 h
  have hx:=(H.cl hn).1 hy
  unfold selD at e
  split at e
  ·cases e
  ·rename_i hc
   injection e with e
   rw [not_or] at hc
   obtain ⟨R,hR,h0,h1⟩:=isI_parts (cl_is _ _ _ hx)
   refine ⟨y,R,⟨_,List.getElem?_eq_getElem hn,hx⟩,hR, ?_,by simpa using hc.2,e.symm⟩
   have h2:=hc.1
   unfold rightN at h2
   rw [hR] at h2
   have h2:¬ y.2 < (R.length:Int):=h2
   omega
theorem dd_cases {n b:Nat} (h:(Mk l0 l1 l2 l3 st K N F).dd n b≠.wrong):∃ (hn:n < K.length) (d:S53),(b < l0.length ∨ b=63)∧d ∈ deedsP l0 l1 l2 l3 st K N F n (colB l0.length b)∧(Mk l0 l1 l2 l3 st K N F).dd n b=dOf d:=by
 have e:(Mk l0 l1 l2 l3 st K N F).dd n b=if n < K.length∧(b < l0.length ∨ b=63) then dOf (oneD (deedsP l0 l1 l2 l3 st K N F n (colB l0.length b))) else .wrong:=rfl
 rw [e] at h ⊢
 by_cases hc:n < K.length∧(b < l0.length ∨ b=63)
 ·rw [if_pos hc] at h ⊢
  cases hd:deedsP l0 l1 l2 l3 st K N F n (colB l0.length b) with
  | nil=>rw [hd] at h;exact absurd rfl h
  | cons d l=>exact ⟨hc.1,d,hc.2,by simp,rfl⟩
 ·rw [if_neg hc] at h;exact absurd rfl h
theorem col_bit {b:Nat} (h:b < l0.length ∨ b=63):bitN l0.length (colB l0.length b)=b:=by
 have hT:=H.ord.gram.hT
 rcases h with h | h
 ·have e1:colB l0.length b=b:=if_neg (by omega)
  rw [e1];unfold bitN;rw [if_neg (by omega)]
 ·have e1:colB l0.length b=l0.length:=if_pos h
  rw [e1];unfold bitN;rw [if_pos rfl,h]
theorem first_state {x:Itm} (hI:ItK l3 st K 0 x):x.2=0:=by
 obtain ⟨c,hc,hx⟩:=hI
 obtain rfl:[(-1,0)]=c:=Option.some.inj (H.bui.first.symm.trans hc)
 induction hx with
 | base x hx _=>rw [List.mem_singleton.1 hx]
 | next x y _ hy _=>obtain ⟨_,p,_,_,_,_,rfl⟩:=nexts_in (st:=st) (l3:=l3) hy;rfl
theorem only (hno:¬ Clash l0 l1 l2 l3 st K N F) (hE:Ev (fun k=>look_rows.f k l0 l1 l2 l3 st (K.map (·.map ofI)) N) (LRows (gr st l3) F K)):Only (gr st l3) (Mk l0 l1 l2 l3 st K N F) (ItK l3 st K) (LaK F) where
 fnd n x b hI hL:=la_fnd H hr hE hI hL
 red n b p hd:=by
  obtain ⟨hn,d,hb,hm,e⟩:=dd_cases H hr (n:=n) (b:=b) (by rw [hd];intro h;cases h)
  rw [hd] at e
  rcases deed_cases H hr hn hm with ⟨rfl,_⟩ | ⟨y,R,hI,hR,h2,ht,rfl⟩
  ·cases e
  ·rw [col_bit H hr hb] at ht
   by_cases h0:y.1 < 0
   ·rw [if_pos h0] at e;cases e
   ·rw [if_neg h0] at e
    have e:Deed.reduce p=.reduce y.1.toNat:=e
    injection e with e
    have hp:y.1=(p:Int):=by omega
    have hl:y.1 < l3.length:=isI_prod (by obtain ⟨c,_,hx⟩:=hI;exact cl_is _ _ _ hx) (by omega)
    have hpl:p < l3.length:=by omega
    have hpl':p < (gr st l3).ps.length:=by rw [gr_len];exact hpl
    have hR2:(prodAt (gr st l3) p).2=R:=by
     have:=right_of hpl'
     rw [hp,this] at hR
     exact Option.some.inj hR
    have ey:y=((p:Int),((prodAt (gr st l3) p).2.length:Int)):=Prod.ext hp (by rw [hR2];exact h2)
    rw [← ey]
    exact ⟨hpl',hI,ht⟩
 sh n b m hd:=by
  obtain ⟨hn,d,hb,hm,e⟩:=dd_cases H hr (n:=n) (b:=b) (by rw [hd];intro h;cases h)
  rw [hd] at e
  rcases deed_cases H hr hn hm with ⟨rfl,h0⟩ | ⟨y,R,hI,hR,h2,ht,rfl⟩
  ·have e:Deed.shift m=.shift (goV l0 l1 l2 l3 st K N n (colB l0.length b:Nat)).toNat:=e
   injection e with e
   have hT:=H.ord.gram.hT
   have hcol:colB l0.length b≤l0.length:=by
    rcases hb with hb | hb
    ·unfold colB;rw [if_neg (by omega)];omega
    ·unfold colB;rw [if_pos hb];exact Nat.le_refl _
   obtain ⟨_,hN⟩:=go_val H hr hn (colB l0.length b:Nat) (by omega)
   rcases hN with ⟨_,h1⟩ | ⟨h1,_⟩
   ·rw [h1] at h0;omega
   ·obtain ⟨z,hz⟩:=List.exists_mem_of_ne_nil _ h1
    obtain ⟨x,hx,hbx,_⟩:=(sg_has H.ord.valid _ _ _).1 hz
    have hs:=beh_rng H hr hbx
    have hcb:colB l0.length b=b:=by
     unfold colB at hs ⊢
     split
     ·rename_i h;rw [if_pos h] at hs;omega
     ·rfl
    refine ⟨x,(b:Int),⟨_,List.getElem?_eq_getElem hn,hx⟩,by rw [← hcb];exact hbx,by omega,by omega, ?_⟩
    show m=if n < K.length∧-9223372036854775808≤(b:Int)∧(b:Int)≤9223372036854775807 then (goV l0 l1 l2 l3 st K N n (b:Int)).toNat else 0
    rw [if_pos ⟨hn,by omega⟩,e,hcb]
  ·by_cases h0:y.1 < 0
   ·rw [if_pos h0] at e;cases e
   ·rw [if_neg h0] at e;cases e
 ac n b hd:=by
  obtain ⟨hn,d,hb,hm,e⟩:=dd_cases H hr (n:=n) (b:=b) (by rw [hd];intro h;cases h)
  rw [hd] at e
  rcases deed_cases H hr hn hm with ⟨rfl,_⟩ | ⟨y,R,hI,hR,h2,ht,rfl⟩
  ·cases e
  ·rw [col_bit H hr hb] at ht
   by_cases h0:y.1 < 0
   ·have h1:y.1=-1:=by
     have hR':=hR
     unfold rightL at hR'
     split at hR'
     ·assumption
     ·rw [if_neg (by omega)] at hR';cases hR'
    have hR':R=[-1 - (gr st l3).start]:=by
     rw [h1] at hR
     exact (Option.some.inj hR).symm
    have ey:y=(-1,1):=Prod.ext h1 (by rw [h2,hR'];rfl)
    rw [← ey]
    exact ⟨hI,ht⟩
   ·rw [if_neg h0] at e;cases e
 zero x hI:=first_state H hr hI
 sm p hp s hs:=by
  rw [gr_len] at hp
  have:=sym_gr H.ord (st:=st) hp s hs
  have:=H.ord.gram.hT
  omega
 st:=H.ord.lo
theorem kernel {n:Nat} {c:List Itm} (hc:K[n]? = some c) {x:Itm} (hx:x ∈ c):(n=0∧x=(-1,0)) ∨ 0 < x.2:=by
 by_cases h0:n=0
 ·subst h0
  obtain rfl:[(-1,0)]=c:=Option.some.inj (H.bui.first.symm.trans hc)
  exact .inl ⟨rfl,List.mem_singleton.1 hx⟩
 ·obtain ⟨j,d,s,_,_,hd,_,e⟩:=H.bui.come n c hc h0
  rw [e] at hx
  obtain ⟨y,hy,hb,e2⟩:=(sg_has H.ord.valid d s x).1 hx
  obtain ⟨r,hr',h1,h2,h3⟩:=behind_right hb
  rw [e2]
  exact .inr (by simp only;omega)
theorem back:Back (gr st l3) (Mk l0 l1 l2 l3 st K N F) (ItK l3 st K) where
 back q x s y hI hb hy h0:=by
  obtain ⟨c,t,hc,h1,h2,h3,_⟩:=go_item H hr hI hb
  rw [h3] at hy
  obtain ⟨c',hc',hy⟩:=hy
  obtain rfl:c'=_:=Option.some.inj (hc'.symm.trans h2)
  cases hy with
  | base _ hm _ =>
   obtain ⟨z,hz,hbz,e⟩:=(sg_has H.ord.valid c s y).1 hm
   have ez:(y.1,y.2 - 1)=z:=by rw [e];exact Prod.ext rfl (by simp only;omega)
   rw [ez]
   exact ⟨⟨c,hc,hz⟩,hbz⟩
  | next z _ _ hn=>obtain ⟨_,p,_,_,_,_,rfl⟩:=nexts_in (st:=st) (l3:=l3) hn;exact absurd h0 (by simp)
 from_ n p hp hI:=by
  rw [gr_len] at hp
  obtain ⟨c,hc,hx⟩:=hI
  cases hx with
  | base _ hm _ =>
   rcases kernel H hr hc hm with ⟨_,e⟩ | h
   ·have:=congrArg Prod.fst e
    exact absurd this (show (p:Int)≠-1 by omega)
   ·exact absurd h (show ¬ (0:Int) < 0 by omega)
  | next z _ hz hn =>
   obtain ⟨sym,p',hb,h1,h2,h3,e⟩:=nexts_in (st:=st) (l3:=l3) hn
   have e:=congrArg Prod.fst e
   have e:(p:Int)=p':=e
   obtain rfl:p=p':=by omega
   refine ⟨z,⟨c,hc,hz⟩, ?_⟩
   rw [hb,prod_gr hp]
   simp only
   congr 1
   omega
theorem seat:Seat (gr st l3) (Mk l0 l1 l2 l3 st K N F) (ItK l3 st K) (LaK F) l0.length where
 few:=by have:=H.ord.gram.hT;omega
 below P R hR s hs:=(right_range H.ord hR s hs).2
 ind n P hk hc x hI:=by
  obtain ⟨c,hK,hx⟩:=hI
  induction hx with
  | base x hm hi =>
   refine hk x ⟨c,hK,.base x hm hi⟩ ?_
   rcases kernel H hr hK hm with ⟨e1,e2⟩ | h
   ·exact .inl ⟨e2,e1⟩
   ·exact .inr h
  | next y z hy hn ih =>
   obtain ⟨sym,p,hb,h1,h2,h3,rfl⟩:=nexts_in (st:=st) (l3:=l3) hn
   refine hc y p ⟨c,hK,hy⟩ ih (by rw [gr_len];exact h2) ?_
   rw [hb,prod_gr h2]
   simp only
   congr 1
   omega
 nz q x s hI hb h0:=by
  obtain ⟨c,t,hc,h1,h2,h3,h4⟩:=go_item H hr hI hb
  rw [h3] at h0
  subst h0
  have:=Option.some.inj (H.bui.first.symm.trans h2)
  rw [← this] at h4
  have:=congrArg Prod.snd (List.mem_singleton.1 h4)
  obtain ⟨r,hr',h5,h6,h7⟩:=behind_right hb
  exact absurd this (show x.2+1≠0 by omega)
 minus q hI:=by
  obtain ⟨c,hc,hx⟩:=hI
  rcases minus_items H.ord.valid H.bui q c _ hc hx rfl with ⟨h,_⟩ | ⟨_,_,h⟩
  ·exact h
  ·have:=congrArg Prod.snd h
   exact absurd this (show (0:Int)≠1 by decide)
 laMinus n x b hI hL hm:=(H.may _ b hL).1 hm
 beg:=⟨_,H.bui.first,.base _ (List.mem_singleton.2 rfl) rfl⟩
 begLa:=H.beg
theorem go_lt (hK:0 < K.length) (q:Nat) (s:Int):(Mk l0 l1 l2 l3 st K N F).go q s < K.length:=by
 show (if q < K.length∧-9223372036854775808≤s∧s≤9223372036854775807 then (goV l0 l1 l2 l3 st K N q s).toNat else 0) < K.length
 by_cases hq:q < K.length∧-9223372036854775808≤s∧s≤9223372036854775807
 ·rw [if_pos hq]
  obtain ⟨_,hN⟩:=go_val H hr hq.1 s hq.2
  rcases hN with ⟨_,h1⟩ | ⟨_,t,h1,h2⟩
  ·rw [h1];exact hK
  ·obtain ⟨hlt,_⟩:=List.getElem?_eq_some_iff.1 h2
   rw [h1];exact hlt
 ·rw [if_neg hq];exact hK
end
end
end Go.Proofs.YtclollnicbcooaaGreatDoor.P
namespace Go.Proofs.YtclollnicbcooaaGreatDoor.P
open Go.RowKit YtclollnicbcooaaGreatDoorW.PrintWords YtclollnicbcooaaGreatDoorW.PrintLast YtclollnicbcooaaGreatDoorW.PrintMore St Bitty
section
theorem table_fails {l0:List S65} {l1:List S73} {l2:List ByteArray} {l3:List S68} {st:Int} {a:List (List S77)} {b:List (List Int)} {e:Int} (he:e≠0) (hB:states_Build.f l0 l1 l2 l3 st=some (a,b,e)) (k:Nat):table_All.f k l0 l1 l2 l3 st=some ([],e)∧table_Build.f k l0 l1 l2 l3 st=some ([],[],[],e):=by
 have h:table_All.f k l0 l1 l2 l3 st=some ([],e):=by
  unfold table_All.f
  rw [hB,Option.bind_some,if_neg he]
 refine ⟨h, ?_⟩
 unfold table_Build.f
 rw [h,Option.bind_some,if_neg he]
theorem table_cases {l0:List S65} {l1:List S73} {l2:List ByteArray} {l3:List S68} {st:Int} (hr:∀ p ∈ l3,∀ s ∈ p.f2, -9223372036854775808≤s∧s≤9223372036854775807) :
  (∃ e,e≠0∧(∀ k,table_All.f k l0 l1 l2 l3 st=some ([],e))∧∀ k,table_Build.f k l0 l1 l2 l3 st=some ([],[],[],e)) ∨
  ∃ K N F,Aheads l0 l1 l2 l3 st K N F∧states_Build.f l0 l1 l2 l3 st=some (K.map (·.map ofI),N,0)∧Ev (fun k=>table_All.f k l0 l1 l2 l3 st) (allP l0 l1 l2 l3 st K N F,0) ∧
   ((Clash l0 l1 l2 l3 st K N F∧Ev (fun k=>table_Build.f k l0 l1 l2 l3 st) ([],[],[],16)) ∨
   (¬ Clash l0 l1 l2 l3 st K N F∧Ev (fun k=>table_Build.f k l0 l1 l2 l3 st) (dsP l0 l1 l2 l3 st K N F K.length,nsP l0 N K.length,msP l0 l1 l2 l3 st K N F K.length,0))):=by
 cases hv:validB l0 l1 l2 l3 st with
 | false=>exact .inl ⟨1,by decide,fun k=>(table_fails (by decide) (build_not hv) k).1,fun k=>(table_fails (by decide) (build_not hv) k).2⟩
 | true =>
  obtain ⟨R,hR,hB⟩:=build_ok hr hv
  cases R with
  | none=>exact .inl ⟨4,by decide,fun k=>(table_fails (by decide) hB k).1,fun k=>(table_fails (by decide) hB k).2⟩
  | some KN =>
   rcases all_cases (l0:=l0) (l1:=l1) (l2:=l2) (st:=st) hr with ⟨e,he,hA⟩ | ⟨K,N,F,H,hB',hE,_⟩
   ·have:=hA 0
    unfold look_All.f at this
    rw [hB,Option.bind_some] at this
    replace this:(look_rows.f 0 l0 l1 l2 l3 st (KN.1.map (·.map ofI)) KN.2).map (fun r=>(r,(0:Int)))=some ([],e):=this
    obtain ⟨x,_,hx⟩:=Option.map_eq_some_iff.1 this
    injection hx with _ hx
    exact absurd hx.symm he
   ·exact .inr ⟨K,N,F,H,hB',all_ev H hr hB' hE,table_ev H hr hB' hE⟩
section
variable {l0:List S65} {l1:List S73} {l2:List ByteArray} {l3:List S68} {st:Int} {K:List (List Itm)} {N:List (List Int)} {F:Spt→Int}
theorem dsP_len (i:Nat):(dsP l0 l1 l2 l3 st K N F i).length=i:=by unfold dsP;simp
theorem nsP_len (i:Nat):(nsP l0 N i).length=i:=by unfold nsP;simp
theorem dsP_at {n i:Nat} (hi:i < n):rd_L25 (dsP l0 l1 l2 l3 st K N F n) (i:Int)=rowD l0.length (deedsP l0 l1 l2 l3 st K N F i):=by
 unfold rd_L25 dsP
 rw [Int.toNat_natCast,List.getD_eq_getElem?_getD,List.getElem?_map,List.getElem?_range hi]
 rfl
theorem nsP_at {n i:Nat} (hi:i < n):rd_L17 (nsP l0 N n) (i:Int)=(rd_L17 N (i:Int)).drop l0.length:=by
 unfold rd_L17 nsP
 rw [Int.toNat_natCast,List.getD_eq_getElem?_getD,List.getElem?_map,List.getElem?_range hi]
 rfl
theorem rowD_len (T:Nat) (D:Nat→List S53):(rowD T D).length=T+1:=by unfold rowD;simp
theorem rowD_at (T:Nat) (D:Nat→List S53) {c:Nat} (hc:c≤T):rd_T53 (rowD T D) (c:Int)=oneD (D c):=by
 unfold rd_T53 rowD
 rw [Int.toNat_natCast,List.getD_eq_getElem?_getD,List.getElem?_map,List.getElem?_range (by omega)]
 rfl
end
end
end Go.Proofs.YtclollnicbcooaaGreatDoor.P
section
namespace Go.Proofs.YtclollnicbcooaaGreatDoor.Lr
open Go.Proofs.YtclollnicbcooaaGreatDoor.St
section
variable {g:Gr} {M:Mach} {It:Nat→Itm→Prop} {La:Nat→Itm→Nat→Prop} {T κ:Nat}
theorem Steps.snoc {k:Nat} {a b c:List Nat × List Int} (h:Steps g M k a b) (s:Step g M b c):Steps g M 0 a c:=by
 induction h with
 | refl=>exact .step _ _ _ s (Nat.zero_le _) (.refl _)
 | step _ _ _ s' _ _ ih=>exact .step _ _ _ s' (Nat.zero_le _) (ih s)
theorem last_shift {k:Nat} {a b:List Nat × List Int} (h:Steps g M k a b):∃ τ0,Red g M (nx b.2) 0 τ0 b.1∧((a.1=τ0∧a.2=b.2) ∨ ∃ τ1 t,Steps g M 0 a (τ1,t :: b.2)∧τ0.length=τ1.length+1∧Steps g M 0 a (τ0,b.2)):=by
 induction h with
 | refl a=>exact ⟨a.1,.refl _,.inl ⟨rfl,rfl⟩⟩
 | step a b c s _ _ ih =>
  obtain ⟨τ0,h1,h2 | ⟨τ1,t,h2,h3,h4⟩⟩:=ih
  ·cases s with
   | shift n m σ t u h0 hd =>
    obtain ⟨e1,e2⟩:=h2
    refine ⟨τ0,h1,.inr ⟨n :: σ,t,by rw [← e2];exact .refl _,by rw [← e1];rfl,by rw [← e1,← e2];exact .step _ _ _ (.shift n m σ t u h0 hd) (Nat.zero_le _) (.refl _)⟩⟩
   | reduce n σ u p q τ hd hq =>
    obtain ⟨e1,e2⟩:=h2
    refine ⟨n :: σ,.step _ _ _ (rs_of (by rw [← e2];exact hd) hq) (Nat.zero_le _) ?_,.inl ⟨rfl,e2⟩⟩
    simp only at e1
    rw [e1];exact h1
  ·exact ⟨τ0,h1,.inr ⟨τ1,t,.step _ _ _ s (Nat.zero_le _) h2,h3,.step _ _ _ s (Nat.zero_le _) h4⟩⟩
theorem high {l:List Int} (hκ:∀ q s,M.go q s < κ) (hH:∀ τ u,Steps g M 0 ([0],l) (τ,u)→Halts g M (nx u) τ):∀ (m:Nat) (τ:List Nat) (u:List Int),Steps g M 0 ([0],l) (τ,u)→l.length=u.length+m→τ.length≤1+κ+m * (κ+1):=by
 intro m
 induction m with
 | zero =>
  intro τ u h hl
  obtain ⟨τ0,h1,⟨h2,h3⟩ | ⟨τ1,t,h2,h3,h4⟩⟩:=last_shift h
  ·simp only at h2 h3 h1
   subst h2
   have hH0:=hH [0] l (.refl _)
   rw [h3] at hH0
   have:=height h1 hH0 hκ
   simp only [List.length_cons,List.length_nil] at this
   omega
  ·have:=steps_len h2
   simp only [List.length_cons] at this
   omega
 | succ m ih =>
  intro τ u h hl
  obtain ⟨τ0,h1,⟨h2,h3⟩ | ⟨τ1,t,h2,h3,h4⟩⟩:=last_shift h
  ·have:=congrArg List.length h3
   simp only at this
   omega
  ·have a1:=ih τ1 (t :: u) h2 (by simp only [List.length_cons];omega)
   have a2:=height h1 (hH τ0 u h4) hκ
   have e:(m+1) * (κ+1)=m * (κ+1)+(κ+1):=Nat.succ_mul m (κ+1)
   simp only at a2
   omega
theorem all_lt (O:Only g M It La) (hκ:∀ q s,M.go q s < κ) {k:Nat} {a b:List Nat × List Int} (h:Steps g M k a b):(∀ x ∈ a.1,x < κ)→∀ x ∈ b.1,x < κ:=by
 induction h with
 | refl=>exact id
 | step a b c s _ _ ih =>
  intro ha
  refine ih ?_
  cases s with
  | shift n m σ t u _ hd =>
   obtain ⟨_,s,_,_,_,_,e⟩:=O.sh _ _ _ hd
   intro x hx
   rcases List.mem_cons.1 hx with e2 | hx
   ·rw [e2,e];exact hκ _ _
   ·exact ha x hx
  | reduce n σ u p q τ _ hq =>
   intro x hx
   rcases List.mem_cons.1 hx with e2 | hx
   ·rw [e2];exact hκ _ _
   ·exact ha x (List.mem_of_mem_drop (show x ∈ (n :: σ).drop (prodAt g p).2.length by rw [hq];exact hx))
end
end Go.Proofs.YtclollnicbcooaaGreatDoor.Lr
namespace Go.Proofs.YtclollnicbcooaaGreatDoor.P
open Go.RowKit Go.Proofs.YtclollnicbcooaaGreatDoorW.PrintWords Go.Proofs.YtclollnicbcooaaGreatDoorW.PrintLast Go.Proofs.YtclollnicbcooaaGreatDoorW.PrintMore St Bitty Lr
def enc (τ:List Nat):List Int:=(τ.map fun (n:Nat)=>(n:Int)).reverse
theorem enc_len (τ:List Nat):(enc τ).length=τ.length:=by simp [enc]
theorem enc_cons (n:Nat) (σ:List Nat):enc (n :: σ)=enc σ ++ [(n:Int)]:=by simp [enc]
theorem enc_last (n:Nat) (σ:List Nat):Go.Proofs.YtclollnicbcooaaGreatDoorW.PrintWords.rd (enc (n :: σ)) ((σ.length:Nat):Int)=(n:Int):=by
 unfold Go.Proofs.YtclollnicbcooaaGreatDoorW.PrintWords.rd
 rw [Int.toNat_natCast,enc_cons,List.getD_eq_getElem?_getD,List.getElem?_append_right (by rw [enc_len];exact Nat.le_refl _),enc_len,Nat.sub_self]
 rfl
theorem enc_take (τ:List Nat) (d:Nat) (hd:d≤τ.length):(enc τ).take (τ.length - d)=enc (τ.drop d):=by
 unfold enc
 rw [List.map_drop,List.reverse_drop,List.length_map]
def Fine (T:Nat) (u:List Int):Prop:=∀ t v,u=t :: v→0≤t∧t < (T:Int)
section
variable {l0:List S65} {l1:List S73} {l2:List ByteArray} {l3:List S68} {st:Int} {K:List (List Itm)} {N:List (List Int)} {F:Spt→Int} (H:Aheads l0 l1 l2 l3 st K N F) (hr:∀ p ∈ l3,∀ s ∈ p.f2, -9223372036854775808≤s∧s≤9223372036854775807)
include H hr
theorem next_is {q:Nat} (hq:q < K.length) {s:Nat} (hs:s < l2.length):goV l0 l1 l2 l3 st K N q (-1 - (s:Int))=Go.Proofs.YtclollnicbcooaaGreatDoorW.PrintWords.rd ((rd_L17 N (q:Int)).drop l0.length) (s:Int):=by
 have hT:=H.ord.gram.hT
 have hS:=H.ord.gram.hS
 have hn:=next_len H hr hq
 have hl:=H.len
 have w2:wrap64 ((-1) - (-1 - (s:Int)))=s:=by rw [IntWalk.wrap64_in _ (by omega)];omega
 have w3:wrap64 ((l0.length:Int)+(s:Int))=((l0.length+s:Nat):Int):=by rw [IntWalk.wrap64_in _ (by omega)];omega
 unfold goV
 rw [go_f,if_pos (by omega),w2,w3]
 unfold goF
 rw [if_neg (by omega),if_neg (by omega),if_neg (by omega),if_neg (by omega),Option.getD_some]
 unfold Go.Proofs.YtclollnicbcooaaGreatDoorW.PrintWords.rd
 rw [Int.toNat_natCast,Int.toNat_natCast,List.getD_eq_getElem?_getD,List.getD_eq_getElem?_getD,List.getElem?_drop]
variable (hno:¬ Clash l0 l1 l2 l3 st K N F)
include hno
theorem deed_row {n col:Nat} (hn:n < K.length) (hc:col≤l0.length):rd_T53 (rd_L25 (dsP l0 l1 l2 l3 st K N F K.length) (n:Int)) (col:Int)=oneD (deedsP l0 l1 l2 l3 st K N F n col):=by
 rw [dsP_at hn,rowD_at _ _ hc]
def colU (T:Nat):List Int→Nat
 | []=>T
 | t :: _=>t.toNat
omit H hr hno in
theorem colU_nx {T:Nat} (hT:T≤60) {u:List Int} (hf:Fine T u):colB T (nx u)=colU T u∧(nx u < T ∨ nx u=63)∧colU T u≤T:=by
 cases u with
 | nil=>exact ⟨if_pos rfl,.inr rfl,Nat.le_refl _⟩
 | cons t v =>
  obtain ⟨h0,h1⟩:=hf t v rfl
  have e:nx (t :: v)=t.toNat:=rfl
  rw [e]
  refine ⟨?_,.inl (by omega), ?_⟩
  ·unfold colB;rw [if_neg (by omega)];rfl
  ·show t.toNat≤T;omega
abbrev runL (l0:List S65) (l1:List S73) (l2:List ByteArray) (l3:List S68) (st:Int) (K:List (List Itm)) (N:List (List Int)) (F:Spt→Int) (l:List Int) (S:List Int) (at_:Int) (k:Nat):Option (Bool × Int) :=
 table_Run.l0 k l S at_ l0 l1 l2 l3 st (dsP l0 l1 l2 l3 st K N F K.length) (nsP l0 N K.length) (msP l0 l1 l2 l3 st K N F K.length)
omit H hr hno in
theorem at_tok {l w:List Int} {t:Int} {v:List Int} (hl:l=w ++ t :: v):Go.Proofs.YtclollnicbcooaaGreatDoorW.PrintWords.rd l ((w.length:Nat):Int)=t:=by
 unfold Go.Proofs.YtclollnicbcooaaGreatDoorW.PrintWords.rd
 rw [hl,Int.toNat_natCast,List.getD_eq_getElem?_getD,List.getElem?_append_right (Nat.le_refl _),Nat.sub_self]
 rfl
theorem run_bad {l w:List Int} {t:Int} {v:List Int} (hl:l=w ++ t :: v) (hbad:t < 0 ∨ (l0.length:Int)≤t) (hlen:l.length≤1000000) (S:List Int):Ev (runL l0 l1 l2 l3 st K N F l S (w.length:Int)) (false,(w.length:Int)):=by
 have hll:w.length < l.length:=by rw [hl];simp
 have ht:=at_tok hl
 have main:∀ k,table_Run.l0 (k+3) l S (w.length:Int) l0 l1 l2 l3 st (dsP l0 l1 l2 l3 st K N F K.length) (nsP l0 N K.length) (msP l0 l1 l2 l3 st K N F K.length)=some (false,(w.length:Int)):=by
  intro k
  rw [table_Run.l0,if_pos (by omega),if_pos (by omega),ht,table_Run.j2]
  by_cases h0:t < 0
  ·rw [if_pos h0,table_Run.j3,if_pos rfl]
  ·rw [if_neg h0]
   by_cases h1:t > (l0.length:Int)
   ·rw [if_pos h1,table_Run.j3,if_pos rfl]
   ·have e:(t == (l0.length:Int))=true:=beq_iff_eq.2 (by omega)
    rw [if_neg h1,if_pos (by omega),e,table_Run.j3,if_pos rfl]
 refine ⟨3,fun k hk=>?_⟩
 obtain ⟨k,rfl⟩:∃ j,k=j+3:=⟨k - 3,by omega⟩
 exact main k
theorem run_fine {l w u:List Int} (hl:l=w ++ u) (hf:Fine l0.length u) (hlen:l.length≤1000000) (S:List Int) (k:Nat) :
  table_Run.l0 (k+3) l S (w.length:Int) l0 l1 l2 l3 st (dsP l0 l1 l2 l3 st K N F K.length) (nsP l0 N K.length) (msP l0 l1 l2 l3 st K N F K.length)=table_Run.j3 (k+1) l S (w.length:Int) ((colU l0.length u:Nat):Int) false l0 l1 l2 l3 st (dsP l0 l1 l2 l3 st K N F K.length) (nsP l0 N K.length) (msP l0 l1 l2 l3 st K N F K.length):=by
 have hT:=H.ord.gram.hT
 have hll:l.length=w.length+u.length:=by rw [hl,List.length_append]
 cases u with
 | nil =>
  simp only [List.length_nil] at hll
  rw [table_Run.l0,if_neg (by omega),table_Run.j2,if_neg (by omega),if_neg (by omega),if_neg (by omega)]
  rfl
 | cons t v =>
  obtain ⟨h0,h1⟩:=hf t v rfl
  simp only [List.length_cons] at hll
  have ht:=at_tok hl
  have e:((colU l0.length (t :: v):Nat):Int)=t:=by show ((t.toNat:Nat):Int)=t;omega
  have e2:(t == (l0.length:Int))=false:=beq_eq_false_iff_ne.2 (by omega)
  rw [table_Run.l0,if_pos (by omega),if_pos (by omega),ht,table_Run.j2,if_neg (by omega),if_neg (by omega),if_pos (by omega),e2,e]
section
variable {n:Nat} {σ:List Nat} (hn:n < K.length) (hσ:(n :: σ).length < 17592186044416) {c:Nat} (hc:c≤l0.length)
include hn hσ
theorem j3_wrap:wrap64 (((enc (n :: σ)).length:Int) - 1)=((σ.length:Nat):Int):=by
 rw [enc_len,IntWalk.wrap64_in _ (by simp only [List.length_cons] at hσ ⊢;omega)]
 simp only [List.length_cons];omega
include hc
theorem j3_shift (l:List Int) (a:Int) (k:Nat) {m:Nat} (hd:oneD (deedsP l0 l1 l2 l3 st K N F n c)=⟨1,(m:Int)⟩) :
  table_Run.j3 (k+1) l (enc (n :: σ)) a (c:Int) false l0 l1 l2 l3 st (dsP l0 l1 l2 l3 st K N F K.length) (nsP l0 N K.length) (msP l0 l1 l2 l3 st K N F K.length)=table_Run.l0 k l (enc (m :: n :: σ)) (wrap64 (a+1)) l0 l1 l2 l3 st (dsP l0 l1 l2 l3 st K N F K.length) (nsP l0 N K.length) (msP l0 l1 l2 l3 st K N F K.length):=by
 have hlw:=j3_wrap H hr hno hn hσ
 have hla:=enc_last n σ
 have hrow:=deed_row H hr hno hn hc
 have hrl:(rd_L25 (dsP l0 l1 l2 l3 st K N F K.length) (n:Int)).length=l0.length+1:=by rw [dsP_at hn,rowD_len]
 rw [table_Run.j3,if_neg (by decide),hlw,if_pos (by omega),if_pos (by rw [enc_len];simp only [List.length_cons];omega),hla,if_pos (by omega),dsP_len,if_pos (by omega),if_pos (by omega),if_pos (by rw [hrl];omega),hrow,hd,if_pos rfl,if_pos (by rw [enc_len];exact hσ),enc_cons m]
theorem j3_end (l:List Int) (a:Int) (k:Nat) (h1:(oneD (deedsP l0 l1 l2 l3 st K N F n c)).f0≠1) (h2:(oneD (deedsP l0 l1 l2 l3 st K N F n c)).f0≠2) :
  table_Run.j3 (k+1) l (enc (n :: σ)) a (c:Int) false l0 l1 l2 l3 st (dsP l0 l1 l2 l3 st K N F K.length) (nsP l0 N K.length) (msP l0 l1 l2 l3 st K N F K.length)=some (decide ((oneD (deedsP l0 l1 l2 l3 st K N F n c)).f0=3),a):=by
 have hlw:=j3_wrap H hr hno hn hσ
 have hla:=enc_last n σ
 have hrow:=deed_row H hr hno hn hc
 have hrl:(rd_L25 (dsP l0 l1 l2 l3 st K N F K.length) (n:Int)).length=l0.length+1:=by rw [dsP_at hn,rowD_len]
 rw [table_Run.j3,if_neg (by decide),hlw,if_pos (by omega),if_pos (by rw [enc_len];simp only [List.length_cons];omega),hla,if_pos (by omega),dsP_len,if_pos (by omega),if_pos (by omega),if_pos (by rw [hrl];omega),hrow,if_neg h1,if_neg h2]
 by_cases h3:(oneD (deedsP l0 l1 l2 l3 st K N F n c)).f0=3
 ·rw [if_pos h3,decide_eq_true h3]
 ·rw [if_neg h3,decide_eq_false h3]
theorem j3_reduce (l:List Int) (a:Int) (k:Nat) {p q:Nat} {ρ:List Nat} (hd:oneD (deedsP l0 l1 l2 l3 st K N F n c)=⟨2,(p:Int)⟩) (hp:p < l3.length) (hq:(n :: σ).drop (prodAt (gr st l3) p).2.length=q :: ρ) (hqK:q < K.length) (hg:0≤goV l0 l1 l2 l3 st K N q (-1 - (prodAt (gr st l3) p).1)) :
  table_Run.j3 (k+1) l (enc (n :: σ)) a (c:Int) false l0 l1 l2 l3 st (dsP l0 l1 l2 l3 st K N F K.length) (nsP l0 N K.length) (msP l0 l1 l2 l3 st K N F K.length)=table_Run.l0 k l (enc ((Mk l0 l1 l2 l3 st K N F).go q (-1 - (prodAt (gr st l3) p).1) :: q :: ρ)) a l0 l1 l2 l3 st (dsP l0 l1 l2 l3 st K N F K.length) (nsP l0 N K.length) (msP l0 l1 l2 l3 st K N F K.length):=by
 have hlw:=j3_wrap H hr hno hn hσ
 have hla:=enc_last n σ
 have hrow:=deed_row H hr hno hn hc
 have hrl:(rd_L25 (dsP l0 l1 l2 l3 st K N F K.length) (n:Int)).length=l0.length+1:=by rw [dsP_at hn,rowD_len]
 have hsr:=srt_gr H.ord (st:=st) hp
 have hT:=H.ord.gram.hT
 have hS:=H.ord.gram.hS
 rw [prod_gr hp] at hq hsr hg ⊢
 simp only at hq hsr hg ⊢
 generalize hR:rd_T68 l3 (p:Int)=R at *
 have hdl:R.f2.length≤(n :: σ).length:=by
  have:=congrArg List.length hq
  rw [List.length_drop,List.length_cons (a:=q)] at this
  omega
 have hw2:wrap64 (((enc (n :: σ)).length:Int) - (R.f2.length:Int))=(((n :: σ).length - R.f2.length:Nat):Int):=by
  rw [enc_len,IntWalk.wrap64_in _ (by omega)]
  omega
 have htk:(enc (n :: σ)).take (((n :: σ).length - R.f2.length:Nat):Int).toNat=enc (q :: ρ):=by
  rw [Int.toNat_natCast,enc_take _ _ hdl,hq]
 have hql:(q :: ρ).length < 17592186044416:=by
  rw [← hq,List.length_drop];omega
 have hlw2:=j3_wrap H hr hno hqK hql
 have hla2:=enc_last q ρ
 have hnl:(rd_L17 (nsP l0 N K.length) (q:Int)).length=l2.length:=by rw [nsP_at hqK,List.length_drop,next_len H hr hqK];omega
 obtain ⟨s,hs⟩:∃ s:Nat,R.f1=(s:Int):=⟨R.f1.toNat,by omega⟩
 have hnx:=next_is H hr hqK (s:=s) (by omega)
 have hval:Go.Proofs.YtclollnicbcooaaGreatDoorW.PrintWords.rd (rd_L17 (nsP l0 N K.length) (q:Int)) R.f1=(((Mk l0 l1 l2 l3 st K N F).go q (-1 - R.f1):Nat):Int):=by
  rw [nsP_at hqK,hs,← hnx]
  show _=((if q < K.length∧-9223372036854775808≤-1 - (s:Int)∧-1 - (s:Int)≤9223372036854775807 then (goV l0 l1 l2 l3 st K N q (-1 - (s:Int))).toNat else 0:Nat):Int)
  rw [if_pos ⟨hqK,by omega⟩]
  rw [hs] at hg
  omega
 rw [table_Run.j3,if_neg (by decide),hlw,if_pos (by omega),if_pos (by rw [enc_len];simp only [List.length_cons];omega),hla,if_pos (by omega),dsP_len,if_pos (by omega),if_pos (by omega),if_pos (by rw [hrl];omega),hrow,if_neg (by rw [hd];exact (show ¬ (2:Int)=1 by decide)),if_pos (by rw [hd]),show (oneD (deedsP l0 l1 l2 l3 st K N F n c)).f1=(p:Int) by rw [hd],if_pos (by omega),if_pos (by omega),hR,hw2,if_pos (by omega),if_pos (by rw [enc_len];omega),htk,Option.bind_some,hlw2,if_pos (by omega),if_pos (by rw [enc_len];simp only [List.length_cons];omega),hla2,if_pos (by omega),nsP_len,if_pos (by omega),if_pos (by omega),if_pos (by rw [hnl];omega),if_pos (by rw [enc_len];exact hql),hval,enc_cons ((Mk l0 l1 l2 l3 st K N F).go q (-1 - R.f1))]
end
end
end Go.Proofs.YtclollnicbcooaaGreatDoor.P
end
namespace Go.Proofs.YtclollnicbcooaaGreatDoor.P
open Go.RowKit YtclollnicbcooaaGreatDoorW.PrintWords YtclollnicbcooaaGreatDoorW.PrintLast YtclollnicbcooaaGreatDoorW.PrintMore St Bitty Lr
section
section
variable {l0:List S65} {l1:List S73} {l2:List ByteArray} {l3:List S68} {st:Int} {K:List (List Itm)} {N:List (List Int)} {F:Spt→Int} (H:Aheads l0 l1 l2 l3 st K N F) (hr:∀ p ∈ l3,∀ s ∈ p.f2, -9223372036854775808≤s∧s≤9223372036854775807) (hno:¬ Clash l0 l1 l2 l3 st K N F)
include H hr hno
theorem dd_shift {n b m:Nat} (h:(Mk l0 l1 l2 l3 st K N F).dd n b=.shift m):n < K.length∧oneD (deedsP l0 l1 l2 l3 st K N F n (colB l0.length b))=⟨1,(m:Int)⟩:=by
 obtain ⟨hn,d,hb,hm,e⟩:=dd_cases H hr (n:=n) (b:=b) (by rw [h];intro h;cases h)
 have hcol:colB l0.length b≤l0.length:=by
  rcases hb with hb | hb
  ·unfold colB;rw [if_neg (by have:=H.ord.gram.hT;omega)];omega
  ·unfold colB;rw [if_pos hb];exact Nat.le_refl _
 have h1:=one_of H hr hno hn hcol hm
 rw [h] at e
 refine ⟨hn, ?_⟩
 rw [h1]
 rcases deed_cases H hr hn hm with ⟨rfl,h0⟩ | ⟨y,R,hI,hR,h2,ht,rfl⟩
 ·have e:Deed.shift m=.shift (goV l0 l1 l2 l3 st K N n (colB l0.length b:Nat)).toNat:=e
  injection e with e
  rw [e,Int.toNat_of_nonneg h0]
 ·by_cases h0:y.1 < 0
  ·rw [if_pos h0] at e;cases e
  ·rw [if_neg h0] at e;cases e
theorem dd_reduce {n b p:Nat} (h:(Mk l0 l1 l2 l3 st K N F).dd n b=.reduce p):n < K.length∧p < l3.length∧oneD (deedsP l0 l1 l2 l3 st K N F n (colB l0.length b))=⟨2,(p:Int)⟩:=by
 obtain ⟨hn,d,hb,hm,e⟩:=dd_cases H hr (n:=n) (b:=b) (by rw [h];intro h;cases h)
 have hcol:colB l0.length b≤l0.length:=by
  rcases hb with hb | hb
  ·unfold colB;rw [if_neg (by have:=H.ord.gram.hT;omega)];omega
  ·unfold colB;rw [if_pos hb];exact Nat.le_refl _
 have h1:=one_of H hr hno hn hcol hm
 rw [h] at e
 refine ⟨hn, ?_⟩
 rw [h1]
 rcases deed_cases H hr hn hm with ⟨rfl,h0⟩ | ⟨y,R,hI,hR,h2,ht,rfl⟩
 ·cases e
 ·by_cases h0:y.1 < 0
  ·rw [if_pos h0] at e;cases e
  ·rw [if_neg h0] at e ⊢
   have e:Deed.reduce p=.reduce y.1.toNat:=e
   injection e with e
   have hp:y.1=(p:Int):=by omega
   have hl:y.1 < l3.length:=isI_prod (by obtain ⟨c,_,hx⟩:=hI;exact cl_is _ _ _ hx) (by omega)
   exact ⟨by omega,by rw [hp]⟩
omit hno in
theorem bad_stays (O:Only (gr st l3) (Mk l0 l1 l2 l3 st K N F) (ItK l3 st K) (LaK F)) {k:Nat} {a b:List Nat × List Int} (h:Lr.Steps (gr st l3) (Mk l0 l1 l2 l3 st K N F) k a b):¬ Fine l0.length a.2→b.2=a.2:=by
 induction h with
 | refl=>exact fun _=>rfl
 | step a b c s _ _ ih =>
  intro hf
  cases s with
  | shift n m σ t u h0 hd =>
   exfalso
   refine hf fun t' v e=>?_
   injection e with e _
   subst e
   obtain ⟨x,s,hI,hb,hs0,e,_⟩:=O.sh _ _ _ hd
   have:=beh_rng H hr hb
   omega
  | reduce n σ u p q τ hd hq=>exact ih hf
theorem link (O:Only (gr st l3) (Mk l0 l1 l2 l3 st K N F) (ItK l3 st K) (LaK F)) {l:List Int} (hlen:l.length≤1000000) (hK:0 < K.length)
  (hH:∀ τ u,Lr.Steps (gr st l3) (Mk l0 l1 l2 l3 st K N F) 0 ([0],l) (τ,u)→Halts (gr st l3) (Mk l0 l1 l2 l3 st K N F) (nx u) τ) {k:Nat} {a b:List Nat × List Int} (h:Lr.Steps (gr st l3) (Mk l0 l1 l2 l3 st K N F) k a b) :
  ∀ w,l=w ++ a.2→Lr.Steps (gr st l3) (Mk l0 l1 l2 l3 st K N F) 0 ([0],l) a→(∃ γ,Vs (gr st l3) (Mk l0 l1 l2 l3 st K N F) (ItK l3 st K) a.1 γ)→∀ r w',l=w' ++ b.2→(¬ Fine l0.length b.2→r=(false,(w'.length:Int))) →
   Ev (runL l0 l1 l2 l3 st K N F l (enc b.1) (w'.length:Int)) r→Ev (runL l0 l1 l2 l3 st K N F l (enc a.1) (w.length:Int)) r:=by
 have hfew:=H.few
 have hT:=H.ord.gram.hT
 have hκ:=go_lt H hr hK
 have hB:=back H hr
 induction h with
 | refl a =>
  intro w e1 _ _ r w' e2 _ hE
  have:w=w':=List.append_cancel_right (e1.symm.trans e2)
  rw [this]
  exact hE
 | step a x b s hk hs ih =>
  intro w e1 hpre hV r w' e2 hbad hE
  by_cases hf:Fine l0.length a.2
  ·have hin:=all_lt O hκ hpre (by intro x hx;rw [List.mem_singleton.1 hx];exact hK)
   have hll:l.length=w.length+a.2.length:=by rw [e1,List.length_append]
   have hhi:=high hκ hH w.length a.1 a.2 hpre (by omega)
   have hbig:a.1.length < 17592186044416:=by
    have:w.length * (K.length+1)≤1000000 * 2004:=Nat.mul_le_mul (by omega) (by omega)
    omega
   have hpre2:=hpre.snoc s
   obtain ⟨γ,hV⟩:=hV
   cases s with
   | shift n m σ t u h0 hd =>
    obtain ⟨hn,hdd⟩:=dd_shift H hr hno hd
    obtain ⟨c1,c2,c3⟩:=colU_nx hT hf
    have c1:colB l0.length t.toNat=colU l0.length (t :: u):=c1
    rw [c1] at hdd
    obtain ⟨x,s,hI,hb,hs0,e,em⟩:=O.sh _ _ _ hd
    have hV2:∃ γ,Vs (gr st l3) (Mk l0 l1 l2 l3 st K N F) (ItK l3 st K) (m :: n :: σ) γ:=⟨_,by rw [em];exact .push n σ γ s x hV hI hb⟩
    obtain ⟨K1,h1⟩:=ih (w ++ [t]) (by rw [e1];simp) hpre2 hV2 r w' e2 hbad hE
    refine ⟨K1+3,fun k hk=>?_⟩
    obtain ⟨k,rfl⟩:∃ j,k=j+3:=⟨k - 3,by omega⟩
    have h2:=h1 k (by omega)
    have hup:wrap64 ((w.length:Int)+1)=(((w ++ [t]).length:Nat):Int):=by rw [up64 _ (by omega),List.length_append];rfl
    show table_Run.l0 (k+3) l (enc (n :: σ)) (w.length:Int) l0 l1 l2 l3 st _ _ _=some r
    rw [run_fine H hr hno e1 hf hlen,j3_shift H hr hno hn hbig c3 l _ _ hdd,hup]
    exact h2
   | reduce n σ u p q τ hd hq =>
    obtain ⟨hn,hp,hdd⟩:=dd_reduce H hr hno hd
    obtain ⟨c1,c2,c3⟩:=colU_nx hT hf
    rw [c1] at hdd
    obtain ⟨p',q',ρ',γ',hp',g1,g2,g3,g4,g5,g6, -⟩:=vs_step O hB hV (rs_of hd hq)
    have eq:q'=q∧ρ'=τ∧(prodAt (gr st l3) p').1=(prodAt (gr st l3) p).1 ∨ True:=.inr trivial
    obtain ⟨hpl,hIp,_⟩:=O.red _ _ _ hd
    obtain ⟨q2,τ2,γ2,b1,b2,b3,b4⟩:=pops O hB (right_of hpl) _ n σ γ hV hIp (Nat.le_refl _)
    rw [hq] at b1
    injection b1 with b5 b6
    subst b5
    subst b6
    obtain ⟨y,hy,hyb⟩:=hB.from_ q p hpl b4
    obtain ⟨_,t,_,hgo,_⟩:=go_item H hr hy hyb
    have hqK:q < K.length:=hy.lt.1
    obtain ⟨K1,h1⟩:=ih w e1 hpre2 ⟨_,.push q τ γ2 _ y b2 hy hyb⟩ r w' e2 hbad hE
    refine ⟨K1+3,fun k hk=>?_⟩
    obtain ⟨k,rfl⟩:∃ j,k=j+3:=⟨k - 3,by omega⟩
    have h2:=h1 k (by omega)
    show table_Run.l0 (k+3) l (enc (n :: σ)) (w.length:Int) l0 l1 l2 l3 st _ _ _=some r
    rw [run_fine H hr hno e1 hf hlen,j3_reduce H hr hno hn hbig c3 l _ _ hdd hp hq hqK (by rw [hgo];omega)]
    exact h2
  ·have e3:=bad_stays H hr O (.step _ _ _ s hk hs) hf
   have e4:w=w':=by
    rw [e3] at e2
    exact List.append_cancel_right (e1.symm.trans e2)
   have e5:=hbad (by rw [e3];exact hf)
   rw [e5,← e4]
   cases ha:a.2 with
   | nil=>rw [ha] at hf;exact absurd (fun t v e=>by cases e) hf
   | cons t v =>
    rw [ha] at e1 hf
    refine run_bad H hr hno e1 ?_ hlen _
    refine Classical.byContradiction fun hc=>hf fun t' v' e=>?_
    injection e with e _
    subst e
    omega
theorem run_answer (O:Only (gr st l3) (Mk l0 l1 l2 l3 st K N F) (ItK l3 st K) (LaK F)) {l:List Int} (hlen:l.length≤1000000) (hK:0 < K.length)
  (hH:∀ τ u,Lr.Steps (gr st l3) (Mk l0 l1 l2 l3 st K N F) 0 ([0],l) (τ,u)→Halts (gr st l3) (Mk l0 l1 l2 l3 st K N F) (nx u) τ) {n:Nat} {σ:List Nat} {w u:List Int} (hl:l=w ++ u)
  (h:Lr.Steps (gr st l3) (Mk l0 l1 l2 l3 st K N F) 0 ([0],l) (n :: σ,u)) (hstop:¬ Fine l0.length u ∨ (Mk l0 l1 l2 l3 st K N F).dd n (nx u)=.wrong ∨ (Mk l0 l1 l2 l3 st K N F).dd n (nx u)=.accept) :
  ∃ ok,Ev (runL l0 l1 l2 l3 st K N F l [0] 0) (ok,(w.length:Int))∧(ok=true ↔ Fine l0.length u∧(Mk l0 l1 l2 l3 st K N F).dd n (nx u)=.accept):=by
 have hfew:=H.few
 have hT:=H.ord.gram.hT
 have hκ:=go_lt H hr hK
 have start:∀ r,(¬ Fine l0.length u→r=(false,(w.length:Int)))→Ev (runL l0 l1 l2 l3 st K N F l (enc (n :: σ)) (w.length:Int)) r→Ev (runL l0 l1 l2 l3 st K N F l [0] 0) r :=
  fun r hb hE=>link H hr hno O hlen hK hH h [] rfl (.refl _) ⟨_,.base⟩ r w hl hb hE
 by_cases hf:Fine l0.length u
 ·obtain ⟨c1,c2,c3⟩:=colU_nx hT hf
  have hin:=all_lt O hκ h (by intro x hx;rw [List.mem_singleton.1 hx];exact hK)
  have hn:n < K.length:=hin n (by simp)
  have hll:l.length=w.length+u.length:=by rw [hl,List.length_append]
  have hhi:=high hκ hH w.length (n :: σ) u h (by omega)
  have hbig:(n :: σ).length < 17592186044416:=by
   have:w.length * (K.length+1)≤1000000 * 2004:=Nat.mul_le_mul (by omega) (by omega)
   omega
  have edd:(Mk l0 l1 l2 l3 st K N F).dd n (nx u)=dOf (oneD (deedsP l0 l1 l2 l3 st K N F n (colU l0.length u))):=by
   show (if n < K.length∧(nx u < l0.length ∨ nx u=63) then dOf (oneD (deedsP l0 l1 l2 l3 st K N F n (colB l0.length (nx u)))) else .wrong)=_
   rw [if_pos ⟨hn,c2⟩,c1]
  have h12:(oneD (deedsP l0 l1 l2 l3 st K N F n (colU l0.length u))).f0≠1∧(oneD (deedsP l0 l1 l2 l3 st K N F n (colU l0.length u))).f0≠2:=by
   rw [edd] at hstop
   constructor
   ·intro e
    unfold dOf at hstop
    rw [if_pos e] at hstop
    rcases hstop with h | h | h
    ·exact h hf
    ·cases h
    ·cases h
   ·intro e
    unfold dOf at hstop
    rw [if_neg (by omega),if_pos e] at hstop
    rcases hstop with h | h | h
    ·exact h hf
    ·cases h
    ·cases h
  refine ⟨_,start (decide ((oneD (deedsP l0 l1 l2 l3 st K N F n (colU l0.length u))).f0=3),(w.length:Int)) (fun h=>absurd hf h) ⟨3,fun k hk=>?_⟩, ?_⟩
  ·obtain ⟨k,rfl⟩:∃ j,k=j+3:=⟨k - 3,by omega⟩
   show table_Run.l0 (k+3) l (enc (n :: σ)) (w.length:Int) l0 l1 l2 l3 st _ _ _=_
   rw [run_fine H hr hno hl hf hlen,j3_end H hr hno hn hbig c3 l _ _ h12.1 h12.2]
  ·rw [decide_eq_true_iff,edd]
   unfold dOf
   rw [if_neg h12.1,if_neg h12.2]
   constructor
   ·intro e;rw [if_pos e];exact ⟨hf,rfl⟩
   ·rintro ⟨_,e⟩
    refine Classical.byContradiction fun hc=>?_
    rw [if_neg hc] at e
    cases e
 ·cases hu:u with
  | nil=>rw [hu] at hf;exact absurd (fun t v e=>by cases e) hf
  | cons t v =>
   refine ⟨false,start _ (fun _=>rfl) (run_bad H hr hno (by rw [← hu];exact hl) ?_ hlen _), ?_⟩
   ·refine Classical.byContradiction fun hc=>hf fun t' v' e=>?_
    rw [hu] at e
    injection e with e _
    subst e
    omega
   ·rw [← hu]
    exact ⟨(fun h=>by cases h),fun h=>absurd h.1 hf⟩
theorem run_ev (hB:Ev (fun k=>table_Build.f k l0 l1 l2 l3 st) (dsP l0 l1 l2 l3 st K N F K.length,nsP l0 N K.length,msP l0 l1 l2 l3 st K N F K.length,0)) {l:List Int} {r:Bool × Int} (h:Ev (runL l0 l1 l2 l3 st K N F l [0] 0) r) :
  Ev (fun k=>table_Run.f k l0 l1 l2 l3 st (dsP l0 l1 l2 l3 st K N F K.length) (nsP l0 N K.length) (msP l0 l1 l2 l3 st K N F K.length) l) r:=by
 obtain ⟨K1,h1⟩:=hB
 obtain ⟨K2,h2⟩:=h
 have hv:=H.ord.valid
 refine ⟨K1+K2+1,fun k hk=>?_⟩
 have h3:=h1 k (by omega)
 obtain ⟨k,rfl⟩:∃ j,k=j+1:=⟨k - 1,by omega⟩
 have h4:=h2 (k+1) (by omega)
 dsimp only at h3 h4 ⊢
 have hs:table_same.f (k+1) (dsP l0 l1 l2 l3 st K N F K.length) (nsP l0 N K.length) (msP l0 l1 l2 l3 st K N F K.length) (dsP l0 l1 l2 l3 st K N F K.length) (nsP l0 N K.length) (msP l0 l1 l2 l3 st K N F K.length)=some true:=by
  unfold table_same.f
  rw [if_pos ⟨rfl,rfl,rfl⟩]
 have hva:inst_Valid.f l0 l1 l2 l3 st=some true:=by
  unfold inst_Valid.f
  rw [hv]
 unfold table_Run.f
 rw [h3,Option.bind_some]
 simp only
 rw [if_pos trivial,hva,Option.bind_some,if_pos rfl,hs,Option.bind_some,if_pos rfl]
 exact h4
end
end
section
theorem table_cases2 {l0:List S65} {l1:List S73} {l2:List ByteArray} {l3:List S68} {st:Int} (hr:∀ p ∈ l3,∀ s ∈ p.f2, -9223372036854775808≤s∧s≤9223372036854775807) :
  (∃ e,e≠0∧∃ t:List (List S53) × List (List Int) × List Int,Ev (fun k=>table_Build.f k l0 l1 l2 l3 st) (t.1,t.2.1,t.2.2,e)) ∨
  ∃ K N F,Aheads l0 l1 l2 l3 st K N F∧Ev (fun k=>look_rows.f k l0 l1 l2 l3 st (K.map (·.map ofI)) N) (LRows (gr st l3) F K)∧¬ Clash l0 l1 l2 l3 st K N F ∧
   Ev (fun k=>table_Build.f k l0 l1 l2 l3 st) (dsP l0 l1 l2 l3 st K N F K.length,nsP l0 N K.length,msP l0 l1 l2 l3 st K N F K.length,0):=by
 rcases table_cases (l0:=l0) (l1:=l1) (l2:=l2) (l3:=l3) (st:=st) hr with ⟨e,he,_,hB⟩ | ⟨K,N,F,H,hS,hA,⟨_,hB⟩ | ⟨hno,hB⟩⟩
 ·exact .inl ⟨e,he,([],[],[]),⟨0,fun k _=>hB k⟩⟩
 ·exact .inl ⟨16,by decide,([],[],[]),hB⟩
 ·rcases all_cases (l0:=l0) (l1:=l1) (l2:=l2) (st:=st) hr with ⟨e,he,hA'⟩ | ⟨K',N',F',H',hS',hE',_⟩
  ·-- the automaton is built
   exfalso
   have h1:=hA' 0
   unfold look_All.f at h1
   rw [hS,Option.bind_some] at h1
   replace h1:(look_rows.f 0 l0 l1 l2 l3 st (K.map (·.map ofI)) N).map (fun r=>(r,(0:Int)))=some ([],e):=h1
   obtain ⟨x,_,hx⟩:=Option.map_eq_some_iff.1 h1
   injection hx with _ hx
   exact he hx.symm
  ·by_cases hno':Clash l0 l1 l2 l3 st K' N' F'
   ·rcases table_ev H' hr hS' hE' with ⟨_,hB'⟩ | ⟨h,_⟩
    ·exact .inl ⟨16,by decide,([],[],[]),hB'⟩
    ·exact absurd hno' h
   ·rcases table_ev H' hr hS' hE' with ⟨h,_⟩ | ⟨_,hB'⟩
    ·exact absurd h hno'
    ·exact .inr ⟨K',N',F',H',hE',hno',hB'⟩
section
variable {l0:List S65} {l1:List S73} {l2:List ByteArray} {l3:List S68} {st:Int} {K:List (List Itm)} {N:List (List Int)} {F:Spt→Int} (H:Aheads l0 l1 l2 l3 st K N F) (hr:∀ p ∈ l3,∀ s ∈ p.f2, -9223372036854775808≤s∧s≤9223372036854775807) (hno:¬ Clash l0 l1 l2 l3 st K N F)
include H hr hno
theorem states_some:0 < K.length:=by
 obtain ⟨h,_⟩:=List.getElem?_eq_some_iff.1 H.bui.first
 exact h
theorem empty_der:rdOf false (eR l2 l3) st=true ↔ Der (gr st l3) [-1 - (gr st l3).start] []:=by
 have h0:=H.ord.lo
 have h1:=H.ord.hi
 constructor
 ·intro h
  have:=eR_der H.ord (st:=st) st.toNat (by omega) h
  rw [show ((st.toNat:Nat):Int)=st by omega] at this
  exact this
 ·intro h
  have:=(der_eR H.ord h rfl (-1 - (gr st l3).start) (by simp)).2
  have e:-1 - (-1 - (gr st l3).start)=st:=by show -1 - (-1 - st)=st;omega
  rw [e] at this
  exact this
theorem run_empty (hE:Ev (fun k=>look_rows.f k l0 l1 l2 l3 st (K.map (·.map ofI)) N) (LRows (gr st l3) F K)):Ev (runL l0 l1 l2 l3 st K N F [] [0] 0) (rdOf false (eR l2 l3) st,0):=by
 have hO:=okay H hr hno
 have O:=only H hr hno hE
 have S:=seat H hr
 have hK:=states_some H hr hno
 have hfine:Fine l0.length []:=fun t v e=>by cases e
 cases he:rdOf false (eR l2 l3) st with
 | true =>
  obtain ⟨m,τ,h1,h2⟩:=accepts hO S.beg S.begLa ((empty_der H hr hno).1 he)
  have h0:=h1.less (Nat.zero_le _)
  have hstop:rs (gr st l3) (Mk l0 l1 l2 l3 st K N F) 63 (m :: τ)=none:=by rw [rs_cons,h2]
  have hh:Halts (gr st l3) (Mk l0 l1 l2 l3 st K N F) 63 [0]:=(steps_red h0 rfl).halts (.stop _ hstop)
  obtain ⟨ok,h3,h4⟩:=run_answer H hr hno O (l:=[]) (by simp) hK (fun τ u hs=>by
   have hl:=steps_len hs
   obtain rfl:u=[]:=List.length_eq_zero_iff.1 (by simpa using hl)
   exact (steps_red hs rfl).halts' hh) (w:=[]) (u:=[]) rfl h0 (.inr (.inr h2))
  have:ok=true:=h4.2 ⟨hfine,h2⟩
  rw [this] at h3
  exact h3
 | false =>
  have hn:¬ Der (gr st l3) [-1 - (gr st l3).start] []:=fun h=>by rw [(empty_der H hr hno).2 h] at he;cases he
  have h2:=not_empty hO O hn
  have hstop:rs (gr st l3) (Mk l0 l1 l2 l3 st K N F) 63 [0]=none:=by rw [rs_cons,h2]
  obtain ⟨ok,h3,h4⟩:=run_answer H hr hno O (l:=[]) (by simp) hK (fun τ u hs=>by
   have hl:=steps_len hs
   obtain rfl:u=[]:=List.length_eq_zero_iff.1 (by simpa using hl)
   exact (steps_red hs rfl).halts' (.stop _ hstop)) (n:=0) (σ:=[]) (w:=[]) (u:=[]) rfl (.refl _) (.inr (.inl h2))
  cases hok:ok with
  | true =>
   have:=(h4.1 hok).2
   have e:(Mk l0 l1 l2 l3 st K N F).dd 0 (nx [])=.wrong:=h2
   rw [e] at this
   cases this
  | false=>rw [hok] at h3;exact h3
end
end
end Go.Proofs.YtclollnicbcooaaGreatDoor.P
namespace Go.Proofs.YtclollnicbcooaaGreatDoor.Pure
open Go.RowKit YtclollnicbcooaaGreatDoorW.PrintWords YtclollnicbcooaaGreatDoorW.PrintLast YtclollnicbcooaaGreatDoorW.PrintMore St P Bitty
theorem TableEmpty (x0:S27) (w0:wf27 x0):∃ k,sl16_TableEmpty.f k x0.f0 x0.f1 x0.f2 x0.f3 x0.f4=some true:=by
 have hr:=prods_range w0
 obtain ⟨b,hb⟩:=little_ev x0.f0 x0.f1 x0.f2 x0.f3 x0.f4
 refine Ev.rounds ?_
 unfold sl16_TableEmpty.f
 refine Ev.bind table_works ?_
 refine Ev.congr (fun k=>if_pos rfl) ?_
 refine Ev.bind hb ?_
 cases b with
 | false=>exact Ev.congr (fun k=>if_neg (by decide)) (Ev.now true)
 | true =>
  refine Ev.congr (fun k=>if_pos rfl) ?_
  rcases table_cases2 (l0:=x0.f0) (l1:=x0.f1) (l2:=x0.f2) (l3:=x0.f3) (st:=x0.f4) hr with ⟨e,he,t,hB⟩ | ⟨K,N,F,H,hE,hno,hB⟩
  ·refine Ev.bind hB ?_
   exact Ev.congr (fun k=>if_neg he) (Ev.now true)
  ·refine Ev.bind hB ?_
   refine Ev.congr (fun k=>if_pos rfl) ?_
   refine Ev.bind (run_ev H hr hno hB (run_empty H hr hno hE)) ?_
   refine Ev.congr (fun k=>if_pos rfl) ?_
   refine Ev.bind ⟨61,fun k hk=>Empty_is H.ord k hk⟩ ?_
   have h0:=H.ord.lo
   have h1:=H.ord.hi
   have hl:=eR_len x0.f2 x0.f3
   refine Ev.congr (fun k=>(if_pos h0).trans (if_pos (by omega))) ?_
   have e:(rdOf false (eR x0.f2 x0.f3) x0.f4 == rdOf false (eR x0.f2 x0.f3) x0.f4)=true:=beq_self_eq_true _
   simp only [e]
   exact Ev.now true
end Go.Proofs.YtclollnicbcooaaGreatDoor.Pure
namespace Go.Proofs.YtclollnicbcooaaGreatDoor.Glob
open Go.ChangeShapes Go.WideShapes Go.ChangeAt Go.RowKit
def laidL : List (String × DataW Unit) := [("math/bits.deBruijn32tab", Rows.laid_math_bits_deBruijn32tab), ("math/bits.deBruijn64tab", Rows.laid_math_bits_deBruijn64tab), ("internal/strconv.uint64pow10", Rows.laid_internal_strconv_uint64pow10)]
theorem named : Tryz.prog.globalNamed "internal/strconv.uint64pow10" = some 0 := by kernel_rfl
theorem typed:(Tryz.prog.globals[0]?).map (·.type)=some 161:=by kernel_rfl
theorem und172:Tryz.prog.underlying 161=some (.array 20 47):=by kernel_rfl
theorem und75:Tryz.prog.underlying 47=some (.int .u64):=by kernel_rfl
theorem cells172:Tryz.prog.cellsOf 161=20:=by kernel_rfl
theorem cells75:Tryz.prog.cellsOf 47=1:=by kernel_rfl
theorem table_is:(Rows.laid_internal_strconv_uint64pow10:DataW Unit)=Lib.tabData .u64 Lib.pow10Tab:=by rfl
theorem of_laid {W:World} (h:laidMet Tryz.prog laidL W):P.GTab W:=by
 obtain ⟨g', t', cs, fuel, p, hg', ht', hvar, hd⟩ := Lib.laidMet.reads h (n := "internal/strconv.uint64pow10") (d := Rows.laid_internal_strconv_uint64pow10) (List.mem_cons_of_mem _ (List.mem_cons_of_mem _ List.mem_cons_self))
 obtain rfl:=Option.some.inj (named.symm.trans hg')
 obtain rfl:=Option.some.inj (typed.symm.trans ht')
 rw [table_is] at hd
 unfold P.GTab Lib.TabIs
 rw [hvar,← Lib.cells_of_tab und172 und75 cells75 cells172 hd]

def litCells:DataW Unit→Array Value
 | .agg l=>(l.map fun | .lit (.int k z)=>Value.int k z | _=>Value.int .i64 0).toArray
 | _=>#[]
noncomputable def laidWorld (os:Os):World :=
 let w:=World.holding Tryz.prog os ⟨#[],#[],[]⟩
 let put (b:Nat) (cs:Array Value) (h:Array Obj):Array Obj:=h.modify b fun
   | .cells _ t frozen=>.cells cs t frozen
   | o=>o
 { w with heap:=put 0 (litCells Rows.laid_internal_strconv_uint64pow10) (put 1 (litCells Rows.laid_math_bits_deBruijn32tab) (put 2 (litCells Rows.laid_math_bits_deBruijn64tab) w.heap)) }
theorem laid_met (os:Os) (args:Array Value):laidMet Tryz.prog laidL ((laidWorld os).forCall (fun _ _=>0) ⟨#[],args,[]⟩).memory :=
 laidMet_of_run' 8 (by kernel_rfl) (by kernel_rfl)
end Go.Proofs.YtclollnicbcooaaGreatDoor.Glob
