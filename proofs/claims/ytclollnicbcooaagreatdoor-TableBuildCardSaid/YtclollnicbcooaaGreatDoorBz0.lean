/- Texts of this claim put together: WWords, WLast, WTab, WFour, WQPut, WApart, WArr, WZeros, WFoot, WKept, WShare, WN, WFootNe, WAt, WEqStruct, WRepsOne, WInv, WInvWords, WGuard, WNEv, WMore, Px0, Zh, Lt, StP, StB, StK, StC, StD, StR, Px2, SBase, SOdd, SRise, SBelow, SRiseT, SRiseP. -/
import Derived.Below
import Derived.Deep.Draws
import Derived.Deep.AppendLies
import Derived.Maps.AppendAt
import Derived.OwnWalk
import Derived.Laws.BytesArg
import Derived.Laws.MakeOwn
import Derived.Laws.OwnMore
import Derived.Deep.OwnRows
import Derived.Tactics
import Derived.Lib.ConvBytes
import Derived.Laws.Slices
import Derived.WalkKit
import Derived.KernelRfl
import Derived.RowKit3
import Derived.Deep.LoopGhost
import Derived.Deep.QuietTactic
import Derived.BigQuiet
import Derived.WideLaws
import Derived.Deep.DeepCutAuto
import Derived.Deep.CutBlock
import Derived.Deep.RegionHeld3
import Derived.Laws.Rows
import Derived.Lib.AppendStr
import Derived.ArgAppend
import Derived.Laws.IdiomCopy
import Derived.RowKit
import Derived.OrdersHeld
import Derived.Laws.BitsLemmas
import Derived.Laws.StructEq
import Derived.Test.YtclollnicbcooaaGreatDoorProg
import Init.Data.List.Lemmas
import Derived.Lib.ItoaMem
import Derived.Laws.Strings
import Derived.IntWalk
import Derived.Deep.Quiet
import Derived.Tactics2
set_option linter.unusedVariables false
set_option linter.unusedSimpArgs false
set_option linter.unusedSectionVars false
section
-- PRINTED BY print.sh 35421559b90ae4d0a3588c463048766b98c2df88dd9212a6774a882060cdf62d: not written by this session
-- PRINTED WORDS (module Derived/Print/Words.lean): go-wishes' parts 1 to 38 and go-gate-2's additions: AI agents of Go's test side, Mon Nov 16 2026; no person has read them. Plain theorems and definitions: no macro, no elab, no axiom.
namespace Go.Proofs.YtclollnicbcooaaGreatDoorW.PrintWords
open Go.RowKit

structure Aside0 (p:Prop):Prop where mk :: (out:p)
structure Drawn0 (w w':World):Prop where mk :: (out:∃ n,w'=w.drewN n)
theorem Drawn0.refl (w:World):Drawn0 w w:=⟨⟨0,rfl⟩⟩
theorem Drawn0.step {w w':World} (h:Drawn0 w w') (n:Nat):Drawn0 w (w'.drewN n):=by
  obtain ⟨m,rfl⟩:=h
  exact ⟨⟨m+n,World.drewN_drewN ..⟩⟩
/-! ### 1. Values and lists -/
def rd (xs:List Int) (i:Int):Int:=xs.getD i.toNat 0
def bt (s:ByteArray) (i:Int):Int:=if h:i.toNat < s.size then ((s[i.toNat]'h).toNat:Int) else 0
def nums (k:IntKind) (xs:List Int):List Value:=xs.map fun x=>.int k x
def bools (xs:List Bool):List Value:=xs.map fun x=>.bool x
def pw_strs (xs:List ByteArray):List Value:=xs.map fun x=>.string x
/-! ### 2. The world -/
theorem below_alloc {w W:World} (h:Below w.heap.size w W) (o:Obj):Below w.heap.size w (W.alloc o):=h.alloc h.size o
theorem below_drew {B:Nat} {w W:World} (h:Below B w W):Below B w W.drew:=⟨h.os,h.tape,h.output,h.size,h.block⟩
theorem pw_below_drewN {B:Nat} {w W:World} (h:Below B w W) (n:Nat):Below B w (W.drewN n):=⟨h.os,h.tape,h.output,h.size,h.block⟩
theorem below_then {B:Nat} {w w1 w2:World} (h:Below B w w1) (hB:B≤w1.heap.size) (k:Below w1.heap.size w1 w2):Below B w w2 :=
  h.trans ⟨k.os,k.tape,k.output,k.size,fun i hi=>k.block i (Nat.lt_of_lt_of_le hi hB)⟩
theorem pw_cell_below {w w1:World} (h:Below w.heap.size w w1) {a:Addr} {v:Value} (hc:w.cell? a=some v):w1.cell? a=some v:=(h.cell (World.block_lt_of_cell? w a hc)).trans hc

theorem add_plain (g j:Nat):(⟨g,0,none⟩:Addr).add j=⟨g,j,none⟩:=by unfold Addr.add;split <;> simp_all

/-! ### 3. A slice of whole numbers that is read; nil, empty and other slices alike -/
def ReadsInt (w:World) (k:IntKind) (A:Option Addr) (n:Nat) (xs:List Int):Prop :=
  xs.length=n∧n≤9223372036854775807∧(0 < n→∃ ad,A=some ad∧∀ j,j < n→w.cell? (ad.add j)=some (.int k (xs.getD j 0)))
/-! ### 4. A row of the call's own -/
theorem own_nil (W:World) (base:Nat) (e:TypeId) (size:Nat):W.ownsRow base e size (.slice none 0 0) 0 []:=⟨by simp,.inl ⟨rfl,rfl⟩⟩
theorem own_base {w:World} {base:Nat} {e:TypeId} {size n:Nat} {v:Value} {xs:List Value} (h:w.ownsRow base e size v n xs) (k:Nat) (hk:v.ownBlock=some k):base≤k:=by
  rcases h.2 with ⟨rfl,_⟩ | ⟨g,cap,cur,rfl,hb,_⟩
  · simp [Value.ownBlock] at hk
  · have:g=k:=by simpa [Value.ownBlock] using hk
    omega
theorem own_lt {w:World} {base:Nat} {e:TypeId} {size n:Nat} {v:Value} {xs:List Value} (h:w.ownsRow base e size v n xs) (k:Nat) (hk:v.ownBlock=some k):k < w.heap.size:=by
  rcases h.2 with ⟨rfl,_⟩ | ⟨g,cap,cur,rfl,hb,hh,_⟩
  · simp [Value.ownBlock] at hk
  · have:g=k:=by simpa [Value.ownBlock] using hk
    subst this
    exact (Array.getElem?_eq_some_iff.1 hh).1
theorem own_slice {w:World} {base n:Nat} {e:TypeId} {size:Nat} {v:Value} {xs:List Value} (h:w.ownsRow base e size v n xs):∃ A c,v=.slice A n c:=by
  rcases h.2 with ⟨rfl,rfl⟩ | ⟨g,cap,cur,rfl,_⟩
  · exact ⟨none,0,rfl⟩
  · exact ⟨_,cap,rfl⟩
/-! ### 5. append(v, x): behind 'at_builtin'; the goal's world is 'W.alloc' of the variadic's box -/
section
variable {P:Program} {ops:Array Oper} {rest:List Oper} {o:Oper} {a:Act} {Q:Exit→Act→World→Prop}

end

/-! ### 6. make([]T, n), n an Int; a literal -/
section
variable {P:Program}
end
/-! ### 8. append(v, ys...): ys a slice that is read, nil let in; behind 'at_builtin' -/
section
variable {P:Program} {ops:Array Oper} {rest:List Oper} {o:Oper} {a:Act} {Q:Exit→Act→World→Prop}
end

/-! ### 9. []byte(s): a slice that is read (its row bears a conversion's mark: no row of one's own); cuts of a slice that is read -/
def bytesOf (s:ByteArray):List Int:=s.data.toList.map fun b=>(b.toNat:Int)
/-! ### 10. Rounds: more rounds give the same answer; what ends gives a number of rounds -/
def LeO {α:Type} (a b:Option α):Prop:=∀ r,a=some r→b=some r
theorem LeO.refl {α:Type} (a:Option α):LeO a a:=fun _ h=>h
theorem LeO.trans {α:Type} {a b c:Option α} (h:LeO a b) (k:LeO b c):LeO a c:=fun r hr=>k r (h r hr)
theorem LeO.ite {α:Type} {c:Prop} [Decidable c] {a a' b b':Option α} (h:LeO a a') (k:LeO b b'):LeO (if c then a else b) (if c then a' else b'):=by
  split
  · exact h
  · exact k
theorem LeO.bind {α β:Type} {a a':Option α} {f f':α→Option β} (h:LeO a a') (k:∀ x,LeO (f x) (f' x)):LeO (a.bind f) (a'.bind f'):=by
  intro r hr
  obtain ⟨x,hx,hf⟩:=Option.bind_eq_some_iff.1 hr
  exact Option.bind_eq_some_iff.2 ⟨x,h x hx,k x r hf⟩
theorem more_rounds {α:Type} {g:Nat→Option α} (h:∀ k,LeO (g k) (g (k+1))) (k:Nat):∀ j,LeO (g k) (g (k+j))
  | 0=>LeO.refl _
  | j+1=>(more_rounds h k j).trans (h (k+j))
theorem at_rounds {α:Type} {g:Nat→Option α} (h:∀ k,LeO (g k) (g (k+1))) {k k':Nat} (hk:k≤k') {r:α} (hr:g k=some r):g k'=some r:=by
  have:=more_rounds h k (k' - k) r hr
  rwa [Nat.add_sub_cancel' hk] at this
/-! ### 11. Rows of elements of several cells (structs): read, made. R: what an element's cells say ('RepItem w': printed for each type) -/
def Reps {α:Type} (R:α→List Value→Prop) (size:Nat) (ps:List α) (cs:List Value):Prop :=
  cs.length=ps.length * size∧∀ j p,ps[j]? = some p→R p ((cs.drop (j * size)).take size)
theorem Reps.none {α:Type} (R:α→List Value→Prop) (size:Nat):Reps R size [] []:=⟨by simp,fun j p h=>by simp at h⟩
theorem Reps.snoc {α:Type} {R:α→List Value→Prop} {size:Nat} {ps:List α} {cs c:List Value} {p:α} (h:Reps R size ps cs) (hp:R p c) (hc:c.length=size):Reps R size (ps ++ [p]) (cs ++ c):=by
  refine ⟨by rw [List.length_append,h.1,hc,List.length_append,List.length_singleton,Nat.add_mul,Nat.one_mul],fun j q hq=>?_⟩
  rcases Nat.lt_or_ge j ps.length with hj | hj
  · rw [List.getElem?_append_left hj] at hq
    have h1:j * size+size≤cs.length:=by rw [h.1,← Nat.succ_mul];exact Nat.mul_le_mul_right _ hj
    have h2:=h.2 j q hq
    rw [List.drop_append_of_le_length (by omega),List.take_append_of_le_length (by rw [List.length_drop];omega)]
    exact h2
  · have hj':j=ps.length:=by
      have:=(List.getElem?_eq_some_iff.1 hq).1
      rw [List.length_append,List.length_singleton] at this
      omega
    subst hj'
    have hq':p=q:=by simpa using hq
    subst hq'
    rw [← h.1,List.drop_left,← hc,List.take_length]
    exact hp
theorem Reps.imp_ {α:Type} {R R':α→List Value→Prop} {size:Nat} {ps:List α} {cs:List Value} (h:Reps R size ps cs) (hR:∀ p c,R p c→R' p c):Reps R' size ps cs:=⟨h.1,fun j p hj=>hR _ _ (h.2 j p hj)⟩

def ReadsRow {α:Type} (R:α→List Value→Prop) (size:Nat) (w:World) (A:Option Addr) (n:Nat) (ps:List α):Prop :=
  ps.length=n∧n≤9223372036854775807∧(0 < n→∃ ad,A=some ad∧∀ j p,ps[j]? = some p→∃ c,c.length=size∧R p c∧∀ i u,c[i]? = some u→w.cell? (ad.add (j * size+i))=some u)
theorem ReadsRow.get_ {α:Type} {R:α→List Value→Prop} {size:Nat} {w:World} {A:Option Addr} {n:Nat} {ps:List α} (h:ReadsRow R size w A n ps) (d:α) (i:Int) (h0:0≤i) (h1:i < n) :
    ∃ ad c,A=some ad∧c.length=size∧R (ps.getD i.toNat d) c∧∀ j u,c[j]? = some u→w.cell? (ad.add (i.toNat * size+j))=some u:=by
  obtain ⟨ad,e,hc⟩:=h.2.2 (by omega)
  have hl:i.toNat < ps.length:=by have:=h.1;omega
  obtain ⟨c,hs,hr,hcell⟩:=hc i.toNat _ (List.getElem?_eq_getElem hl)
  refine ⟨ad,c,e,hs, ?_,hcell⟩
  rw [List.getD_eq_getElem?_getD,List.getElem?_eq_getElem hl]
  exact hr
theorem ReadsRow.imp_ {α:Type} {R R':α→List Value→Prop} {size:Nat} {w w1:World} {A:Option Addr} {n:Nat} {ps:List α} (h:ReadsRow R size w A n ps) (hb:Below w.heap.size w w1) (hR:∀ p c,R p c→R' p c):ReadsRow R' size w1 A n ps :=
  ⟨h.1,h.2.1,fun hn=>by
    obtain ⟨ad,e,hc⟩:=h.2.2 hn
    refine ⟨ad,e,fun j p hj=>?_⟩
    obtain ⟨c,hs,hr,hcell⟩:=hc j p hj
    exact ⟨c,hs,hR _ _ hr,fun i u hu=>pw_cell_below hb (hcell i u hu)⟩⟩
theorem own_reads_row {α:Type} {R:α→List Value→Prop} {w:World} {base n size:Nat} {e:TypeId} {v:Value} {ps:List α} {cs:List Value} (h:w.ownsRow base e size v n cs) (hR:Reps R size ps cs) (hn:ps.length=n) :
    ∃ A c,v=.slice A n c∧ReadsRow R size w A n ps:=by
  rcases Nat.eq_zero_or_pos n with h0 | h0
  · rcases h.2 with ⟨rfl,rfl⟩ | ⟨g,cap,cur,rfl,_⟩
    · exact ⟨none,0,rfl,hn,by omega,fun hp=>absurd hp (by omega)⟩
    · exact ⟨_,cap,rfl,hn,by omega,fun hp=>absurd hp (by omega)⟩
  · obtain ⟨g,cap,rfl,_,_⟩:=h.form h0
    have hm:n≤9223372036854775807:=by
      rcases h.2 with ⟨_,h1⟩ | ⟨g',cap',cur,he,_,_,h1,h2,_⟩
      · omega
      · simp only [maxLen] at h2
        omega
    refine ⟨_,cap,rfl,hn,hm,fun _=>⟨_,rfl,fun j p hj=>⟨(cs.drop (j * size)).take size, ?_,hR.2 j p hj,fun i u hu=>?_⟩⟩⟩
    · have hjl:=(List.getElem?_eq_some_iff.1 hj).1
      have h1:j * size+size≤cs.length:=by rw [hR.1,← Nat.succ_mul];exact Nat.mul_le_mul_right _ hjl
      rw [List.length_take,List.length_drop]
      omega
    · refine h.cells (g:=g) rfl _ u ?_
      rw [List.getElem?_take] at hu
      split at hu
      · rw [List.getElem?_drop] at hu
        exact hu
      · cases hu
theorem add_field (ad:Addr) (m j:Nat) (hj:0 < j):ad.add (m+j)=⟨(ad.add m).block,(ad.add m).off+j,none⟩:=by
  unfold Addr.add
  by_cases hm:m=0
  · subst hm
    simp [Nat.ne_of_gt hj]
  · simp [hm,Nat.add_assoc]

section
variable {P:Program} {ops:Array Oper} {rest:List Oper} {o:Oper} {a:Act} {Q:Exit→Act→World→Prop}
theorem print_append_cells {w0 W:World} (base:Nat) (hgd:o.guard=none) (s x:Operand) (t e:TypeId) (z:Value) (size bytes:Nat)
    (ho:o.op=.call { callee:=.builtin .append,args:=#[s,x],argTypes:=#[t,t] })
    (ht:P.underlying t=some (.slice e)) (hinfo:(P.info? e).map (fun i=>(i.zero,i.size,i.bytes))=some (some z,size,bytes)) (hz:z.cells.size=size) (hs0:0 < size) (hb0:0 < bytes)
    (v:Value) (n:Nat) (xs ys:List Value) (hs:a.eval s=v) (hx:a.eval x=.slice (some ⟨W.heap.size,0,none⟩) 1 1) (hys:ys.length=size) (h1:∀ u ∈ ys,u.oneCell'=true)
    (HO:W.ownsRow base e size v n xs) (HB:Below base w0 W) (hbase:base≤W.heap.size) (hl:(n+1) * bytes≤140737488355328)
    (h:∀ v1 w1,w1.ownsRow base e size v1 (n+1) (xs ++ ys)→Below base w0 w1→W.grownBy w1 v.ownBlock→(v1.ownBlock=v.ownBlock ∨ ∃ b,v1.ownBlock=some b∧W.heap.size≤b)→wpList P ops Q rest (a.put o.dst v1) w1) :
    wpList P ops Q (o :: rest) a (W.alloc (.cells ys.toArray e)):=by
  obtain ⟨i0,hi,hzz⟩:=Option.map_eq_some_iff.1 hinfo
  simp only [Prod.mk.injEq] at hzz
  obtain ⟨hz0,hz1,hz2⟩:=hzz
  have hlen:n+1≤140737488355328:=Nat.le_trans (Nat.le_mul_of_pos_right _ hb0) hl
  refine wpList_append_own_at (W.alloc (.cells ys.toArray e)) hgd s x t ho base e i0 z size bytes ht hi hz0 hz1 hz2 hz hs0 v n xs hs (HO.alloc _) ⟨W.heap.size,0,none⟩ 1 1 ys hx (by rw [hys];simp)
    (by simpa using World.news_of_block (cs:=ys.toArray) (t:=e) (fr:=(0,0)) (heap_alloc_new W (.cells ys.toArray e))) h1 (by simp only [maxLen];omega) hl (by simp;omega) ?_
  intro v1 w1 hown hg _ hat
  refine h v1 w1 hown ((HB.alloc hbase _).grown hg (by simp;omega) (own_base HO)) (World.grownBy.trans (World.grownBy_alloc W _ _) hg) ?_
  rcases hat with hat | hat
  · exact .inl hat
  · exact .inr ⟨_,hat,by simp⟩
end

/-! ### 12. A block of one's own that is a state: its cells, what a store leaves -/
theorem own_ne {w:World} {base:Nat} {e t:TypeId} {size n g:Nat} {v:Value} {xs:List Value} {cs:Array Value} (h:w.ownsRow base e size v n xs) (hg:w.heap[g]? = some (.cells cs t (0,0))) (hne:e≠t):some g≠v.ownBlock:=by
  rcases h.2 with ⟨rfl,_⟩ | ⟨g',cap,cur,rfl,_,hh,_⟩
  · simp [Value.ownBlock]
  · intro he
    have:g=g':=by simpa [Value.ownBlock] using he
    subst this
    rw [hg] at hh
    injection hh with hh
    injection hh with _ ht
    exact hne ht.symm
theorem blk_set {w:World} {g:Nat} {t:TypeId} {cs:Array Value} (h:w.heap[g]? = some (.cells cs t (0,0))) (i:Nat) (u:Value):(w.setCell ⟨g,i,none⟩ u).heap[g]? = some (.cells (cs.setIfInBounds i u) t (0,0)):=by
  simp [World.setCell,Array.getElem?_modify,h]
theorem blk_far {w:World} {g:Nat} {t:TypeId} {cs:Array Value} (h:w.heap[g]? = some (.cells cs t (0,0))) {p:Addr} (hp:g≠p.block) (u:Value):(w.setCell p u).heap[g]? = some (.cells cs t (0,0)):=(Below.heap_setCell w p u g hp).trans h
theorem blk_lt {w:World} {g:Nat} {o:Obj} (h:w.heap[g]? = some o):g < w.heap.size:=(Array.getElem?_eq_some_iff.1 h).1
theorem blk_cell {w:World} {g:Nat} {t:TypeId} {cs:Array Value} (h:w.heap[g]? = some (.cells cs t (0,0))) (i:Nat):w.cell? ⟨g,i,none⟩=cs[i]?:=cell_of_row w g i cs t (0,0) h
theorem blk_frozen {w:World} {g:Nat} {t:TypeId} {cs:Array Value} (h:w.heap[g]? = some (.cells cs t (0,0))) (i:Nat):w.frozen? ⟨g,i,none⟩=false:=by simp [World.frozen?,h]
theorem blk_grown {w w1:World} {g:Nat} {o:Obj} {row:Option Nat} (h:w.heap[g]? = some o) (hg:w.grownBy w1 row) (hne:some g≠row):w1.heap[g]? = some o:=(hg.block g (blk_lt h) hne).trans h
/-! ### 13. Two states at once: what a call on the state at block g (its row before: 'row') has turned -/
def KeepBut (w w':World) (g:Nat) (row:Option Nat):Prop:=w.heap.size≤w'.heap.size∧∀ i,i < w.heap.size→i≠g→some i≠row→w'.heap[i]? = w.heap[i]?
/-! ### 10b. From some number of rounds on -/
def Ev {α:Type} (g:Nat→Option α) (r:α):Prop:=∃ K,∀ k,K≤k→g k=some r
theorem Ev.of {α:Type} {g:Nat→Option α} {r:α} (hg:∀ k,LeO (g k) (g (k+1))) {k:Nat} (h:g k=some r):Ev g r:=⟨k,fun _ hk=>at_rounds hg hk h⟩
theorem Ev.now {α:Type} (r:α):Ev (fun _=>some r) r:=⟨0,fun _ _=>rfl⟩
theorem Ev.bind {α β:Type} {g:Nat→Option α} {f:Nat→α→Option β} {a:α} {r:β} (h:Ev g a) (k:Ev (fun n=>f n a) r):Ev (fun n=>(g n).bind (f n)) r:=by
  obtain ⟨K,h⟩:=h
  obtain ⟨K',k⟩:=k
  refine ⟨max K K',fun n hn=>?_⟩
  have h1:=h n (by omega)
  have h2:=k n (by omega)
  simp only [h1,Option.bind_some]
  exact h2
theorem Ev.step {α:Type} {g f:Nat→Option α} {r:α} (h:∀ k,g (k+1)=f k) (k:Ev f r):Ev g r:=by
  obtain ⟨K,k⟩:=k
  refine ⟨K+1,fun n hn=>?_⟩
  obtain ⟨m,rfl⟩:∃ m,n=m+1:=⟨n - 1,by omega⟩
  rw [h]
  exact k m (by omega)
/-! ### 14. append as_ one step of a region that draws its order: for 'go_region_law' (and a region walked by hand) -/
section
variable {P:Program} {ops:Array Oper} {o:Oper} {a:Act} {Q:Exit→Act→World→Prop} {K:Act→World→Prop}
theorem step_append_cells {w0 W:World} (base:Nat) (hw:Region.wanted o (yielded ops a.tmps)=true) (s x:Operand) (t e:TypeId) (z:Value) (size bytes:Nat)
    (ho:o.op=.call { callee:=.builtin .append,args:=#[s,x],argTypes:=#[t,t] })
    (ht:P.underlying t=some (.slice e)) (hinfo:(P.info? e).map (fun i=>(i.zero,i.size,i.bytes))=some (some z,size,bytes)) (hz:z.cells.size=size) (hs0:0 < size) (hb0:0 < bytes)
    (v:Value) (n:Nat) (xs ys:List Value) (hs:a.eval s=v) (hx:a.eval x=.slice (some ⟨W.heap.size,0,none⟩) 1 1) (hys:ys.length=size) (h1:∀ u ∈ ys,u.oneCell'=true)
    (HO:W.ownsRow base e size v n xs) (HB:Below base w0 W) (hbase:base≤W.heap.size) (hl:(n+1) * bytes≤140737488355328)
    (h:∀ v1 w1,w1.ownsRow base e size v1 (n+1) (xs ++ ys)→Below base w0 w1→W.grownBy w1 v.ownBlock→(v1.ownBlock=v.ownBlock ∨ ∃ b,v1.ownBlock=some b∧W.heap.size≤b)→K (a.put o.dst v1) w1) :
    if Region.wanted o (yielded ops a.tmps)=true then Oper.wp P o a (W.alloc (.cells ys.toArray e)) K Q else K (a.put o.dst undef) (W.alloc (.cells ys.toArray e)):=by
  obtain ⟨i0,hi,hzz⟩:=Option.map_eq_some_iff.1 hinfo
  simp only [Prod.mk.injEq] at hzz
  obtain ⟨hz0,hz1,hz2⟩:=hzz
  have hlen:n+1≤140737488355328:=Nat.le_trans (Nat.le_mul_of_pos_right _ hb0) hl
  rw [if_pos hw]
  obtain ⟨v1,w1,hr,hown,hg,_,hat⟩:=run_append_own_at (P:=P) (W.alloc (.cells ys.toArray e)) base t o.type e i0 z size bytes ht hi hz0 hz1 hz2 hz hs0 v n xs (HO.alloc _) ⟨W.heap.size,0,none⟩ 1 1 ys (by rw [hys];simp)
    (by simpa using World.news_of_block (cs:=ys.toArray) (t:=e) (fr:=(0,0)) (heap_alloc_new W (.cells ys.toArray e))) h1 (by simp only [maxLen];omega) hl (by simp;omega)
  unfold Oper.wp execOp
  simp only [ho,resolve,invoke,builtin,Sem.run_bind,Sem.run_pure,Result.andThen_ok,List.map_toArray,List.map_cons,List.map_nil,hs,hx,hr]
  refine h v1 w1 hown ((HB.alloc hbase _).grown hg (by simp;omega) (own_base HO)) (World.grownBy.trans (World.grownBy_alloc W _ _) hg) ?_
  rcases hat with hat | hat
  · exact .inl hat
  · exact .inr ⟨_,hat,by simp⟩
end
/-! ### 15. A row's base may be lowered -/
theorem own_weaken {w:World} {base base':Nat} {e:TypeId} {size n:Nat} {v:Value} {xs:List Value} (h:w.ownsRow base e size v n xs) (hb:base'≤base):w.ownsRow base' e size v n xs:=by
  obtain ⟨h1,h2⟩:=h
  refine ⟨h1, ?_⟩
  rcases h2 with h2 | ⟨g,cap,cur,rfl,hg,r⟩
  · exact .inl h2
  · exact .inr ⟨g,cap,cur,rfl,Nat.le_trans hb hg,r⟩
/-! ### 16. Parts 3 to 9 for ANY element of one cell: 'enc' (Value.int k, Value.string, Value.bool), a default 'd' -/
section
variable {α:Type} {enc:α→Value} {d:α}
def encs (enc:α→Value) (xs:List α):List Value:=xs.map enc
def rdOf (d:α) (xs:List α) (i:Int):α:=xs.getD i.toNat d
theorem encs_length (xs:List α):(encs enc xs).length=xs.length:=by simp [encs]
theorem encs_get (xs:List α) (j:Nat) (h:j < xs.length):(encs enc xs)[j]? = some (enc (xs.getD j d)):=by
  simp [encs,List.getElem?_eq_getElem h,List.getD_eq_getElem?_getD]
def ReadsOf (enc:α→Value) (d:α) (w:World) (A:Option Addr) (n:Nat) (xs:List α):Prop :=
  xs.length=n∧n≤9223372036854775807∧(0 < n→∃ ad,A=some ad∧∀ j,j < n→w.cell? (ad.add j)=some (enc (xs.getD j d)))
theorem ReadsOf.at_ {w:World} {A:Option Addr} {n:Nat} {xs:List α} (h:ReadsOf enc d w A n xs) (i:Int) (h0:0≤i) (h1:i < n):∃ ad,A=some ad∧w.cell? (ad.add i.toNat)=some (enc (rdOf d xs i)):=by
  obtain ⟨ad,e,hc⟩:=h.2.2 (by omega)
  exact ⟨ad,e,hc _ (by omega)⟩
theorem own_at_of {W:World} {base g n cap:Nat} {e:TypeId} {xs:List α} (h:W.ownsRow base e 1 (.slice (some ⟨g,0,none⟩) n cap) n (encs enc xs)) (i:Int) (h0:0≤i) (h1:i < n) :
    W.cell? ⟨g,i.toNat,none⟩=some (enc (rdOf d xs i))∧W.frozen? ⟨g,i.toNat,none⟩=false:=by
  have hl:xs.length=n:=by have:=h.1;simp [encs] at this;exact this
  constructor
  · have hc:=h.cells (g:=g) rfl i.toNat _ (encs_get (d:=d) xs i.toNat (by omega))
    rwa [add_plain] at hc
  · rcases h.2 with ⟨h',_⟩ | ⟨g',cap',cur,h',_,hh,_⟩
    · cases h'
    · have:g=g':=by injection h' with h';injection h' with h';injection h' with h'
      subst this
      simp [World.frozen?,hh]
theorem own_store_of {W:World} {base g n cap:Nat} {e:TypeId} {xs:List α} (h:W.ownsRow base e 1 (.slice (some ⟨g,0,none⟩) n cap) n (encs enc xs)) (i:Int) (x:α) :
    (W.setCell ⟨g,i.toNat,none⟩ (enc x)).ownsRow base e 1 (.slice (some ⟨g,0,none⟩) n cap) n (encs enc (xs.set i.toNat x))∧W.grownBy (W.setCell ⟨g,i.toNat,none⟩ (enc x)) (some g):=by
  have hs:=h.stored i.toNat (enc x)
  have he:(encs enc xs).set i.toNat (enc x)=encs enc (xs.set i.toNat x):=by simp [encs,List.map_set]
  rwa [he] at hs
end
section
variable {α:Type} {P:Program} {ops:Array Oper} {rest:List Oper} {o:Oper} {a:Act} {Q:Exit→Act→World→Prop}
end

/-! ### 17. Rows of one element type held at once: no two share a block -/
def NeRow (v v':Value):Prop:=∀ k,v.ownBlock=some k→v'.ownBlock≠some k
/-! ### 18. A block behind a new one; behind a draw -/
theorem blk_alloc {w:World} {g:Nat} {o:Obj} (h:w.heap[g]? = some o) (o':Obj):(w.alloc o').heap[g]? = some o:=(Below.heap_alloc w o' g (blk_lt h)).trans h
theorem blk_drew {w:World} {g:Nat} {o:Obj} (h:w.heap[g]? = some o):w.drew.heap[g]? = some o:=h
theorem blk_drewN {w:World} {g:Nat} {o:Obj} (h:w.heap[g]? = some o) (n:Nat):(w.drewN n).heap[g]? = some o:=h
theorem blk_below {w w1:World} {g:Nat} {o:Obj} (h:w.heap[g]? = some o) (hb:Below w.heap.size w w1):w1.heap[g]? = some o:=(hb.block g (blk_lt h)).trans h
theorem blk_new (w:World) (o:Obj):(w.alloc o).heap[w.heap.size]? = some o:=heap_alloc_new w o
/-! ### 19. Results that lie in memory beside others -/
section
variable {P:Program}
theorem results_ct {fn:Func} {p u:Tmp} {ty:TypeId} (h:fn.results=#[.cell p ty,.tmp u]) (tmps:Array Value) (w:World) (g:Nat) (t:TypeId) (cs:Array Value) (fr:Nat × Nat) (d:TypeDesc)
    (hp:tmps.getD p undef=.pointer (some ⟨g,0,none⟩)) (hg:w.heap[g]? = some (.cells cs t fr))
    (hu:P.underlying ty=some d) (hd:(match d with | .struct _ | .array _ _=>true | _=>false)=true) (hi:(P.info? ty).map (·.size)=some cs.size) :
    (results fn tmps).run P w=.ok (.tuple #[.agg cs,tmps.getD u undef]) w:=by
  have hp':tmps[p]?.getD undef=.pointer (some ⟨g,0,none⟩):=by simpa using hp
  simp [results,h,hp',asAddr,run_loadVar_row w g t ty cs fr d hg hu hd hi]
end
/-! ### 20. Rows of elements of any kind: R is what an element's cells say -/
theorem own_le {w:World} {base n m c size:Nat} {e:TypeId} {A:Option Addr} {xs:List Value} (h:w.ownsRow base e size (.slice A m c) n xs):m≤c:=by
  rcases h.2 with ⟨he,_⟩ | ⟨g,cap,cur,he,_,_,hnc,_⟩
  · injection he with _ h2 h3
    omega
  · injection he with _ h2 h3
    omega
def OwnRow {α:Type} (R:α→List Value→Prop) (e:TypeId) (size:Nat) (w:World) (base:Nat) (v:Value) (ps:List α):Prop :=
  ∃ inner,w.ownsRow base e size v ps.length inner∧Reps R size ps inner
section
variable {α:Type} {R R':α→List Value→Prop} {e:TypeId} {size:Nat} {w w1:World} {base:Nat} {v:Value} {ps:List α}
theorem OwnRow.none_ (R:α→List Value→Prop) (e:TypeId) (size:Nat) (w:World) (base:Nat):OwnRow R e size w base (.slice none 0 0) []:=⟨[],own_nil _ _ _ _,Reps.none _ _⟩
theorem OwnRow.imp_ (h:OwnRow R e size w base v ps) (hR:∀ p c,R p c→R' p c):OwnRow R' e size w base v ps:=by
  obtain ⟨inner,ho,hr⟩:=h
  exact ⟨inner,ho,hr.imp_ hR⟩
theorem OwnRow.reads (h:OwnRow R e size w base v ps):∃ A c,v=.slice A ps.length c∧ps.length≤c∧ReadsRow R size w A ps.length ps:=by
  obtain ⟨inner,ho,hr⟩:=h
  obtain ⟨A,c,rfl,hrow⟩:=own_reads_row ho hr rfl
  exact ⟨A,c,rfl,own_le ho,hrow⟩
theorem OwnRow.ne_block (h:OwnRow R e size w base v ps) {g:Nat} {t:TypeId} {cells:Array Value} (hb:w.heap[g]? = some (.cells cells t (0,0))) (ht:e≠t):some g≠v.ownBlock:=by
  obtain ⟨inner,ho,hr⟩:=h
  exact own_ne ho hb ht
end
section
variable {P:Program} {ops:Array Oper} {rest:List Oper} {o:Oper} {a:Act} {Q:Exit→Act→World→Prop} {α:Type} {R:α→List Value→Prop}
end
section
variable {P:Program} {ops:Array Oper} {o:Oper} {a:Act} {Q:Exit→Act→World→Prop} {K:Act→World→Prop} {α:Type} {R:α→List Value→Prop}
end
theorem ReadsRow.inner_ {α:Type} {R:α→List Value→Prop} {size:Nat} {w:World} {ad:Addr} {n:Nat} {ps:List α} (h:ReadsRow R size w (some ad) n ps) :
    ∃ inner,Reps R size ps inner∧∀ j u,inner[j]? = some u→w.cell? (ad.add j)=some u:=by
  have key:∀ m,m≤ps.length→∃ inner,Reps R size (ps.take m) inner∧∀ j u,inner[j]? = some u→w.cell? (ad.add j)=some u:=by
    intro m
    induction m with
    | zero=>exact fun _=>⟨[],Reps.none _ _,fun j u hu=>by simp at hu⟩
    | succ m ih =>
      intro hm
      obtain ⟨inner,hr,hc⟩:=ih (by omega)
      obtain ⟨ad',he,hcell⟩:=h.2.2 (by have:=h.1;omega)
      injection he with he
      subst he
      obtain ⟨c,hcl,hp,hcc⟩:=hcell m _ (List.getElem?_eq_getElem (show m < ps.length by omega))
      refine ⟨inner ++ c, ?_,fun j u hu=>?_⟩
      · rw [List.take_succ_eq_append_getElem (show m < ps.length by omega)]
        exact hr.snoc hp hcl
      · have hil:inner.length=m * size:=by rw [hr.1,List.length_take,Nat.min_eq_left (by omega)]
        rcases Nat.lt_or_ge j inner.length with hj | hj
        · rw [List.getElem?_append_left hj] at hu
          exact hc j u hu
        · rw [List.getElem?_append_right hj] at hu
          have:=hcc (j - inner.length) u hu
          rwa [hil,Nat.add_sub_cancel' (by omega)] at this
  obtain ⟨inner,hr,hc⟩:=key ps.length (Nat.le_refl _)
  rw [List.take_length] at hr
  exact ⟨inner,hr,hc⟩
/-! ### 21. Cuts of a slice that came in, lengths spelled as_ the lists' -/
section
variable {α:Type} {P:Program}
end

/-! ### 22. append([]byte, s...), s a string; behind 'at_builtin'. (No word on where the new row lies: two rows of bytes at once don't go by it.) -/
section
variable {P:Program} {ops:Array Oper} {rest:List Oper} {o:Oper} {a:Act} {Q:Exit→Act→World→Prop}
end
/-! ### 23. KINDS: what a value's cells say, read (K) and made (M), kind by kind; every mover proved once -/
structure Kd (α:Type) where
  sz:Nat
  E:List Nat
  K:World→α→List Value→Prop
  M:World→Nat→(Nat→Prop)→α→List Value→Prop
  K_len:∀ {w x cs},K w x cs→cs.length=sz
  K_one:∀ {w x cs},K w x cs→∀ u ∈ cs,u.oneCell'=true
  K_below:∀ {w w1:World} {x cs},Below w.heap.size w w1→K w x cs→K w1 x cs
  K_of_M:∀ {w base ok x cs},M w base ok x cs→K w x cs
  M_mono:∀ {w base ok ok' x cs},(∀ k,ok k→ok' k)→M w base ok x cs→M w base ok' x cs
  M_bound:∀ {w:World} {base ok x cs},M w base ok x cs→M w base (fun k=>ok k∧base≤k∧k < w.heap.size∧∃ q,q ∈ E∧∃ cells,w.heap[k]? = some (.cells cells q (0,0))) x cs
  M_move:∀ {w w1:World} {base ok x cs},(∀ k,ok k→w1.heap[k]? = w.heap[k]?)→M w base ok x cs→M w1 base ok x cs
  M_lower:∀ {w base base' ok x cs},base'≤base→M w base ok x cs→M w base' ok x cs

theorem own_move {w w1:World} {base:Nat} {e:TypeId} {size n:Nat} {v:Value} {xs:List Value} (h:w.ownsRow base e size v n xs) (hm:∀ k,v.ownBlock=some k→w1.heap[k]? = w.heap[k]?):w1.ownsRow base e size v n xs:=by
  obtain ⟨h1,h2⟩:=h
  refine ⟨h1, ?_⟩
  rcases h2 with h2 | ⟨g,cap,cur,rfl,hg,hh,r⟩
  · exact .inl h2
  · exact .inr ⟨g,cap,cur,rfl,hg,(hm g (by simp [Value.ownBlock])).trans hh,r⟩
theorem own_typed {w:World} {base:Nat} {e:TypeId} {size n:Nat} {v:Value} {xs:List Value} (h:w.ownsRow base e size v n xs) (k:Nat) (hk:v.ownBlock=some k):∃ cells,w.heap[k]? = some (.cells cells e (0,0)):=by
  rcases h.2 with ⟨rfl,_⟩ | ⟨g,cap,cur,rfl,hg,hh,r⟩
  · simp [Value.ownBlock] at hk
  · have:g=k:=by simpa [Value.ownBlock] using hk
    subst this
    exact ⟨cur,hh⟩

namespace Kd
def C {α:Type} (d:Kd α) (w:World) (A:Option Addr) (n:Nat) (xs:List α):Prop:=ReadsRow (d.K w) d.sz w A n xs
def R {α:Type} (d:Kd α) (e:Nat) (w:World) (base:Nat) (ok:Nat→Prop) (v:Value) (xs:List α):Prop :=
  (∀ k,v.ownBlock=some k→ok k)∧OwnRow (d.M w base (fun k=>ok k∧some k≠v.ownBlock)) e d.sz w base v xs
section
variable {α:Type} {d:Kd α} {e:Nat} {w w1:World} {base:Nat} {ok ok':Nat→Prop} {v:Value} {xs:List α}
theorem C_below {A:Option Addr} {n:Nat} (h:d.C w A n xs) (hb:Below w.heap.size w w1):d.C w1 A n xs:=ReadsRow.imp_ h hb (fun _ _ hp=>d.K_below hb hp)
theorem R_nil (d:Kd α) (e:Nat) (w:World) (base:Nat) (ok:Nat→Prop):d.R e w base ok (.slice none 0 0) []:=⟨fun k hk=>by simp [Value.ownBlock] at hk,OwnRow.none_ _ _ _ _ _⟩
theorem R_mono (h:d.R e w base ok v xs) (hok:∀ k,ok k→ok' k):d.R e w base ok' v xs:=⟨fun k hk=>hok k (h.1 k hk),h.2.imp_ (fun _ _ hp=>d.M_mono (fun k hk=>⟨hok k hk.1,hk.2⟩) hp)⟩
theorem R_bound (h:d.R e w base ok v xs):d.R e w base (fun k=>ok k∧base≤k∧k < w.heap.size∧∃ q,q ∈ e :: d.E∧∃ cells,w.heap[k]? = some (.cells cells q (0,0))) v xs:=by
  obtain ⟨h0,inner,ho,hr⟩:=h
  refine ⟨fun k hk=>?_,inner,ho,hr.imp_ (fun _ _ hp=>d.M_mono (fun k hk=>?_) (d.M_bound hp))⟩
  · obtain ⟨cells,hc⟩:=own_typed ho k hk
    exact ⟨h0 k hk,own_base ho k hk,own_lt ho k hk,e,List.mem_cons_self,cells,hc⟩
  · obtain ⟨⟨h1,h2⟩,h3,h4,q,hq,hc⟩:=hk
    exact ⟨⟨h1,h3,h4,q,List.mem_cons_of_mem _ hq,hc⟩,h2⟩
theorem R_move (h:d.R e w base ok v xs) (hm:∀ k,ok k→w1.heap[k]? = w.heap[k]?):d.R e w1 base ok v xs:=by
  obtain ⟨h0,inner,ho,hr⟩:=h
  exact ⟨h0,inner,own_move ho (fun k hk=>hm k (h0 k hk)),hr.imp_ (fun _ _ hp=>d.M_move (fun k hk=>hm k hk.1) hp)⟩
theorem R_lower {base':Nat} (h:d.R e w base ok v xs) (hb:base'≤base):d.R e w base' ok v xs:=by
  obtain ⟨h0,inner,ho,hr⟩:=h
  exact ⟨h0,inner,own_weaken ho hb,hr.imp_ (fun _ _ hp=>d.M_lower hb hp)⟩
theorem R_step (h:d.R e w base ok v xs) (hm:∀ k,ok k→k < w.heap.size→w1.heap[k]? = w.heap[k]?):d.R e w1 base ok v xs :=
  R_mono (R_move (R_bound h) (fun k hk=>hm k hk.1 hk.2.2.1)) (fun _ hk=>hk.1)
theorem M_step {x:α} {cs:List Value} (h:d.M w base ok x cs) (hm:∀ k,ok k→k < w.heap.size→w1.heap[k]? = w.heap[k]?):d.M w1 base ok x cs :=
  d.M_mono (fun _ hk=>hk.1) (d.M_move (fun k hk=>hm k hk.1 hk.2.2.1) (d.M_bound h))
theorem R_below (h:d.R e w base ok v xs) (hb:Below w.heap.size w w1):d.R e w1 base ok v xs:=R_step h (fun k _ hk=>hb.block k hk)
theorem M_below {x:α} {cs:List Value} (h:d.M w base ok x cs) (hb:Below w.heap.size w w1):d.M w1 base ok x cs:=M_step h (fun k _ hk=>hb.block k hk)
theorem R_grown (h:d.R e w base ok v xs) {row:Option Nat} (hg:w.grownBy w1 row) (hok:∀ k,ok k→some k≠row):d.R e w1 base ok v xs:=R_step h (fun k ho hk=>hg.block k hk (hok k ho))
theorem R_far (h:d.R e w base ok v xs) {p:Addr} (hok:∀ k,ok k→k≠p.block) (u:Value):d.R e (w.setCell p u) base ok v xs:=R_step h (fun k ho _=>Below.heap_setCell w p u k (hok k ho))
theorem R_types (h:d.R e w base ok v xs) {g t:Nat} {cells:Array Value} (hb:w.heap[g]? = some (.cells cells t (0,0))) (ht:∀ q,q ∈ e :: d.E→q≠t):d.R e w base (fun k=>ok k∧k≠g) v xs :=
  R_mono (R_bound h) (fun k hk=>⟨hk.1,by
    obtain ⟨_,_,_,q,hq,cells',hc⟩:=hk
    rintro rfl
    rw [hc] at hb
    injection hb with hb
    injection hb with _ hb
    exact ht q hq hb⟩)
theorem R_reads (h:d.R e w base ok v xs):∃ A c,v=.slice A xs.length c∧xs.length≤c∧d.C w A xs.length xs:=by
  obtain ⟨A,c,he,hl,hr⟩:=OwnRow.reads h.2
  exact ⟨A,c,he,hl,hr.imp_ (Below.refl _ _) (fun _ _ hp=>d.K_of_M hp)⟩
theorem R_slice (h:d.R e w base ok v xs):∃ A c,v=.slice A xs.length c:=by
  obtain ⟨A,c,he,_⟩:=R_reads h
  exact ⟨A,c,he⟩
theorem R_own (h:d.R e w base ok v xs):∃ inner,w.ownsRow base e d.sz v xs.length inner:=by
  obtain ⟨_,inner,ho,_⟩:=h
  exact ⟨inner,ho⟩
theorem R_ne (h:d.R e w base ok v xs) {g t:Nat} {cells:Array Value} (hb:w.heap[g]? = some (.cells cells t (0,0))) (ht:e≠t):some g≠v.ownBlock:=OwnRow.ne_block h.2 hb ht
end

/-! #### the kinds -/
def scalar {α:Type} (enc:α→Value) (h1:∀ x,(enc x).oneCell'=true):Kd α where
  sz:=1
  E:=[]
  K:=fun _ x cs=>cs=[enc x]
  M:=fun _ _ _ x cs=>cs=[enc x]
  K_len:=fun h=>by rw [h];rfl
  K_one:=fun h u hu=>by
    rw [h] at hu
    rw [List.mem_singleton.1 hu]
    exact h1 _
  K_below:=fun _ h=>h
  K_of_M:=fun h=>h
  M_mono:=fun _ h=>h
  M_bound:=fun h=>h
  M_move:=fun _ h=>h
  M_lower:=fun _ h=>h
def int (k:IntKind):Kd Int:=scalar (Value.int k) (fun _=>rfl)
def bool:Kd Bool:=scalar Value.bool (fun _=>rfl)
def string:Kd ByteArray:=scalar Value.string (fun _=>rfl)
def slice {α:Type} (e:Nat) (d:Kd α):Kd (List α) where
  sz:=1
  E:=e :: d.E
  K:=fun w xs cs=>∃ A c,cs=[.slice A xs.length c]∧xs.length≤c∧d.C w A xs.length xs
  M:=fun w base ok xs cs=>∃ v,cs=[v]∧d.R e w base ok v xs
  K_len:=by
    rintro w x cs ⟨A,c,rfl,_⟩
    rfl
  K_one:=by
    rintro w x cs ⟨A,c,rfl,_⟩ u hu
    rw [List.mem_singleton.1 hu]
    rfl
  K_below:=by
    rintro w w1 x cs hb ⟨A,c,rfl,hl,hr⟩
    exact ⟨A,c,rfl,hl,C_below hr hb⟩
  K_of_M:=by
    rintro w base ok x cs ⟨v,rfl,h⟩
    obtain ⟨A,c,rfl,hl,hr⟩:=R_reads h
    exact ⟨A,c,rfl,hl,hr⟩
  M_mono:=by
    rintro w base ok ok' x cs hok ⟨v,rfl,h⟩
    exact ⟨v,rfl,R_mono h hok⟩
  M_bound:=by
    rintro w base ok x cs ⟨v,rfl,h⟩
    exact ⟨v,rfl,R_bound h⟩
  M_move:=by
    rintro w w1 base ok x cs hm ⟨v,rfl,h⟩
    exact ⟨v,rfl,R_move h hm⟩
  M_lower:=by
    rintro w base base' ok x cs hb ⟨v,rfl,h⟩
    exact ⟨v,rfl,R_lower h hb⟩
def pair {α β:Type} (a:Kd α) (b:Kd β):Kd (α × β) where
  sz:=a.sz+b.sz
  E:=a.E ++ b.E
  K:=fun w x cs=>∃ c0 c1,cs=c0 ++ c1∧a.K w x.1 c0∧b.K w x.2 c1
  M:=fun w base ok x cs=>∃ c0 c1,cs=c0 ++ c1∧a.M w base ok x.1 c0∧b.M w base ok x.2 c1
  K_len:=by
    rintro w x cs ⟨c0,c1,rfl,h0,h1⟩
    rw [List.length_append,a.K_len h0,b.K_len h1]
  K_one:=by
    rintro w x cs ⟨c0,c1,rfl,h0,h1⟩ u hu
    rcases List.mem_append.1 hu with hu | hu
    · exact a.K_one h0 u hu
    · exact b.K_one h1 u hu
  K_below:=by
    rintro w w1 x cs hb ⟨c0,c1,rfl,h0,h1⟩
    exact ⟨c0,c1,rfl,a.K_below hb h0,b.K_below hb h1⟩
  K_of_M:=by
    rintro w base ok x cs ⟨c0,c1,rfl,h0,h1⟩
    exact ⟨c0,c1,rfl,a.K_of_M h0,b.K_of_M h1⟩
  M_mono:=by
    rintro w base ok ok' x cs hok ⟨c0,c1,rfl,h0,h1⟩
    exact ⟨c0,c1,rfl,a.M_mono hok h0,b.M_mono hok h1⟩
  M_bound:=by
    rintro w base ok x cs ⟨c0,c1,rfl,h0,h1⟩
    refine ⟨c0,c1,rfl,a.M_mono ?_ (a.M_bound h0),b.M_mono ?_ (b.M_bound h1)⟩
    · rintro k ⟨h2,h3,h4,q,hq,hc⟩
      exact ⟨h2,h3,h4,q,List.mem_append_left _ hq,hc⟩
    · rintro k ⟨h2,h3,h4,q,hq,hc⟩
      exact ⟨h2,h3,h4,q,List.mem_append_right _ hq,hc⟩
  M_move:=by
    rintro w w1 base ok x cs hm ⟨c0,c1,rfl,h0,h1⟩
    exact ⟨c0,c1,rfl,a.M_move hm h0,b.M_move hm h1⟩
  M_lower:=by
    rintro w base base' ok x cs hb ⟨c0,c1,rfl,h0,h1⟩
    exact ⟨c0,c1,rfl,a.M_lower hb h0,b.M_lower hb h1⟩
def iso {α β:Type} (d:Kd α) (f:β→α):Kd β where
  sz:=d.sz
  E:=d.E
  K:=fun w x cs=>d.K w (f x) cs
  M:=fun w base ok x cs=>d.M w base ok (f x) cs
  K_len:=d.K_len
  K_one:=d.K_one
  K_below:=d.K_below
  K_of_M:=d.K_of_M
  M_mono:=d.M_mono
  M_bound:=d.M_bound
  M_move:=d.M_move
  M_lower:=d.M_lower
def bot {α:Type} (sz:Nat) (E:List Nat):Kd α where
  sz:=sz
  E:=E
  K:=fun _ _ _=>False
  M:=fun _ _ _ _ _=>False
  K_len:=fun h=>h.elim
  K_one:=fun h=>h.elim
  K_below:=fun _ h=>h
  K_of_M:=fun h=>h
  M_mono:=fun _ h=>h
  M_bound:=fun h=>h
  M_move:=fun _ h=>h
  M_lower:=fun _ h=>h
def upto {α:Type} (F:Kd α→Kd α) (sz:Nat) (E:List Nat):Nat→Kd α
  | 0=>bot sz E
  | n+1=>F (upto F sz E n)
def fix {α:Type} (F:Kd α→Kd α) (sz:Nat) (E:List Nat) (hs:∀ n,(upto F sz E n).sz=sz) (hE:∀ n q,q ∈ (upto F sz E n).E→q ∈ E):Kd α where
  sz:=sz
  E:=E
  K:=fun w x cs=>∃ n,(upto F sz E n).K w x cs
  M:=fun w base ok x cs=>∃ n,(upto F sz E n).M w base ok x cs
  K_len:=by
    rintro w x cs ⟨n,h⟩
    rw [(upto F sz E n).K_len h,hs n]
  K_one:=by
    rintro w x cs ⟨n,h⟩
    exact (upto F sz E n).K_one h
  K_below:=by
    rintro w w1 x cs hb ⟨n,h⟩
    exact ⟨n,(upto F sz E n).K_below hb h⟩
  K_of_M:=by
    rintro w base ok x cs ⟨n,h⟩
    exact ⟨n,(upto F sz E n).K_of_M h⟩
  M_mono:=by
    rintro w base ok ok' x cs hok ⟨n,h⟩
    exact ⟨n,(upto F sz E n).M_mono hok h⟩
  M_bound:=by
    rintro w base ok x cs ⟨n,h⟩
    refine ⟨n,(upto F sz E n).M_mono ?_ ((upto F sz E n).M_bound h)⟩
    rintro k ⟨h2,h3,h4,q,hq,hc⟩
    exact ⟨h2,h3,h4,q,hE n q hq,hc⟩
  M_move:=by
    rintro w w1 base ok x cs hm ⟨n,h⟩
    exact ⟨n,(upto F sz E n).M_move hm h⟩
  M_lower:=by
    rintro w base base' ok x cs hb ⟨n,h⟩
    exact ⟨n,(upto F sz E n).M_lower hb h⟩

/-! #### an element of a row that is read; an element appended -/
theorem C_get {α:Type} {d:Kd α} {w:World} {A:Option Addr} {n:Nat} {xs:List α} (h:d.C w A n xs) (z:α) (i:Int) (h0:0≤i) (h1:i < n) :
    ∃ ad c,A=some ad∧c.length=d.sz∧d.K w (xs.getD i.toNat z) c∧∀ j u,c[j]? = some u→w.cell? (ad.add (i.toNat * d.sz+j))=some u:=ReadsRow.get_ h z i h0 h1
theorem R_appended {α:Type} {d:Kd α} {e base:Nat} {ok okp:Nat→Prop} {W w1:World} {v v1:Value} {xs:List α} {p:α} {inner cs:List Value} (h0:∀ k,v.ownBlock=some k→ok k) (hr:Reps (d.M W base (fun k=>ok k∧some k≠v.ownBlock)) d.sz xs inner) (hp:d.M W base okp p cs) (hokp:∀ k,okp k→ok k∧some k≠v.ownBlock) (hfresh:∀ k,W.heap.size≤k→ok k)
    (hown:w1.ownsRow base e d.sz v1 (xs.length+1) (inner ++ cs)) (hg:W.grownBy w1 v.ownBlock) (hat:v1.ownBlock=v.ownBlock ∨ ∃ b,v1.ownBlock=some b∧W.heap.size≤b):d.R e w1 base ok v1 (xs ++ [p]):=by
  have hne:∀ k,some k≠v.ownBlock→k < W.heap.size→some k≠v1.ownBlock:=by
    intro k hk hlt
    rcases hat with hat | ⟨b,hb,hle⟩
    · rw [hat];exact hk
    · rw [hb]
      intro he
      injection he with he
      omega
  have step:∀ {q:α} {c:List Value} {o:Nat→Prop},d.M W base o q c→(∀ k,o k→ok k∧some k≠v.ownBlock)→d.M w1 base (fun k=>ok k∧some k≠v1.ownBlock) q c:=by
    intro q c o hq ho
    have h1:=d.M_move (w1:=w1) (fun k hk=>hg.block k hk.2.2.1 (ho k hk.1).2) (d.M_bound hq)
    exact d.M_mono (fun k hk=>⟨(ho k hk.1).1,hne k (ho k hk.1).2 hk.2.2.1⟩) h1
  refine ⟨fun k hk=>?_,inner ++ cs,by rw [List.length_append,List.length_singleton];exact hown, ?_⟩
  · rcases hat with hat | ⟨b,hb,hle⟩
    · exact h0 k (hat ▸ hk)
    · rw [hb] at hk
      injection hk with hk
      exact hfresh k (by omega)
  · exact (hr.imp_ (fun _ _ hq=>step hq (fun _ hk=>hk))).snoc (step hp hokp) (d.K_len (d.K_of_M hp))
section
variable {P:Program} {ops:Array Oper} {rest:List Oper} {o:Oper} {a:Act} {Q:Exit→Act→World→Prop} {α:Type}
theorem R_append (d:Kd α) {w0 W:World} (base:Nat) (hgd:o.guard=none) (s x:Operand) (t e:TypeId) (z:Value) (bytes:Nat)
    (ho:o.op=.call { callee:=.builtin .append,args:=#[s,x],argTypes:=#[t,t] })
    (ht:P.underlying t=some (.slice e)) (hinfo:(P.info? e).map (fun i=>(i.zero,i.size,i.bytes))=some (some z,d.sz,bytes)) (hz:z.cells.size=d.sz) (hs0:0 < d.sz) (hb0:0 < bytes)
    (v:Value) (xs:List α) (p:α) (cs:List Value) (ok okp:Nat→Prop) (hs:a.eval s=v) (hx:a.eval x=.slice (some ⟨W.heap.size,0,none⟩) 1 1) (hp:d.M W base okp p cs) (hokp:∀ k,okp k→ok k∧some k≠v.ownBlock) (hfresh:∀ k,W.heap.size≤k→ok k)
    (HO:d.R e W base ok v xs) (HB:Below base w0 W) (hbase:base≤W.heap.size) (hl:(xs.length+1) * bytes≤140737488355328)
    (h:∀ v1 w1,d.R e w1 base ok v1 (xs ++ [p])→Below base w0 w1→W.grownBy w1 v.ownBlock→(v1.ownBlock=v.ownBlock ∨ ∃ b,v1.ownBlock=some b∧W.heap.size≤b)→wpList P ops Q rest (a.put o.dst v1) w1) :
    wpList P ops Q (o :: rest) a (W.alloc (.cells cs.toArray e)):=by
  obtain ⟨h0,inner,hown,hr⟩:=HO
  refine print_append_cells base hgd s x t e z d.sz bytes ho ht hinfo hz hs0 hb0 v xs.length inner cs hs hx (d.K_len (d.K_of_M hp)) (d.K_one (d.K_of_M hp)) hown HB hbase hl ?_
  intro v1 w1 hown1 hb1 hg1 hat1
  exact h v1 w1 (R_appended h0 hr hp hokp hfresh hown1 hg1 hat1) hb1 hg1 hat1
end
section
variable {P:Program} {ops:Array Oper} {o:Oper} {a:Act} {Q:Exit→Act→World→Prop} {Kc:Act→World→Prop} {α:Type}
theorem R_append_step (d:Kd α) {w0 W:World} (base:Nat) (hw:Region.wanted o (yielded ops a.tmps)=true) (s x:Operand) (t e:TypeId) (z:Value) (bytes:Nat)
    (ho:o.op=.call { callee:=.builtin .append,args:=#[s,x],argTypes:=#[t,t] })
    (ht:P.underlying t=some (.slice e)) (hinfo:(P.info? e).map (fun i=>(i.zero,i.size,i.bytes))=some (some z,d.sz,bytes)) (hz:z.cells.size=d.sz) (hs0:0 < d.sz) (hb0:0 < bytes)
    (v:Value) (xs:List α) (p:α) (cs:List Value) (ok okp:Nat→Prop) (hs:a.eval s=v) (hx:a.eval x=.slice (some ⟨W.heap.size,0,none⟩) 1 1) (hp:d.M W base okp p cs) (hokp:∀ k,okp k→ok k∧some k≠v.ownBlock) (hfresh:∀ k,W.heap.size≤k→ok k)
    (HO:d.R e W base ok v xs) (HB:Below base w0 W) (hbase:base≤W.heap.size) (hl:(xs.length+1) * bytes≤140737488355328)
    (h:∀ v1 w1,d.R e w1 base ok v1 (xs ++ [p])→Below base w0 w1→W.grownBy w1 v.ownBlock→(v1.ownBlock=v.ownBlock ∨ ∃ b,v1.ownBlock=some b∧W.heap.size≤b)→Kc (a.put o.dst v1) w1) :
    if Region.wanted o (yielded ops a.tmps)=true then Oper.wp P o a (W.alloc (.cells cs.toArray e)) Kc Q else Kc (a.put o.dst undef) (W.alloc (.cells cs.toArray e)):=by
  obtain ⟨h0,inner,hown,hr⟩:=HO
  refine step_append_cells base hw s x t e z d.sz bytes ho ht hinfo hz hs0 hb0 v xs.length inner cs hs hx (d.K_len (d.K_of_M hp)) (d.K_one (d.K_of_M hp)) hown HB hbase hl ?_
  intro v1 w1 hown1 hb1 hg1 hat1
  exact h v1 w1 (R_appended h0 hr hp hokp hfresh hown1 hg1 hat1) hb1 hg1 hat1
end
theorem reps_scalar {α:Type} {enc:α→Value} (xs:List α):Reps (fun (x:α) (cs:List Value)=>cs=[enc x]) 1 xs (encs enc xs):=by
  refine ⟨by simp [encs],fun j p hj=>?_⟩
  obtain ⟨hl,hp⟩:=List.getElem?_eq_some_iff.1 hj
  have hl':j < (encs enc xs).length:=by rw [encs_length];exact hl
  rw [Nat.mul_one,List.drop_eq_getElem_cons hl']
  simp [encs,hp]
theorem R_of_own {α:Type} {enc:α→Value} {h1:∀ x,(enc x).oneCell'=true} {e:Nat} {w:World} {base:Nat} {ok:Nat→Prop} {v:Value} {xs:List α} (ho:w.ownsRow base e 1 v xs.length (encs enc xs)) (hok:∀ k,v.ownBlock=some k→ok k):(scalar enc h1).R e w base ok v xs:=⟨hok,encs enc xs,ho,reps_scalar xs⟩
theorem own_of_R {α:Type} {enc:α→Value} {h1:∀ x,(enc x).oneCell'=true} {e:Nat} {w:World} {base:Nat} {ok:Nat→Prop} {v:Value} {xs:List α} (h:(scalar enc h1).R e w base ok v xs):w.ownsRow base e 1 v xs.length (encs enc xs):=by
  obtain ⟨_,inner,ho,hr⟩:=h
  have:inner=encs enc xs:=by
    apply List.ext_getElem?
    intro j
    rcases Nat.lt_or_ge j xs.length with hj | hj
    · have h2:=hr.2 j _ (List.getElem?_eq_getElem hj)
      have hl:j < inner.length:=by have:=hr.1;simp [scalar] at this;omega
      have h3:(inner.drop (j * 1)).take 1=[enc xs[j]]:=h2
      rw [Nat.mul_one,List.drop_eq_getElem_cons hl] at h3
      have h4:inner[j]=enc xs[j]:=by
        have h5:=congrArg List.head? h3
        rw [List.take_succ_cons] at h5
        exact Option.some.inj h5
      rw [List.getElem?_eq_getElem hl,h4]
      simp [encs,List.getElem?_eq_getElem hj]
    · have h3:inner.length=xs.length:=by have:=hr.1;simp [scalar] at this;omega
      rw [List.getElem?_eq_none (by omega),List.getElem?_eq_none (by rw [encs_length];omega)]
  rw [← this]
  exact ho
theorem reads_of_C {α:Type} {enc:α→Value} {d:α} {h1:∀ x,(enc x).oneCell'=true} {w:World} {A:Option Addr} {n:Nat} {xs:List α} (h:(scalar enc h1).C w A n xs):ReadsOf enc d w A n xs:=by
  refine ⟨h.1,h.2.1,fun hn=>?_⟩
  obtain ⟨ad,e,hc⟩:=h.2.2 hn
  refine ⟨ad,e,fun j hj=>?_⟩
  have hl:j < xs.length:=by have:=h.1;omega
  obtain ⟨c,_,hK,hcell⟩:=hc j _ (List.getElem?_eq_getElem hl)
  have hK':c=[enc xs[j]]:=hK
  subst hK'
  have:=hcell 0 _ rfl
  simpa [scalar,List.getD_eq_getElem?_getD,List.getElem?_eq_getElem hl] using this
end Kd
/-! ### 24. Kinds nested in themselves -/
namespace Kd
structure Mono {α β:Type} (F:Kd α→Kd β):Prop where
  sz:∀ d d':Kd α,d.sz=d'.sz→(F d).sz=(F d').sz
  K:∀ d d':Kd α,d.sz=d'.sz→(∀ w x cs,d.K w x cs→d'.K w x cs)→∀ w x cs,(F d).K w x cs→(F d').K w x cs
  M:∀ d d':Kd α,d.sz=d'.sz→(∀ w base ok x cs,d.M w base ok x cs→d'.M w base ok x cs)→∀ w base ok x cs,(F d).M w base ok x cs→(F d').M w base ok x cs
def Sub {α β:Type} (F:Kd α→Kd β) (E:List Nat):Prop:=∀ d:Kd α,(∀ q,q ∈ d.E→q ∈ E)→∀ q,q ∈ (F d).E→q ∈ E
section
variable {α:Type} {F:Kd α→Kd α} {sz:Nat} {E:List Nat} {hs:∀ n,(upto F sz E n).sz=sz} {hE:∀ n q,q ∈ (upto F sz E n).E→q ∈ E}
end
end Kd
/-! ### 25. What is held while another row is written: 'ok' says that its rows are none of that row's block -/
namespace Kd
theorem R_after {α:Type} {d:Kd α} {e base:Nat} {ok:Nat→Prop} {W w1:World} {u v v1:Value} {xs:List α} (h:d.R e W base (fun k=>ok k∧some k≠v.ownBlock) u xs) (hg:W.grownBy w1 v.ownBlock) (hat:v1.ownBlock=v.ownBlock ∨ ∃ b,v1.ownBlock=some b∧W.heap.size≤b):d.R e w1 base (fun k=>ok k∧some k≠v1.ownBlock) u xs:=by
  refine R_mono (R_move (R_bound h) (fun k hk=>hg.block k hk.2.2.1 hk.1.2)) (fun k hk=>⟨hk.1.1, ?_⟩)
  rcases hat with hat | ⟨b,hb,hle⟩
  · rw [hat];exact hk.1.2
  · rw [hb]
    intro he
    injection he with he
    have:=hk.2.2.1
    omega
theorem M_row {α:Type} {d:Kd α} {e base:Nat} {ok:Nat→Prop} {w:World} {v:Value} {xs:List α} (h:d.R e w base ok v xs):(slice e d).M w base ok xs [v]:=⟨v,rfl,h⟩
end Kd
/-! ### 26. Words for a printer that takes every slice by its kind -/
namespace Kd
section
variable {α β:Type} {d:Kd α} {d':Kd β} {e e':Nat} {w w1 W:World} {base b b':Nat} {ok ok' okv oku:Nat→Prop} {v u:Value} {xs:List α} {ys:List β}
theorem R_alloc (h:d.R e w base ok v xs) (o:Obj):d.R e (w.alloc o) base ok v xs:=R_below h (below_alloc (Below.refl _ _) o)
theorem R_drew (h:d.R e w base ok v xs):d.R e w.drew base ok v xs:=R_below h (below_drew (Below.refl _ _))
theorem R_drewN (h:d.R e w base ok v xs) (m:Nat):d.R e (w.drewN m) base ok v xs:=R_below h (pw_below_drewN (Below.refl _ _) m)
theorem C_alloc {A:Option Addr} {n:Nat} (h:d.C w A n xs) (o:Obj):d.C (w.alloc o) A n xs:=C_below h (below_alloc (Below.refl _ _) o)
theorem C_drew {A:Option Addr} {n:Nat} (h:d.C w A n xs):d.C w.drew A n xs:=C_below h (below_drew (Below.refl _ _))
theorem C_drewN {A:Option Addr} {n:Nat} (h:d.C w A n xs) (m:Nat):d.C (w.drewN m) A n xs:=C_below h (pw_below_drewN (Below.refl _ _) m)
theorem C_nil (d:Kd α) (w:World):d.C w none ([]:List α).length []:=⟨rfl,by simp,fun h=>absurd h (Nat.lt_irrefl 0)⟩
theorem R_reads' {A:Option Addr} {n c:Nat} (h:d.R e w base ok (.slice A n c) xs):n=xs.length∧n≤c∧d.C w A xs.length xs:=by
  obtain ⟨A',c',he,hl,hr⟩:=R_reads h
  injection he with h1 h2 h3
  subst h1
  exact ⟨h2,by omega,hr⟩
theorem R_lt (h:d.R e w base ok v xs):∀ k,v.ownBlock=some k→k < w.heap.size:=by
  obtain ⟨inner,ho⟩:=R_own h
  exact own_lt ho
theorem R_base (h:d.R e w base ok v xs):∀ k,v.ownBlock=some k→base≤k:=by
  obtain ⟨inner,ho⟩:=R_own h
  exact own_base ho
theorem R_away (h:d.R e w base ok v xs) {g:Nat} (hok:∀ k,ok k→k≠g):some g≠v.ownBlock:=fun e=>hok g (h.1 g e.symm) rfl
theorem R_form (h:d.R e w base ok v xs) (hp:0 < xs.length):∃ g cap,v=.slice (some ⟨g,0,none⟩) xs.length cap∧base≤g∧g < w.heap.size∧∃ cells,w.heap[g]? = some (.cells cells e (0,0)):=by
  obtain ⟨inner,ho⟩:=R_own h
  obtain ⟨g,cap,he,hb,hl⟩:=ho.form hp
  obtain ⟨cells,hc⟩:=own_typed ho g (by rw [he];simp [Value.ownBlock])
  exact ⟨g,cap,he,hb,hl,cells,hc⟩
end
/-! #### scalars -/
section
variable {w W:World} {A:Option Addr} {n:Nat}
theorem at_int {k:IntKind} {xs:List Int} (h:(Kd.int k).C w A n xs) (i:Int) (h0:0≤i) (h1:i < n):∃ ad,A=some ad∧w.cell? (ad.add i.toNat)=some (.int k (rd xs i)) :=
  ReadsOf.at_ (reads_of_C (enc:=Value.int k) (d:=(0:Int)) (h1:=fun _=>rfl) h) i h0 h1
theorem at_bool {xs:List Bool} (h:Kd.bool.C w A n xs) (i:Int) (h0:0≤i) (h1:i < n):∃ ad,A=some ad∧w.cell? (ad.add i.toNat)=some (.bool (rdOf false xs i)) :=
  ReadsOf.at_ (reads_of_C (enc:=Value.bool) (d:=false) (h1:=fun _=>rfl) h) i h0 h1
theorem at_string {xs:List ByteArray} (h:Kd.string.C w A n xs) (i:Int) (h0:0≤i) (h1:i < n):∃ ad,A=some ad∧w.cell? (ad.add i.toNat)=some (.string (rdOf ByteArray.empty xs i)) :=
  ReadsOf.at_ (reads_of_C (enc:=Value.string) (d:=ByteArray.empty) (h1:=fun _=>rfl) h) i h0 h1
variable {α:Type} {enc:α→Value} {h1:∀ x,(enc x).oneCell'=true} {e base g cap:Nat} {ok:Nat→Prop} {xs:List α}
theorem R_cell (d:α) (h:(scalar enc h1).R e W base ok (.slice (some ⟨g,0,none⟩) xs.length cap) xs) (i:Int) (h0:0≤i) (hi:i < xs.length):W.cell? ⟨g,i.toNat,none⟩=some (enc (rdOf d xs i))∧W.frozen? ⟨g,i.toNat,none⟩=false:=own_at_of (own_of_R h) i h0 hi
theorem R_put (h:(scalar enc h1).R e W base ok (.slice (some ⟨g,0,none⟩) xs.length cap) xs) (i:Int) (x:α):(scalar enc h1).R e (W.setCell ⟨g,i.toNat,none⟩ (enc x)) base ok (.slice (some ⟨g,0,none⟩) xs.length cap) (xs.set i.toNat x)∧W.grownBy (W.setCell ⟨g,i.toNat,none⟩ (enc x)) (some g):=by
  obtain ⟨ho,hg⟩:=own_store_of (own_of_R h) i x
  exact ⟨R_of_own (by rw [List.length_set];exact ho) h.1,hg⟩
end

/-! #### events: a letter for what make and a literal leave -/
section
variable {P:Program} {ops:Array Oper} {rest:List Oper} {o:Oper} {a:Act} {Q:Exit→Act→World→Prop}
theorem event_run {W w1:World} {v:Value} (hgd:o.guard=none) (hrun:(execOp a.eval o).run P W=.ok (.value v) w1) (h:wpList P ops Q rest (a.put o.dst v) w1):wpList P ops Q (o :: rest) a W:=by
  refine wpList_plain hgd fun K hK=>?_
  unfold Oper.wp
  rw [hrun]
  exact hK _ _ h
variable {α:Type}
theorem R_lit (d:Kd α) {w0 W:World} (base e:Nat) (hgd:o.guard=none) {N:Tmp} (_hd:o.dst=some N) {xs:List α} {inner:List Value} {ok okp:Nat→Prop}
    (hrun:(execOp a.eval o).run P W=.ok (.value (.slice (some ⟨W.heap.size,0,none⟩) xs.length xs.length)) (W.alloc (.cells inner.toArray e)))
    (hrep:Reps (d.M W base okp) d.sz xs inner) (hok:∀ k,okp k→ok k) (hfresh:ok W.heap.size) (HB:Below base w0 W) (hbase:base≤W.heap.size) (hm:xs.length≤9223372036854775807)
    (h:∀ v1 w1,d.R e w1 base ok v1 xs→Below base w0 w1→W.grownBy w1 none→(∃ b,v1.ownBlock=some b∧W.heap.size≤b)→wpList P ops Q rest (a.put o.dst v1) w1):wpList P ops Q (o :: rest) a W:=by
  refine event_run hgd hrun (h _ _ ⟨fun k hk=>?_,inner, ?_, ?_⟩ (HB.alloc hbase _) (World.grownBy_alloc W _ none) ⟨W.heap.size,by simp [Value.ownBlock],Nat.le_refl _⟩)
  · have:W.heap.size=k:=by simpa [Value.ownBlock] using hk
    subst this
    exact hfresh
  · have h2:=World.ownsRow_lit (base:=base) (e:=e) (size:=d.sz) W inner.toArray xs.length hbase (by simpa [maxLen] using hm) (by simpa using hrep.1)
    simpa using h2
  · refine hrep.imp_ (fun p c hp=>d.M_mono (fun k hk=>⟨hok k hk.1,fun he=>?_⟩) (M_below (d.M_bound hp) (below_alloc (Below.refl _ _) _)))
    have h3:k=W.heap.size:=by simpa [Value.ownBlock] using he
    have:=hk.2.2.1
    omega
theorem reps_made {α:Type} {R:α→List Value→Prop} {z:Value} {size:Nat} {z0:α} (hz:z.cells.size=size) (hs:0 < size) (h0:R z0 z.cells.toList) (m:Nat):Reps R size (List.replicate m z0) (madeCells z.cells (m * size)).toList:=by
  refine ⟨by simp [size_madeCells],fun j p hj=>?_⟩
  obtain ⟨hjl,hp⟩:=List.getElem?_eq_some_iff.1 hj
  have hjm:j < m:=by simpa using hjl
  have hp':z0=p:=by simpa using hp
  subst hp'
  have hle:j * size+size≤m * size:=by rw [← Nat.succ_mul];exact Nat.mul_le_mul_right _ hjm
  have:((madeCells z.cells (m * size)).toList.drop (j * size)).take size=z.cells.toList:=by
    apply List.ext_getElem
    · simp [size_madeCells,hz]
      omega
    · intro i h1 h2
      have hi:i < size:=by rw [Array.length_toList,hz] at h2;exact h2
      have hmod:(j * size+i) % size=i:=by
        rw [Nat.mul_comm,Nat.mul_add_mod]
        exact Nat.mod_eq_of_lt hi
      simp [madeCells,hz,hmod]
      rw [getElem!_pos z.cells i (by omega)]
  rw [this]
  exact h0
theorem R_make (d:Kd α) {w0 W:World} (base e:Nat) (hgd:o.guard=none) {N:Tmp} (hd:o.dst=some N) (t:TypeId) (x y:Operand) (ho:o.op=.makeSlice t x y) (n:Int) (hx:a.eval x=.int .i64 n) (hy:a.eval y=.int .i64 n)
    (ht:P.underlying t=some (.slice e)) (z:Value) (bytes:Nat) (hinfo:(P.info? e).map (fun i=>(i.zero,i.size,i.bytes))=some (some z,d.sz,bytes)) (hz:z.cells.size=d.sz) (hs0:0 < d.sz) (hb0:0 < bytes)
    (z0:α) {ok okp:Nat→Prop} (hzero:d.M W base okp z0 z.cells.toList) (hok:∀ k,okp k→ok k) (hfresh:ok W.heap.size) (h0:0≤n) (hl:n.toNat * bytes≤281474976710656) (HB:Below base w0 W) (hbase:base≤W.heap.size)
    (h:∀ v1 w1,d.R e w1 base ok v1 (List.replicate n.toNat z0)→Below base w0 w1→W.grownBy w1 none→(∃ b,v1.ownBlock=some b∧W.heap.size≤b)→wpList P ops Q rest (a.put o.dst v1) w1):wpList P ops Q (o :: rest) a W:=by
  obtain ⟨m,rfl⟩:=Int.eq_ofNat_of_zero_le h0
  simp only [Int.toNat_natCast] at hl h
  obtain ⟨i0,hi,hzz⟩:=Option.map_eq_some_iff.1 hinfo
  simp only [Prod.mk.injEq] at hzz
  obtain ⟨hz0,hz1,hz2⟩:=hzz
  have hm:m≤281474976710656:=Nat.le_trans (Nat.le_mul_of_pos_right _ hb0) hl
  have hr:=run_make (P:=P) W t e i0 z ht hi hz0 .i64 .i64 (m:Int) (m:Int) (by omega) (by omega)
    (by
      have h3:((i0.bytes * m:Nat):Int)≤281474976710656:=by rw [hz2,Nat.mul_comm];omega
      rwa [Int.natCast_mul] at h3) (by omega)
  simp only [Int.toNat_natCast] at hr
  rw [hz1] at hr
  refine R_lit d base e hgd hd (xs:=List.replicate m z0) (inner:=(madeCells z.cells (m * d.sz)).toList) (okp:=okp) (ok:=ok) ?_ (reps_made hz hs0 hzero m) hok hfresh HB hbase (by simp;omega) h
  simp [execOp,ho,hx,hy,hr]
end
end Kd
/-! ### 27. Cuts of a row of one's own: 'xs = xs[:n]' stays a row (R_take); 'xs = xs[k:]' is a row that begins inside its block (Kd.Q), append goes on it too -/
theorem own_take {w:World} {base n m c size:Nat} {e:TypeId} {A:Option Addr} {xs:List Value} (h:w.ownsRow base e size (.slice A n c) n xs) (hm:m≤n):w.ownsRow base e size (.slice A m c) m (xs.take (m * size)):=by
  obtain ⟨h1,h2⟩:=h
  refine ⟨by rw [List.length_take,h1];exact Nat.min_eq_left (Nat.mul_le_mul_right _ hm), ?_⟩
  rcases h2 with ⟨he,h0⟩ | ⟨g,cap,cur,he,hb,hh,hnc,hcm,hcs,ht⟩
  · injection he with ha _ hc
    subst ha;subst hc
    exact .inl ⟨by rw [show m=0 by omega],by omega⟩
  · injection he with ha _ hc
    subst ha;subst hc
    refine .inr ⟨g,c,cur,rfl,hb,hh,by omega,hcm,hcs, ?_⟩
    rw [← ht,List.take_take,Nat.min_eq_left (Nat.mul_le_mul_right _ hm)]
section
variable {P:Program}
theorem cut_to (t e:TypeId) (kh:IntKind) {i:TypeInfo} (ht:P.underlying t=some (.slice e)) (hi:P.info? e=some i) (A:Option Addr) (n c:Nat) (j:Int) (h0:0≤j) (hm:j≤n) (hc:n≤c) :
    ∀ W:World,(Instr.slice t (.slice A n c) none (some (.int kh j)) none).run P W=.ok (.slice A j.toNat c) W:=by
  intro W
  have hel:P.elem t=e:=by simp [Program.elem,ht]
  have hu:P.underlying t=some (.slice (P.elem t)):=by rw [hel];exact ht
  have ha:(A.map fun x=>x.add 0)=A:=by cases A <;> simp [Addr.add]
  rw [run_slice_h W t A n c hu kh j h0 (by omega),hel]
  simp [sizeOf,typeInfo,hi,sliced,Result.andThen,ha]
theorem cut_from (t e:TypeId) (kl:IntKind) {i:TypeInfo} (ht:P.underlying t=some (.slice e)) (hi:P.info? e=some i) (size:Nat) (hsz:i.size=size) (A:Option Addr) (n c:Nat) (j:Int) (h0:0≤j) (hm:j≤n) :
    ∀ W:World,(Instr.slice t (.slice A n c) (some (.int kl j)) none none).run P W=.ok (.slice (if c=j.toNat then A else A.map (·.add (j.toNat * size))) (n - j.toNat) (c - j.toNat)) W:=by
  intro W
  have hel:P.elem t=e:=by simp [Program.elem,ht]
  have hu:P.underlying t=some (.slice (P.elem t)):=by rw [hel];exact ht
  rw [run_slice_l W t A n c hu kl j h0 hm,hel]
  simp [sizeOf,typeInfo,hi,hsz,sliced,Result.andThen]
end
def QRow (w:World) (base:Nat) (e:TypeId) (size:Nat) (v:Value) (n:Nat) (xs:List Value):Prop :=
  xs.length=n * size ∧
  ((n=0∧∃ A,v=.slice A 0 0∧∀ a,A=some a→base≤a.block∧∃ cur,w.heap[a.block]? = some (.cells cur e (0,0))) ∨
   ∃ g off cap cur,v=.slice (some ⟨g,off * size,none⟩) n cap∧base≤g∧w.heap[g]? = some (.cells cur e (0,0))∧n≤cap∧off+cap≤maxLen∧cur.size=(off+cap) * size∧(cur.toList.drop (off * size)).take (n * size)=xs)
section
variable {w w1:World} {base n size:Nat} {e:TypeId} {v:Value} {xs:List Value}
theorem q_of_own (h:w.ownsRow base e size v n xs):QRow w base e size v n xs:=by
  obtain ⟨h1,h2⟩:=h
  refine ⟨h1, ?_⟩
  rcases h2 with ⟨rfl,h0⟩ | ⟨g,cap,cur,rfl,hb,hh,hnc,hcm,hcs,ht⟩
  · exact .inl ⟨h0,none,rfl,fun a ha=>by cases ha⟩
  · exact .inr ⟨g,0,cap,cur,by rw [Nat.zero_mul],hb,hh,hnc,by rw [Nat.zero_add];exact hcm,by rw [Nat.zero_add];exact hcs,by rw [Nat.zero_mul,List.drop_zero];exact ht⟩
theorem q_move (h:QRow w base e size v n xs) (hm:∀ k,v.ownBlock=some k→w1.heap[k]? = w.heap[k]?):QRow w1 base e size v n xs:=by
  obtain ⟨h1,h2⟩:=h
  refine ⟨h1, ?_⟩
  rcases h2 with ⟨h0,A,rfl,hA⟩ | ⟨g,off,cap,cur,rfl,hg,hh,r⟩
  · refine .inl ⟨h0,A,rfl,fun a ha=>?_⟩
    obtain ⟨hb,cur,hc⟩:=hA a ha
    subst ha
    exact ⟨hb,cur,(hm a.block (by simp [Value.ownBlock])).trans hc⟩
  · exact .inr ⟨g,off,cap,cur,rfl,hg,(hm g (by simp [Value.ownBlock])).trans hh,r⟩
theorem q_typed (h:QRow w base e size v n xs) (k:Nat) (hk:v.ownBlock=some k):base≤k∧∃ cells,w.heap[k]? = some (.cells cells e (0,0)):=by
  rcases h.2 with ⟨_,A,rfl,hA⟩ | ⟨g,off,cap,cur,rfl,hg,hh,r⟩
  · cases A with
    | none=>simp [Value.ownBlock] at hk
    | some a =>
      have:a.block=k:=by simpa [Value.ownBlock] using hk
      subst this
      exact hA a rfl
  · have:g=k:=by simpa [Value.ownBlock] using hk
    subst this
    exact ⟨hg,cur,hh⟩
theorem q_lt (h:QRow w base e size v n xs) (k:Nat) (hk:v.ownBlock=some k):k < w.heap.size:=by
  obtain ⟨_,cells,hc⟩:=q_typed h k hk
  exact (Array.getElem?_eq_some_iff.1 hc).1
theorem q_lower {base':Nat} (h:QRow w base e size v n xs) (hb:base'≤base):QRow w base' e size v n xs:=by
  obtain ⟨h1,h2⟩:=h
  refine ⟨h1, ?_⟩
  rcases h2 with ⟨h0,A,rfl,hA⟩ | ⟨g,off,cap,cur,rfl,hg,r⟩
  · exact .inl ⟨h0,A,rfl,fun a ha=>⟨Nat.le_trans hb (hA a ha).1,(hA a ha).2⟩⟩
  · exact .inr ⟨g,off,cap,cur,rfl,Nat.le_trans hb hg,r⟩
theorem q_slice (h:QRow w base e size v n xs):∃ A c,v=.slice A n c∧n≤c:=by
  rcases h.2 with ⟨h0,A,rfl,_⟩ | ⟨g,off,cap,cur,rfl,hg,hh,hnc,r⟩
  · exact ⟨A,0,by rw [h0],by omega⟩
  · exact ⟨_,cap,rfl,hnc⟩
theorem q_max (h:QRow w base e size v n xs):n≤9223372036854775807:=by
  rcases h.2 with ⟨h0,_⟩ | ⟨g,off,cap,cur,rfl,hg,hh,hnc,hm,r⟩
  · omega
  · simp only [maxLen] at hm
    omega
theorem add_at (g o j:Nat):(⟨g,o,none⟩:Addr).add j=⟨g,o+j,none⟩:=by unfold Addr.add;split <;> simp_all
theorem q_cells {A:Option Addr} {c:Nat} (h:QRow w base e size (.slice A n c) n xs) (hn:0 < n):∃ ad,A=some ad∧∀ j u,xs[j]? = some u→w.cell? (ad.add j)=some u:=by
  rcases h.2 with ⟨h0,_⟩ | ⟨g,off,cap,cur,he,hg,hh,hnc,hm,hcs,ht⟩
  · omega
  · injection he with ha _ hc
    subst ha
    refine ⟨_,rfl,fun j u hu=>?_⟩
    rw [add_at,cell_of_row w g _ cur e (0,0) hh]
    rw [← ht,List.getElem?_take] at hu
    split at hu
    · rw [List.getElem?_drop] at hu
      rw [← Array.getElem?_toList]
      exact hu
    · cases hu
theorem q_drop {A:Option Addr} {c k:Nat} (h:QRow w base e size (.slice A n c) n xs) (hk:k≤n):QRow w base e size (.slice (if c=k then A else A.map (·.add (k * size))) (n - k) (c - k)) (n - k) (xs.drop (k * size)):=by
  obtain ⟨h1,h2⟩:=h
  refine ⟨by rw [List.length_drop,h1,Nat.sub_mul], ?_⟩
  rcases h2 with ⟨h0,A',he,hA⟩ | ⟨g,off,cap,cur,he,hb,hh,hnc,hcm,hcs,ht⟩
  · injection he with ha hb hc
    subst ha;subst hc
    have hk0:k=0:=by omega
    subst hk0
    exact .inl ⟨by omega,A,by rw [if_pos rfl,h0],hA⟩
  · injection he with ha _ hc
    subst ha;subst hc
    by_cases hck:c=k
    · rw [if_pos hck]
      refine .inl ⟨by omega,some ⟨g,off * size,none⟩, ?_,fun a ha=>?_⟩
      · rw [show n - k=0 by omega,show c - k=0 by omega]
      · injection ha with ha
        subst ha
        exact ⟨hb,cur,hh⟩
    · rw [if_neg hck]
      refine .inr ⟨g,off+k,c - k,cur, ?_,hb,hh,by omega,by omega,by rw [hcs];congr 1;omega, ?_⟩
      · rw [Option.map_some,add_at,Nat.add_mul]
      · rw [← ht,List.drop_take,List.drop_drop,Nat.add_mul,Nat.sub_mul]
theorem setCells_far {g:Nat}:∀ (vs:List Value) (o:Nat) {w:World} (k:Nat),k≠g→(w.setCells g o vs).heap[k]? = w.heap[k]?
  | [],_,_,_,_=>rfl
  | v :: r,o,w,k,hk=>by
    rw [World.setCells,setCells_far r (o+1) k hk]
    exact Below.heap_setCell w ⟨g,o,none⟩ v k hk
theorem setCells_same (g:Nat):∀ (vs:List Value) (o:Nat) (w:World),(w.setCells g o vs).os=w.os∧(w.setCells g o vs).tape=w.tape∧(w.setCells g o vs).output=w.output∧(w.setCells g o vs).heap.size=w.heap.size
  | [],_,_=>⟨rfl,rfl,rfl,rfl⟩
  | v :: r,o,w=>by
    obtain ⟨h1,h2,h3,h4⟩:=setCells_same g r (o+1) (w.setCell ⟨g,o,none⟩ v)
    rw [World.setCells]
    exact ⟨h1,h2,h3,by rw [h4];simp [World.setCell]⟩
theorem setCells_row {g:Nat} {e:TypeId}:∀ (vs:List Value) (o:Nat) (w:World) (cur:Array Value),w.heap[g]? = some (.cells cur e (0,0))→o+vs.length≤cur.size →
    ∃ cur',(w.setCells g o vs).heap[g]? = some (.cells cur' e (0,0))∧cur'.size=cur.size∧cur'.toList=cur.toList.take o ++ vs ++ cur.toList.drop (o+vs.length)
  | [],o,w,cur,h,_=>⟨cur,h,rfl,by simp⟩
  | v :: r,o,w,cur,h,hl=>by
    have h2:=blk_set h o v
    simp only [List.length_cons] at hl
    obtain ⟨cur',h3,h4,h5⟩:=setCells_row r (o+1) (w.setCell ⟨g,o,none⟩ v) _ h2 (by simp;omega)
    refine ⟨cur',h3,by rw [h4];simp, ?_⟩
    rw [h5,Array.toList_setIfInBounds]
    have ho:o < cur.toList.length:=by rw [Array.length_toList];omega
    rw [List.take_set,List.drop_set_of_lt (by omega)]
    simp only [List.length_cons]
    rw [show o+1+r.length=o+(r.length+1) by omega]
    congr 1
    rw [List.take_succ_eq_append_getElem ho,List.set_append_right _ _ (by rw [List.length_take];omega)]
    have ho':o < cur.size:=by omega
    simp [Nat.min_eq_left (Nat.le_of_lt ho')]
end
section
variable {P:Program}
theorem q_append (w:World) (base:Nat) (t ty e:TypeId) (i:TypeInfo) (z:Value) (size bytes:Nat) (ht:P.underlying t=some (.slice e)) (hi:P.info? e=some i) (hz:i.zero=some z)
    (hsize:i.size=size) (hby:i.bytes=bytes) (hzs:z.cells.size=size) (hsz:0 < size)
    (v:Value) (n:Nat) (xs:List Value) (hown:QRow w base e size v n xs)
    (a:Addr) (m c:Nat) (news:List Value) (hl:news.length=m * size) (hnews:∀ j u,news[j]? = some u→w.cell? (a.add j)=some u) (h1:∀ u ∈ news,u.oneCell'=true) (hm:0 < m)
    (h63:n+m≤maxLen) (hbytes:(n+m) * bytes≤140737488355328) (hbase:base≤w.heap.size) :
    ∃ v' w',(Builtin.append_ #[t,t] ty #[v,.slice (some a) m c]).run P w=.ok v' w'∧QRow w' base e size v' (n+m) (xs ++ news)∧w.grownBy w' v.ownBlock∧(v'.ownBlock=v.ownBlock ∨ ∃ b,v'.ownBlock=some b∧w.heap.size≤b):=by
  have grows:∀ (b:Addr) (cap:Nat),cap < n+m→(∀ j u,xs[j]? = some u→w.cell? (b.add j)=some u)→v=.slice (some b) n cap →
      ∃ v' w',(Builtin.append_ #[t,t] ty #[v,.slice (some a) m c]).run P w=.ok v' w'∧QRow w' base e size v' (n+m) (xs ++ news)∧w.grownBy w' v.ownBlock∧(v'.ownBlock=v.ownBlock ∨ ∃ b,v'.ownBlock=some b∧w.heap.size≤b):=by
    intro b cap hcap hcells hv
    obtain ⟨v',w',hr,ho,hg⟩:=run_append_arg_grows (P:=P) (w:=w) t ty e i z size bytes ht hi hz hsize hby hzs hsz b n cap xs hown.1 hcells a m c news hl hnews hcap h63 hbytes
    refine ⟨v',w',by rw [hv];exact hr,q_lower (q_of_own ho) hbase,⟨hg.os,hg.tape,hg.output,hg.size,fun k hk _=>hg.block k hk (by simp)⟩, ?_⟩
    obtain ⟨g',cap',he,hb,_⟩:=ho.form (by omega)
    exact .inr ⟨g',by rw [he];simp [Value.ownBlock],hb⟩
  rcases hown.2 with ⟨h0,A,hv,hA⟩ | ⟨g,off,cap,cur,hv,hbg,hg,hnc,hcm,hcs,htake⟩
  · cases A with
    | none =>
      subst h0
      have ho:w.ownsRow base e size v 0 xs:=⟨hown.1,.inl ⟨hv,rfl⟩⟩
      obtain ⟨v',w',hr,ho',hg,_,hat⟩:=run_append_own_at (P:=P) w base t ty e i z size bytes ht hi hz hsize hby hzs hsz v 0 xs ho a m c news hl hnews h1 h63 hbytes hbase
      refine ⟨v',w',hr,q_of_own ho',hg, ?_⟩
      rcases hat with hat | hat
      · exact .inl hat
      · exact .inr ⟨_,hat,Nat.le_refl _⟩
    | some b =>
      have hx:xs=[]:=List.eq_nil_of_length_eq_zero (by rw [hown.1,h0,Nat.zero_mul])
      exact grows b 0 (by omega) (fun j u hu=>by rw [hx] at hu;simp at hu) (by rw [hv,h0])
  · by_cases hroom:n+m≤cap
    · have hfit:off * size+n * size+news.length≤cur.size:=by
        rw [hl,hcs,← Nat.add_mul,← Nat.add_mul]
        exact Nat.mul_le_mul_right _ (by omega)
      subst hsize
      have hr:=run_append_room_cells (P:=P) (w:=w) t ty e i ht hi g (off * i.size) n cap a m c news hl hnews h1 hroom
        (fun j hj=>by rw [cell_of_row w g _ cur e (0,0) hg];simp;omega) (fun j _=>blk_frozen hg _)
      obtain ⟨cur',h3,h4,h5⟩:=setCells_row news (off * i.size+n * i.size) w cur hg hfit
      obtain ⟨s1,s2,s3,s4⟩:=setCells_same g news (off * i.size+n * i.size) w
      refine ⟨_,_,by rw [hv];exact hr,⟨by rw [List.length_append,hown.1,hl,Nat.add_mul],.inr ⟨g,off,cap,cur',rfl,hbg,h3,hroom,hcm,by rw [h4,hcs], ?_⟩⟩,
        ⟨s1,s2,s3,by rw [s4];exact Nat.le_refl _,fun k _ hk=>setCells_far news _ k (fun he=>hk (by rw [hv,he];simp [Value.ownBlock]))⟩,.inl (by rw [hv];rfl)⟩
      rw [h5,List.append_assoc,List.drop_append_of_le_length (by rw [List.length_take,Array.length_toList];omega),List.drop_take]
      rw [show off * i.size+n * i.size - off * i.size=n * i.size by omega,htake]
      rw [← List.append_assoc]
      exact List.take_left' (by rw [List.length_append,hown.1,hl,Nat.add_mul])
    · refine grows ⟨g,off * size,none⟩ cap (by omega) (fun j u hu=>?_) hv
      rw [add_at,cell_of_row w g _ cur e (0,0) hg]
      rw [← htake,List.getElem?_take] at hu
      split at hu
      · rw [List.getElem?_drop] at hu
        rw [← Array.getElem?_toList]
        exact hu
      · cases hu
end
/-! ### 28. The kinds' words for cuts: R_take; Q (a row that may begin inside its block) with all of R's movers -/
namespace Kd
theorem reps_take {α:Type} {R:α→List Value→Prop} {size m:Nat} {ps:List α} {cs:List Value} (h:Reps R size ps cs) (hm:m≤ps.length):Reps R size (ps.take m) (cs.take (m * size)):=by
  refine ⟨by rw [List.length_take,List.length_take,h.1,Nat.min_eq_left hm,Nat.min_eq_left (Nat.mul_le_mul_right _ hm)],fun j p hj=>?_⟩
  rw [List.getElem?_take] at hj
  split at hj
  · rename_i hjm
    have:=h.2 j p hj
    have hle:j * size+size≤m * size:=by rw [← Nat.succ_mul];exact Nat.mul_le_mul_right _ hjm
    rw [List.drop_take,List.take_take,Nat.min_eq_left (by omega)]
    exact this
  · cases hj
theorem reps_drop {α:Type} {R:α→List Value→Prop} {size m:Nat} {ps:List α} {cs:List Value} (h:Reps R size ps cs):Reps R size (ps.drop m) (cs.drop (m * size)):=by
  refine ⟨by rw [List.length_drop,List.length_drop,h.1,Nat.sub_mul],fun j p hj=>?_⟩
  rw [List.getElem?_drop] at hj
  have:=h.2 (m+j) p hj
  rw [List.drop_drop,← Nat.add_mul]
  exact this
theorem R_take {α:Type} {d:Kd α} {e m n c:Nat} {w:World} {base:Nat} {ok:Nat→Prop} {A:Option Addr} {xs:List α} (h:d.R e w base ok (.slice A n c) xs) (hm:m≤xs.length):d.R e w base ok (.slice A m c) (xs.take m):=by
  obtain ⟨h0,inner,ho,hr⟩:=h
  have hn:n=xs.length:=by
    obtain ⟨A',c',he⟩:=own_slice ho
    injection he
  subst hn
  have hb:∀ x y:Nat,(Value.slice A x c).ownBlock=(Value.slice A y c).ownBlock:=by
    intro x y
    cases A <;> rfl
  refine ⟨fun k hk=>h0 k (by rw [hb _ m];exact hk),inner.take (m * d.sz), ?_, ?_⟩
  · rw [List.length_take,Nat.min_eq_left hm]
    exact own_take ho hm
  · rw [hb m xs.length]
    exact reps_take hr hm
def Q {α:Type} (d:Kd α) (e:Nat) (w:World) (base:Nat) (ok:Nat→Prop) (v:Value) (xs:List α):Prop :=
  (∀ k,v.ownBlock=some k→ok k)∧∃ inner,QRow w base e d.sz v xs.length inner∧Reps (d.M w base (fun k=>ok k∧some k≠v.ownBlock)) d.sz xs inner
section
variable {α:Type} {d:Kd α} {e:Nat} {w w1 W:World} {base:Nat} {ok ok':Nat→Prop} {v:Value} {xs:List α}
theorem Q_of_R (h:d.R e w base ok v xs):d.Q e w base ok v xs:=by
  obtain ⟨h0,inner,ho,hr⟩:=h
  exact ⟨h0,inner,q_of_own ho,hr⟩
theorem Q_nil (d:Kd α) (e:Nat) (w:World) (base:Nat) (ok:Nat→Prop):d.Q e w base ok (.slice none 0 0) []:=Q_of_R (R_nil d e w base ok)
theorem Q_mono (h:d.Q e w base ok v xs) (hok:∀ k,ok k→ok' k):d.Q e w base ok' v xs:=by
  obtain ⟨h0,inner,ho,hr⟩:=h
  exact ⟨fun k hk=>hok k (h0 k hk),inner,ho,hr.imp_ (fun _ _ hp=>d.M_mono (fun k hk=>⟨hok k hk.1,hk.2⟩) hp)⟩
theorem Q_bound (h:d.Q e w base ok v xs):d.Q e w base (fun k=>ok k∧base≤k∧k < w.heap.size∧∃ q,q ∈ e :: d.E∧∃ cells,w.heap[k]? = some (.cells cells q (0,0))) v xs:=by
  obtain ⟨h0,inner,ho,hr⟩:=h
  refine ⟨fun k hk=>?_,inner,ho,hr.imp_ (fun _ _ hp=>d.M_mono (fun k hk=>?_) (d.M_bound hp))⟩
  · obtain ⟨hb,cells,hc⟩:=q_typed ho k hk
    exact ⟨h0 k hk,hb,q_lt ho k hk,e,List.mem_cons_self,cells,hc⟩
  · obtain ⟨⟨h1,h2⟩,h3,h4,q,hq,hc⟩:=hk
    exact ⟨⟨h1,h3,h4,q,List.mem_cons_of_mem _ hq,hc⟩,h2⟩
theorem Q_move (h:d.Q e w base ok v xs) (hm:∀ k,ok k→w1.heap[k]? = w.heap[k]?):d.Q e w1 base ok v xs:=by
  obtain ⟨h0,inner,ho,hr⟩:=h
  exact ⟨h0,inner,q_move ho (fun k hk=>hm k (h0 k hk)),hr.imp_ (fun _ _ hp=>d.M_move (fun k hk=>hm k hk.1) hp)⟩
theorem Q_step (h:d.Q e w base ok v xs) (hm:∀ k,ok k→k < w.heap.size→w1.heap[k]? = w.heap[k]?):d.Q e w1 base ok v xs:=Q_mono (Q_move (Q_bound h) (fun k hk=>hm k hk.1 hk.2.2.1)) (fun _ hk=>hk.1)
theorem Q_below (h:d.Q e w base ok v xs) (hb:Below w.heap.size w w1):d.Q e w1 base ok v xs:=Q_step h (fun k _ hk=>hb.block k hk)
theorem Q_far (h:d.Q e w base ok v xs) {p:Addr} (hok:∀ k,ok k→k≠p.block) (u:Value):d.Q e (w.setCell p u) base ok v xs:=Q_step h (fun k ho _=>Below.heap_setCell w p u k (hok k ho))
theorem Q_slice (h:d.Q e w base ok v xs):∃ A c,v=.slice A xs.length c∧xs.length≤c:=by
  obtain ⟨_,inner,ho,_⟩:=h
  exact q_slice ho
theorem Q_reads' {A:Option Addr} {n c:Nat} (h:d.Q e w base ok (.slice A n c) xs):n=xs.length∧n≤c∧d.C w A xs.length xs:=by
  obtain ⟨_,inner,ho,hr⟩:=h
  obtain ⟨A',c',he,hl⟩:=q_slice ho
  injection he with h1 h2 h3
  subst h1;subst h2;subst h3
  refine ⟨rfl,hl,rfl,q_max ho,fun hp=>?_⟩
  obtain ⟨ad,ha,hc⟩:=q_cells ho hp
  refine ⟨ad,ha,fun j p hj=>⟨(inner.drop (j * d.sz)).take d.sz, ?_,d.K_of_M (hr.2 j p hj),fun i u hu=>?_⟩⟩
  · have hjl:=(List.getElem?_eq_some_iff.1 hj).1
    have h1:j * d.sz+d.sz≤inner.length:=by rw [hr.1,← Nat.succ_mul];exact Nat.mul_le_mul_right _ hjl
    rw [List.length_take,List.length_drop]
    omega
  · refine hc _ u ?_
    rw [List.getElem?_take] at hu
    split at hu
    · rw [List.getElem?_drop] at hu
      exact hu
    · cases hu
theorem Q_reads (h:d.Q e w base ok v xs):∃ A c,v=.slice A xs.length c∧xs.length≤c∧d.C w A xs.length xs:=by
  obtain ⟨A,c,rfl,hl⟩:=Q_slice h
  exact ⟨A,c,rfl,hl,(Q_reads' h).2.2⟩
theorem Q_drop {A:Option Addr} {k n c:Nat} (h:d.Q e w base ok (.slice A n c) xs) (hk:k≤xs.length):d.Q e w base ok (.slice (if c=k then A else A.map (·.add (k * d.sz))) (n - k) (c - k)) (xs.drop k):=by
  have hn:n=xs.length:=(Q_reads' h).1
  subst hn
  obtain ⟨h0,inner,ho,hr⟩:=h
  have hb:(Value.slice (if c=k then A else A.map (·.add (k * d.sz))) (xs.length - k) (c - k)).ownBlock=(Value.slice A xs.length c).ownBlock:=by
    split
    · cases A <;> rfl
    · cases A with
      | none=>rfl
      | some a=>simp [Value.ownBlock];unfold Addr.add;split <;> rfl
  refine ⟨fun j hj=>h0 j (by rw [← hb];exact hj),inner.drop (k * d.sz), ?_, ?_⟩
  · rw [List.length_drop]
    exact q_drop ho hk
  · rw [hb]
    exact reps_drop hr
theorem Q_appended {okp:Nat→Prop} {v1:Value} {p:α} {inner cs:List Value} (h0:∀ k,v.ownBlock=some k→ok k) (hr:Reps (d.M W base (fun k=>ok k∧some k≠v.ownBlock)) d.sz xs inner) (hp:d.M W base okp p cs) (hokp:∀ k,okp k→ok k∧some k≠v.ownBlock) (hfresh:∀ k,W.heap.size≤k→ok k)
    (hown:QRow w1 base e d.sz v1 (xs.length+1) (inner ++ cs)) (hg:W.grownBy w1 v.ownBlock) (hat:v1.ownBlock=v.ownBlock ∨ ∃ b,v1.ownBlock=some b∧W.heap.size≤b):d.Q e w1 base ok v1 (xs ++ [p]):=by
  have hne:∀ k,some k≠v.ownBlock→k < W.heap.size→some k≠v1.ownBlock:=by
    intro k hk hlt
    rcases hat with hat | ⟨b,hb,hle⟩
    · rw [hat];exact hk
    · rw [hb]
      intro he
      injection he with he
      omega
  have step:∀ {q:α} {c:List Value} {o:Nat→Prop},d.M W base o q c→(∀ k,o k→ok k∧some k≠v.ownBlock)→d.M w1 base (fun k=>ok k∧some k≠v1.ownBlock) q c:=by
    intro q c o hq ho
    have h1:=d.M_move (w1:=w1) (fun k hk=>hg.block k hk.2.2.1 (ho k hk.1).2) (d.M_bound hq)
    exact d.M_mono (fun k hk=>⟨(ho k hk.1).1,hne k (ho k hk.1).2 hk.2.2.1⟩) h1
  refine ⟨fun k hk=>?_,inner ++ cs,by rw [List.length_append,List.length_singleton];exact hown, ?_⟩
  · rcases hat with hat | ⟨b,hb,hle⟩
    · exact h0 k (hat ▸ hk)
    · rw [hb] at hk
      injection hk with hk
      exact hfresh k (by omega)
  · exact (hr.imp_ (fun _ _ hq=>step hq (fun _ hk=>hk))).snoc (step hp hokp) (d.K_len (d.K_of_M hp))
end
section
variable {P:Program} {ops:Array Oper} {rest:List Oper} {o:Oper} {a:Act} {Q':Exit→Act→World→Prop} {Kc:Act→World→Prop} {α:Type}
theorem Q_run (d:Kd α) {w0 W:World} (base:Nat) (t ty e:TypeId) (z:Value) (bytes:Nat)
    (ht:P.underlying t=some (.slice e)) (hinfo:(P.info? e).map (fun i=>(i.zero,i.size,i.bytes))=some (some z,d.sz,bytes)) (hz:z.cells.size=d.sz) (hs0:0 < d.sz) (hb0:0 < bytes)
    (v:Value) (xs:List α) (p:α) (cs:List Value) (ok okp:Nat→Prop) (hp:d.M W base okp p cs) (hokp:∀ k,okp k→ok k∧some k≠v.ownBlock) (hfresh:∀ k,W.heap.size≤k→ok k)
    (HO:d.Q e W base ok v xs) (HB:Below base w0 W) (hbase:base≤W.heap.size) (hl:(xs.length+1) * bytes≤140737488355328) :
    ∃ v1 w1,(Builtin.append_ #[t,t] ty #[v,.slice (some ⟨W.heap.size,0,none⟩) 1 1]).run P (W.alloc (.cells cs.toArray e))=.ok v1 w1∧d.Q e w1 base ok v1 (xs ++ [p])∧Below base w0 w1∧W.grownBy w1 v.ownBlock∧(v1.ownBlock=v.ownBlock ∨ ∃ b,v1.ownBlock=some b∧W.heap.size≤b):=by
  obtain ⟨h0,inner,hown,hr⟩:=HO
  obtain ⟨i0,hi,hzz⟩:=Option.map_eq_some_iff.1 hinfo
  simp only [Prod.mk.injEq] at hzz
  obtain ⟨hz0,hz1,hz2⟩:=hzz
  have hlen:xs.length+1≤140737488355328:=Nat.le_trans (Nat.le_mul_of_pos_right _ hb0) hl
  have hcl:=d.K_len (d.K_of_M hp)
  have hq:QRow (W.alloc (.cells cs.toArray e)) base e d.sz v xs.length inner:=q_move hown (fun k hk=>Below.heap_alloc W _ k (q_lt hown k hk))
  obtain ⟨v1,w1,hrun,hq1,hg1,hat⟩:=q_append (P:=P) (W.alloc (.cells cs.toArray e)) base t ty e i0 z d.sz bytes ht hi hz0 hz1 hz2 hz hs0 v xs.length inner hq ⟨W.heap.size,0,none⟩ 1 1 cs (by rw [hcl,Nat.one_mul])
    (by simpa using World.news_of_block (cs:=cs.toArray) (t:=e) (fr:=(0,0)) (heap_alloc_new W (.cells cs.toArray e))) (d.K_one (d.K_of_M hp)) (by omega) (by simp only [maxLen];omega) hl (by simp;omega)
  have hg:W.grownBy w1 v.ownBlock:=World.grownBy.trans (World.grownBy_alloc W _ _) hg1
  have hat':v1.ownBlock=v.ownBlock ∨ ∃ b,v1.ownBlock=some b∧W.heap.size≤b:=by
    rcases hat with hat | ⟨b,hb,hle⟩
    · exact .inl hat
    · exact .inr ⟨b,hb,by rw [World.size_alloc] at hle;omega⟩
  exact ⟨v1,w1,hrun,Q_appended h0 hr hp hokp hfresh hq1 hg hat',HB.grown hg hbase (fun k hk=>(q_typed hown k hk).1),hg,hat'⟩
theorem Q_append_step (d:Kd α) {w0 W:World} (base:Nat) (hw:Region.wanted o (yielded ops a.tmps)=true) (s x:Operand) (t e:TypeId) (z:Value) (bytes:Nat)
    (ho:o.op=.call { callee:=.builtin .append,args:=#[s,x],argTypes:=#[t,t] })
    (ht:P.underlying t=some (.slice e)) (hinfo:(P.info? e).map (fun i=>(i.zero,i.size,i.bytes))=some (some z,d.sz,bytes)) (hz:z.cells.size=d.sz) (hs0:0 < d.sz) (hb0:0 < bytes)
    (v:Value) (xs:List α) (p:α) (cs:List Value) (ok okp:Nat→Prop) (hs:a.eval s=v) (hx:a.eval x=.slice (some ⟨W.heap.size,0,none⟩) 1 1) (hp:d.M W base okp p cs) (hokp:∀ k,okp k→ok k∧some k≠v.ownBlock) (hfresh:∀ k,W.heap.size≤k→ok k)
    (HO:d.Q e W base ok v xs) (HB:Below base w0 W) (hbase:base≤W.heap.size) (hl:(xs.length+1) * bytes≤140737488355328)
    (h:∀ v1 w1,d.Q e w1 base ok v1 (xs ++ [p])→Below base w0 w1→W.grownBy w1 v.ownBlock→(v1.ownBlock=v.ownBlock ∨ ∃ b,v1.ownBlock=some b∧W.heap.size≤b)→Kc (a.put o.dst v1) w1) :
    if Region.wanted o (yielded ops a.tmps)=true then Oper.wp P o a (W.alloc (.cells cs.toArray e)) Kc Q' else Kc (a.put o.dst undef) (W.alloc (.cells cs.toArray e)):=by
  obtain ⟨v1,w1,hr,h1,h2,h3,h4⟩:=Q_run (P:=P) d base t o.type e z bytes ht hinfo hz hs0 hb0 v xs p cs ok okp hp hokp hfresh HO HB hbase hl
  rw [if_pos hw]
  unfold Oper.wp execOp
  simp only [ho,resolve,invoke,builtin,Sem.run_bind,Sem.run_pure,Result.andThen_ok,List.map_toArray,List.map_cons,List.map_nil,hs,hx,hr]
  exact h v1 w1 h1 h2 h3 h4
end
end Kd
/-! ### 29. Movers that ask of another row no more than they need: for R and for Q -/
namespace Kd
section
variable {α:Type} {d:Kd α} {e e':Nat} {w w1 W:World} {base:Nat} {ok:Nat→Prop} {u v:Value} {xs:List α}
theorem R_typed (h:d.R e w base ok v xs):∀ k,v.ownBlock=some k→∃ cells,w.heap[k]? = some (.cells cells e (0,0)):=by
  obtain ⟨inner,ho⟩:=R_own h
  exact fun k hk=>own_typed ho k hk
theorem R_over' (h:d.R e W base ok u xs) (hty:∀ k,v.ownBlock=some k→∃ cells,W.heap[k]? = some (.cells cells e' (0,0))) (ht:∀ q,q ∈ e :: d.E→q≠e') (hg:W.grownBy w1 v.ownBlock):d.R e w1 base ok u xs:=by
  refine R_mono (R_move (R_bound h) (fun k hk=>hg.block k hk.2.2.1 (fun he=>?_))) (fun _ hk=>hk.1)
  obtain ⟨_,_,_,q,hq,cells,hc⟩:=hk
  obtain ⟨cells',hc'⟩:=hty k he.symm
  rw [hc] at hc'
  injection hc' with hc'
  injection hc' with _ hc'
  exact ht q hq hc'
theorem R_apart' (h:d.R e W base ok u xs) (hty:∀ k,v.ownBlock=some k→∃ cells,W.heap[k]? = some (.cells cells e' (0,0))) (ht:∀ q,q ∈ e :: d.E→q≠e'):d.R e W base (fun k=>ok k∧some k≠v.ownBlock) u xs:=by
  refine R_mono (R_bound h) (fun k hk=>⟨hk.1,fun he=>?_⟩)
  obtain ⟨_,_,_,q,hq,cells,hc⟩:=hk
  obtain ⟨cells',hc'⟩:=hty k he.symm
  rw [hc] at hc'
  injection hc' with hc'
  injection hc' with _ hc'
  exact ht q hq hc'
theorem R_elder' (hu:d.R e W base ok u xs) (hbase:∀ k,v.ownBlock=some k→W.heap.size≤k) (hb:Below W.heap.size W w1):d.R e w1 base (fun k=>ok k∧some k≠v.ownBlock) u xs :=
  R_mono (R_move (R_bound hu) (fun k hk=>hb.block k hk.2.2.1)) (fun k hk=>⟨hk.1,fun he=>by have:=hbase k he.symm;have:=hk.2.2.1;omega⟩)
theorem fresh' (hlt:∀ k,u.ownBlock=some k→k < W.heap.size):∀ k,W.heap.size≤k→some k≠u.ownBlock:=fun k hk he=>by have:=hlt k he.symm;omega
end
end Kd
/-! ### 30. Elements written: x[i] = T{..}, x[i].f = v, swaps, in a row of elements of any kind -/
theorem seg_get {α:Type} (a seg:List α) (o:Nat) (h:o+seg.length≤a.length) (q:Nat) :
    (a.take o ++ seg ++ a.drop (o+seg.length))[q]? = if q < o then a[q]? else if q < o+seg.length then seg[q - o]? else a[q]?:=by
  have hl:(a.take o).length=o:=by rw [List.length_take];omega
  rw [List.append_assoc]
  by_cases h1:q < o
  · rw [if_pos h1,List.getElem?_append_left (by omega),List.getElem?_take,if_pos h1]
  · rw [if_neg h1,List.getElem?_append_right (by omega),hl]
    by_cases h2:q < o+seg.length
    · rw [if_pos h2,List.getElem?_append_left (by omega)]
    · rw [if_neg h2,List.getElem?_append_right (by omega),List.getElem?_drop]
      congr 1
      omega
namespace Kd
section
variable {α:Type} {d:Kd α} {e base g n cap:Nat} {ok okp:Nat→Prop} {W:World} {xs:List α}
theorem R_elem (h:d.R e W base ok (.slice (some ⟨g,0,none⟩) n cap) xs) (z:α) (i:Int) (h0:0≤i) (h1:i < n) :
    ∃ c,c.length=d.sz∧d.M W base (fun k=>ok k∧k≠g) (xs.getD i.toNat z) c∧(∀ j u,c[j]? = some u→W.cell? ⟨g,i.toNat * d.sz+j,none⟩=some u)∧∀ j,W.frozen? ⟨g,i.toNat * d.sz+j,none⟩=false:=by
  obtain ⟨hn,hnc,hC⟩:=R_reads' h
  obtain ⟨_,inner,ho,hr⟩:=h
  have hil:i.toNat < xs.length:=by omega
  have hseg:i.toNat * d.sz+d.sz≤inner.length:=by rw [hr.1,← Nat.succ_mul];exact Nat.mul_le_mul_right _ hil
  have hM:=hr.2 i.toNat _ (List.getElem?_eq_getElem hil)
  refine ⟨(inner.drop (i.toNat * d.sz)).take d.sz,by rw [List.length_take,List.length_drop];omega, ?_,fun j u hu=>?_,fun j=>?_⟩
  · rw [List.getD_eq_getElem?_getD,List.getElem?_eq_getElem hil]
    exact d.M_mono (fun k hk=>⟨hk.1,fun he=>hk.2 (by rw [he];simp [Value.ownBlock])⟩) hM
  · rw [List.getElem?_take] at hu
    split at hu
    · rw [List.getElem?_drop] at hu
      have:=ho.cells (g:=g) (by simp [Value.ownBlock]) _ u hu
      rwa [add_plain] at this
    · cases hu
  · obtain ⟨cells,hc⟩:=own_typed ho g (by simp [Value.ownBlock])
    exact blk_frozen hc _
theorem R_seg (h:d.R e W base ok (.slice (some ⟨g,0,none⟩) n cap) xs) (i:Int) (h0:0≤i) (h1:i < n) {c seg:List Value} {j:Nat} (hcl:c.length=d.sz) (hcc:∀ j u,c[j]? = some u→W.cell? ⟨g,i.toNat * d.sz+j,none⟩=some u)
    (hj:j+seg.length≤d.sz) {x':α} (hM:d.M W base okp x' (c.take j ++ seg ++ c.drop (j+seg.length))) (hokp:∀ k,okp k→ok k∧k≠g) :
    d.R e (W.setCells g (i.toNat * d.sz+j) seg) base ok (.slice (some ⟨g,0,none⟩) n cap) (xs.set i.toNat x')∧W.grownBy (W.setCells g (i.toNat * d.sz+j) seg) (some g):=by
  obtain ⟨hn,hnc,_⟩:=R_reads' h
  obtain ⟨hok,inner,ho,hr⟩:=h
  have hil:i.toNat < xs.length:=by omega
  have hseg:i.toNat * d.sz+d.sz≤inner.length:=by rw [hr.1,← Nat.succ_mul];exact Nat.mul_le_mul_right _ hil
  have hin:inner.length=n * d.sz:=by rw [hr.1,hn]
  obtain ⟨ho1,ho2⟩:=ho
  rcases ho2 with ⟨hv,_⟩ | ⟨g',cap',cur,hv,hb,hh,hnc',hcm,hcs,ht⟩
  · cases hv
  injection hv with ha _ hc
  injection ha with ha
  injection ha with hg
  subst hg;subst hc
  have hfit:i.toNat * d.sz+j+seg.length≤cur.size:=by
    have:n * d.sz≤cap * d.sz:=Nat.mul_le_mul_right _ hnc
    omega
  obtain ⟨cur',h3,h4,h5⟩:=setCells_row seg (i.toNat * d.sz+j) W cur hh hfit
  obtain ⟨s1,s2,s3,s4⟩:=setCells_same g seg (i.toNat * d.sz+j) W
  have hfar:∀ k,k≠g→(W.setCells g (i.toNat * d.sz+j) seg).heap[k]? = W.heap[k]?:=fun k hk=>setCells_far seg _ k hk
  -- the element's cells before are what was read
  have hcin:∀ q,q < d.sz→c[q]? = inner[i.toNat * d.sz+q]?:=by
    intro q hq
    have hq':q < c.length:=by omega
    have h6:=hcc q _ (List.getElem?_eq_getElem hq')
    rw [cell_of_row W g _ cur e (0,0) hh] at h6
    rw [List.getElem?_eq_getElem hq',← h6,← ht,List.getElem?_take,if_pos (by rw [← hn];omega),Array.getElem?_toList]
  refine ⟨⟨hok,inner.take (i.toNat * d.sz+j) ++ seg ++ inner.drop (i.toNat * d.sz+j+seg.length),⟨?_,.inr ⟨g,cap,cur',by rw [List.length_set,hn],hb,h3,by rw [List.length_set,← hn];exact hnc,hcm,by rw [h4,hcs], ?_⟩⟩, ?_⟩,
    ⟨s1,s2,s3,by rw [s4];exact Nat.le_refl _,fun k _ hk=>hfar k (fun he=>hk (by rw [he]))⟩⟩
  · rw [List.length_set]
    simp only [List.length_append,List.length_take,List.length_drop]
    rw [hr.1] at hseg ⊢
    omega
  · rw [List.length_set,← hn]
    apply List.ext_getElem?
    intro q
    rw [List.getElem?_take,h5]
    rw [seg_get cur.toList seg (i.toNat * d.sz+j) (by rw [Array.length_toList];omega) q,seg_get inner seg (i.toNat * d.sz+j) (by omega) q]
    have hcur:∀ q,q < n * d.sz→cur.toList[q]? = inner[q]?:=by
      intro q hq
      rw [← ht,List.getElem?_take,if_pos (by rw [← hn];exact hq)]
    by_cases hq:q < n * d.sz
    · rw [if_pos hq,hcur q hq]
    · rw [if_neg hq,if_neg (by omega),if_neg (by omega),List.getElem?_eq_none (by omega)]
  · refine ⟨?_,fun m p hm=>?_⟩
    · rw [List.length_set]
      simp only [List.length_append,List.length_take,List.length_drop]
      rw [hr.1] at hseg ⊢
      omega
    · have hml:m < xs.length:=by
        have:=(List.getElem?_eq_some_iff.1 hm).1
        rwa [List.length_set] at this
      have hmfit:m * d.sz+d.sz≤inner.length:=by rw [hr.1,← Nat.succ_mul];exact Nat.mul_le_mul_right _ hml
      have hgo:some g=(Value.slice (some ⟨g,0,none⟩) n cap).ownBlock:=by simp [Value.ownBlock]
      by_cases hmi:m=i.toNat
      · subst hmi
        rw [List.getElem?_set_self (by omega)] at hm
        injection hm with hm
        subst hm
        have hcells:((inner.take (i.toNat * d.sz+j) ++ seg ++ inner.drop (i.toNat * d.sz+j+seg.length)).drop (i.toNat * d.sz)).take d.sz=c.take j ++ seg ++ c.drop (j+seg.length):=by
          apply List.ext_getElem?
          intro q
          rw [List.getElem?_take,List.getElem?_drop,seg_get inner seg _ (by omega),seg_get c seg j (by omega) q]
          by_cases hq:q < d.sz
          · rw [if_pos hq,hcin q hq]
            by_cases hq1:q < j
            · rw [if_pos (by omega),if_pos hq1]
            · rw [if_neg (by omega),if_neg hq1]
              by_cases hq2:q < j+seg.length
              · rw [if_pos (by omega),if_pos hq2]
                congr 1
                omega
              · rw [if_neg (by omega),if_neg hq2]
          · rw [if_neg hq,if_neg (by omega),if_neg (by omega),List.getElem?_eq_none (by omega)]
        rw [hcells]
        refine d.M_mono (fun k hk=>?_) (d.M_move (w1:=W.setCells g (i.toNat * d.sz+j) seg) (fun k hk=>hfar k (hokp k hk).2) hM)
        exact ⟨(hokp k hk).1,fun he=>(hokp k hk).2 (by rw [← hgo] at he;injection he)⟩
      · rw [List.getElem?_set_ne (by omega)] at hm
        have hold:=hr.2 m p hm
        have hcells:((inner.take (i.toNat * d.sz+j) ++ seg ++ inner.drop (i.toNat * d.sz+j+seg.length)).drop (m * d.sz)).take d.sz=(inner.drop (m * d.sz)).take d.sz:=by
          apply List.ext_getElem?
          intro q
          rw [List.getElem?_take,List.getElem?_take,List.getElem?_drop,List.getElem?_drop,seg_get inner seg _ (by omega)]
          by_cases hq:q < d.sz
          · rw [if_pos hq,if_pos hq]
            rcases Nat.lt_or_gt_of_ne hmi with hlt | hgt
            · have:m * d.sz+d.sz≤i.toNat * d.sz:=by rw [← Nat.succ_mul];exact Nat.mul_le_mul_right _ hlt
              rw [if_pos (by omega)]
            · have:i.toNat * d.sz+d.sz≤m * d.sz:=by rw [← Nat.succ_mul];exact Nat.mul_le_mul_right _ hgt
              rw [if_neg (by omega),if_neg (by omega)]
          · rw [if_neg hq,if_neg hq]
        rw [hcells]
        refine d.M_move (fun k hk=>hfar k (fun he=>hk.2 (by rw [he];exact hgo))) hold
end
end Kd
/-! ### 31. What came in, put into what is made: 'fixed d w0' (read in w0, whatever happens since), 'or_ a b', 'mix' (a slice that came in, or one that is made) -/
namespace Kd
def fixed {α:Type} (d:Kd α) (w0:World):Kd α where
  sz:=d.sz
  E:=[]
  K:=fun _ x cs=>d.K w0 x cs
  M:=fun _ _ _ x cs=>d.K w0 x cs
  K_len:=d.K_len
  K_one:=d.K_one
  K_below:=fun _ h=>h
  K_of_M:=fun h=>h
  M_mono:=fun _ h=>h
  M_bound:=fun h=>h
  M_move:=fun _ h=>h
  M_lower:=fun _ h=>h
def or_ {α:Type} (a b:Kd α) (h:b.sz=a.sz):Kd α where
  sz:=a.sz
  E:=a.E ++ b.E
  K:=fun w x cs=>a.K w x cs ∨ b.K w x cs
  M:=fun w base ok x cs=>a.M w base ok x cs ∨ b.M w base ok x cs
  K_len:=fun hk=>hk.elim a.K_len (fun hk=>(b.K_len hk).trans h)
  K_one:=fun hk=>hk.elim a.K_one b.K_one
  K_below:=fun hb hk=>hk.imp (a.K_below hb) (b.K_below hb)
  K_of_M:=fun hk=>hk.imp a.K_of_M b.K_of_M
  M_mono:=fun hok hk=>hk.imp (a.M_mono hok) (b.M_mono hok)
  M_bound:=fun hk=>hk.imp
    (fun hk=>a.M_mono (fun _ ⟨h1,h2,h3,q,hq,hc⟩=>⟨h1,h2,h3,q,List.mem_append_left _ hq,hc⟩) (a.M_bound hk))
    (fun hk=>b.M_mono (fun _ ⟨h1,h2,h3,q,hq,hc⟩=>⟨h1,h2,h3,q,List.mem_append_right _ hq,hc⟩) (b.M_bound hk))
  M_move:=fun hm hk=>hk.imp (a.M_move hm) (b.M_move hm)
  M_lower:=fun hb hk=>hk.imp (a.M_lower hb) (b.M_lower hb)
def mix {α:Type} (e:Nat) (d dm:Kd α) (w0:World):Kd (List α):=or_ (fixed (slice e d) w0) (slice e dm) rfl
section
variable {α:Type} {F:Kd α→Kd α} {sz:Nat} {E:List Nat} {hs:∀ n,(upto F sz E n).sz=sz} {hE:∀ n q,q ∈ (upto F sz E n).E→q ∈ E}
end
end Kd
/-! ### 32. A whole row appended, of elements of any kind; copy onto a row of scalars of one's own -/
namespace Kd
theorem reps_append {α:Type} {R:α→List Value→Prop} {size:Nat} {ps qs:List α} {cs ds:List Value} (h:Reps R size ps cs) (h':Reps R size qs ds):Reps R size (ps ++ qs) (cs ++ ds):=by
  refine ⟨by rw [List.length_append,List.length_append,h.1,h'.1,Nat.add_mul],fun j p hj=>?_⟩
  rcases Nat.lt_or_ge j ps.length with hlt | hge
  · rw [List.getElem?_append_left hlt] at hj
    have hle:j * size+size≤cs.length:=by rw [h.1,← Nat.succ_mul];exact Nat.mul_le_mul_right _ hlt
    rw [List.drop_append_of_le_length (by omega),List.take_append_of_le_length (by rw [List.length_drop];omega)]
    exact h.2 j p hj
  · rw [List.getElem?_append_right hge] at hj
    have h2:=h'.2 (j - ps.length) p hj
    have hle:ps.length * size≤j * size:=Nat.mul_le_mul_right _ hge
    rw [List.drop_append,List.drop_eq_nil_of_le (by rw [h.1];exact hle),List.nil_append,h.1,← Nat.sub_mul]
    exact h2
section
variable {P:Program} {ops:Array Oper} {rest:List Oper} {o:Oper} {a:Act} {Q:Exit→Act→World→Prop} {α:Type}
theorem R_append_rows (d:Kd α) {Rr:α→List Value→Prop} {w0 W:World} (base:Nat) (hgd:o.guard=none) (s x:Operand) (t e:TypeId) (z:Value) (bytes:Nat)
    (ho:o.op=.call { callee:=.builtin .append,args:=#[s,x],argTypes:=#[t,t] })
    (ht:P.underlying t=some (.slice e)) (hinfo:(P.info? e).map (fun i=>(i.zero,i.size,i.bytes))=some (some z,d.sz,bytes)) (hz:z.cells.size=d.sz) (hs0:0 < d.sz) (hb0:0 < bytes)
    (v:Value) (xs ys:List α) (A:Option Addr) (m c:Nat) (ok okp:Nat→Prop) (hs:a.eval s=v) (hx:a.eval x=.slice A m c)
    (HO:d.R e W base ok v xs) (HR:ReadsRow Rr d.sz W A m ys) (hKM:∀ x cs,Rr x cs→d.M W base okp x cs) (hokp:∀ k,okp k→ok k∧some k≠v.ownBlock) (hfresh:∀ k,W.heap.size≤k→ok k)
    (HB:Below base w0 W) (hbase:base≤W.heap.size) (hl:(xs.length+m) * bytes≤140737488355328)
    (h:∀ v1 w1,d.R e w1 base ok v1 (xs ++ ys)→Below base w0 w1→W.grownBy w1 v.ownBlock→(v1.ownBlock=v.ownBlock ∨ ∃ b,v1.ownBlock=some b∧W.heap.size≤b)→wpList P ops Q rest (a.put o.dst v1) w1) :
    wpList P ops Q (o :: rest) a W:=by
  obtain ⟨i0,hi,hzz⟩:=Option.map_eq_some_iff.1 hinfo
  simp only [Prod.mk.injEq] at hzz
  obtain ⟨hz0,hz1,hz2⟩:=hzz
  have hm:ys.length=m:=HR.1
  have hlen:xs.length+m≤140737488355328:=Nat.le_trans (Nat.le_mul_of_pos_right _ hb0) hl
  obtain ⟨hok,inner,hown,hr⟩:=HO
  have hrun:∃ v1 w1,(Builtin.append_ #[t,t] o.type #[v,.slice A m c]).run P W=.ok v1 w1∧d.R e w1 base ok v1 (xs ++ ys)∧W.grownBy w1 v.ownBlock∧(v1.ownBlock=v.ownBlock ∨ ∃ b,v1.ownBlock=some b∧W.heap.size≤b):=by
    rcases A with _ | ad
    · have h0:m=0:=by
        rcases Nat.eq_zero_or_pos m with h0 | h0
        · exact h0
        · obtain ⟨ad,h,_⟩:=HR.2.2 h0
          cases h
      subst h0
      obtain rfl:ys=[]:=List.eq_nil_of_length_eq_zero hm
      refine ⟨v,W, ?_,by rw [List.append_nil];exact ⟨hok,inner,hown,hr⟩,World.grownBy.refl W _,.inl rfl⟩
      rcases hown.2 with ⟨rfl,hn⟩ | ⟨g,cap,cur,rfl,_,_,hnc,_⟩
      · simp [Builtin.append_,run_underlying ht,sizeOf,typeInfo,hi,Builtin.lenOf,Builtin.firstCells]
      · simp [Builtin.append_,run_underlying ht,sizeOf,typeInfo,hi,Builtin.lenOf,Builtin.firstCells,hnc,storeCells]
    · obtain ⟨news,hnr,hnc⟩:=ReadsRow.inner_ HR
      have hnM:Reps (d.M W base okp) d.sz ys news:=hnr.imp_ (fun p c hp=>hKM p c hp)
      have hone:∀ u ∈ news,u.oneCell'=true:=by
        intro u hu
        obtain ⟨q,hq,rfl⟩:=List.mem_iff_getElem.1 hu
        have hql:q / d.sz < ys.length:=by
          rw [Nat.div_lt_iff_lt_mul hs0]
          rw [← hnM.1]
          exact hq
        have hc:=hnM.2 (q / d.sz) _ (List.getElem?_eq_getElem hql)
        refine d.K_one (d.K_of_M hc) _ ?_
        rw [List.mem_iff_getElem?]
        refine ⟨q % d.sz, ?_⟩
        rw [List.getElem?_take,if_pos (Nat.mod_lt _ hs0),List.getElem?_drop,Nat.mul_comm,Nat.div_add_mod,List.getElem?_eq_getElem hq]
      obtain ⟨v1,w1,hrun,h2,hg,_,hat⟩:=run_append_own_at (P:=P) W base t o.type e i0 z d.sz bytes ht hi hz0 hz1 hz2 hz hs0 v xs.length inner hown ad m c news (by rw [hnM.1,hm]) hnc hone (by simp only [maxLen];omega) hl hbase
      have hat':v1.ownBlock=v.ownBlock ∨ ∃ b,v1.ownBlock=some b∧W.heap.size≤b:=by
        rcases hat with hat | hat
        · exact .inl hat
        · exact .inr ⟨_,hat,Nat.le_refl _⟩
      have hne:∀ k,some k≠v.ownBlock→k < W.heap.size→some k≠v1.ownBlock:=by
        intro k hk hlt
        rcases hat' with hat | ⟨b,hb,hle⟩
        · rw [hat];exact hk
        · rw [hb]
          intro he
          injection he with he
          omega
      have step:∀ {q:α} {c:List Value} {o:Nat→Prop},d.M W base o q c→(∀ k,o k→ok k∧some k≠v.ownBlock)→d.M w1 base (fun k=>ok k∧some k≠v1.ownBlock) q c:=by
        intro q c o hq ho
        have h1:=d.M_move (w1:=w1) (fun k hk=>hg.block k hk.2.2.1 (ho k hk.1).2) (d.M_bound hq)
        exact d.M_mono (fun k hk=>⟨(ho k hk.1).1,hne k (ho k hk.1).2 hk.2.2.1⟩) h1
      refine ⟨v1,w1,hrun,⟨fun k hk=>?_,inner ++ news,by rw [List.length_append,hm];exact h2,reps_append (hr.imp_ (fun _ _ hq=>step hq (fun _ hk=>hk))) (hnM.imp_ (fun _ _ hq=>step hq hokp))⟩,hg,hat'⟩
      rcases hat' with hat | ⟨b,hb,hle⟩
      · exact hok k (hat ▸ hk)
      · rw [hb] at hk
        injection hk with hk
        exact hfresh k (by omega)
  obtain ⟨v1,w1,hr1,h1,hg,hat⟩:=hrun
  refine wpList_plain hgd fun K hK=>?_
  unfold Oper.wp execOp
  simp only [ho,resolve,invoke,builtin,Sem.run_bind,Sem.run_pure,Result.andThen_ok,List.map_toArray,List.map_cons,List.map_nil,hs,hx,hr1]
  exact hK _ _ (h v1 w1 h1 (HB.grown hg hbase (own_base hown)) hg hat)
end
end Kd
namespace Kd
section
variable {P:Program} {ops:Array Oper} {rest:List Oper} {o:Oper} {a:Act} {Q:Exit→Act→World→Prop} {α:Type}
end
end Kd
/-! ### 34. Cuts that are only read, of any row -/
theorem add_add (a:Addr) (i j:Nat):(a.add i).add j=a.add (i+j):=by
  unfold Addr.add
  by_cases h1:i=0 <;> by_cases h2:j=0 <;> simp [h1,h2,Nat.add_assoc]
namespace Kd
section
variable {α:Type} {k:Kd α} {w:World} {A:Option Addr} {xs:List α} {m c:Nat}
theorem C_drop (h:k.C w A xs.length xs) (hm:m≤xs.length) (hc:xs.length≤c):k.C w (if c=m then A else A.map (·.add (m * k.sz))) (xs.drop m).length (xs.drop m):=by
  have hl:(xs.drop m).length=xs.length - m:=List.length_drop
  refine ⟨rfl,by rw [hl];have:=h.2.1;omega,fun hp=>?_⟩
  rw [hl] at hp
  obtain ⟨ad,rfl,hcell⟩:=h.2.2 (by omega)
  rw [if_neg (by omega)]
  refine ⟨ad.add (m * k.sz),rfl,fun j p hj=>?_⟩
  rw [List.getElem?_drop] at hj
  obtain ⟨cs,h1,h2,h3⟩:=hcell (m+j) p hj
  refine ⟨cs,h1,h2,fun i u hu=>?_⟩
  rw [add_add,show m * k.sz+(j * k.sz+i)=(m+j) * k.sz+i by rw [Nat.add_mul];omega]
  exact h3 i u hu
end
end Kd
section
variable {P:Program}
end
/-! ### 6. What the printer adds -/
theorem below_size {w W:World} (h:Below w.heap.size w W):w.heap.size≤W.heap.size:=h.size
theorem below_step {w W w2:World} (h:Below w.heap.size w W) (k:Below W.heap.size W w2):Below w.heap.size w w2:=below_then h h.size k
theorem below_set {w W:World} {g j:Nat} {v:Value} (h:Below w.heap.size w W) (hg:w.heap.size≤g):Below w.heap.size w (W.setCell ⟨g,j,none⟩ v):=h.setCell hg _
theorem add_block (a:Addr) (i:Nat):(a.add i).block=a.block:=by unfold Addr.add;split <;> rfl
theorem blk_put {w:World} {g:Nat} {t:TypeId} {cs cs':Array Value} (h:w.heap[g]? = some (.cells cs t (0,0))) (i:Nat) (u:Value) (e:cs.setIfInBounds i u=cs'):(w.setCell ⟨g,i,none⟩ u).heap[g]? = some (.cells cs' t (0,0)):=e ▸ blk_set h i u
theorem below_drew1 {base:Nat} {w W:World} (h:Below base w W):Below base w W.drew:=h.drew
namespace Kd
section
variable {α β:Type} {d:Kd α} {d':Kd β} {e e' base base' n:Nat} {ok ok':Nat→Prop} {w W w1 W1:World} {v u:Value} {xs:List α} {ys:List β} {A:Option Addr} {c:Nat}
end
section
variable {α:Type} {enc:α→Value} {h1:∀ x,(enc x).oneCell'=true} {w W:World} {A:Option Addr} {n g:Nat} {xs:List α}
end
end Kd
namespace Kd
section
variable {α:Type} {d:Kd α} {e base g:Nat} {ok:Nat→Prop} {w w1:World} {v:Value} {xs:List α} {o:Obj}
theorem freshB (hb:w.heap[g]? = some o):∀ k,w.heap.size≤k→k≠g:=fun k hk=>by have:=blk_lt hb;omega
end
end Kd
section
variable {P:Program} {ops:Array Oper} {rest:List Oper} {o:Oper} {a:Act} {Q:Exit→Act→World→Prop}
theorem box_event {W:World} (hgd:o.guard=none) {N:Tmp} (_hd:o.dst=some N) {cs:Array Value} {t:TypeId}
    (hrun:(execOp a.eval o).run P W=.ok (.value (.pointer (some ⟨W.heap.size,0,none⟩))) (W.alloc (.cells cs t (0,0))))
    (h:∀ g,g=W.heap.size→∀ w1,w1.heap[g]? = some (.cells cs t (0,0))→Below W.heap.size W w1→wpList P ops Q rest (a.put o.dst (.pointer (some ⟨g,0,none⟩))) w1):wpList P ops Q (o :: rest) a W :=
  Kd.event_run hgd hrun (h _ rfl _ (blk_new W _) (below_alloc (Below.refl _ _) _))
end
namespace Kd
section
variable {α:Type} {enc:α→Value} {h1:∀ x,(enc x).oneCell'=true} {e base g n cap:Nat} {ok:Nat→Prop} {W:World} {xs:List α}
theorem R_celln (d:α) (h:(scalar enc h1).R e W base ok (.slice (some ⟨g,0,none⟩) n cap) xs) (i:Int) (h0:0≤i) (hi:i < n):W.cell? ⟨g,i.toNat,none⟩=some (enc (rdOf d xs i))∧W.frozen? ⟨g,i.toNat,none⟩=false:=by
  obtain ⟨rfl,_⟩:=R_reads' h
  exact R_cell d h i h0 hi
theorem R_putn (h:(scalar enc h1).R e W base ok (.slice (some ⟨g,0,none⟩) n cap) xs) (i:Int) (x:α):(scalar enc h1).R e (W.setCell ⟨g,i.toNat,none⟩ (enc x)) base ok (.slice (some ⟨g,0,none⟩) n cap) (xs.set i.toNat x):=by
  obtain ⟨rfl,_⟩:=R_reads' h
  exact (R_put h i x).1
end
end Kd
section
variable {P:Program} {ops:Array Oper} {rest:List Oper} {o:Oper} {a:Act} {Q:Exit→Act→World→Prop}
theorem store_event {W w1:World} (hgd:o.guard=none) {t:TypeId} {p:Tmp} {v:Operand} (_ho:o.op=.store t (.tmp p) v) (hN:o.dst=none)
    (hrun:(execOp a.eval o).run P W=.ok .skip w1) (h:∀ w',w'=w1→wpList P ops Q rest a w'):wpList P ops Q (o :: rest) a W:=by
  refine wpList_plain hgd fun K hK=>?_
  unfold Oper.wp
  rw [hrun]
  show K (a.put o.dst undef) w1
  rw [hN]
  exact hK _ _ (h _ rfl)
end
namespace Kd
section
variable {α:Type} {enc:α→Value} {h1:∀ x,(enc x).oneCell'=true} {e base g n cap:Nat} {ok:Nat→Prop} {W:World} {xs:List α}
end
end Kd
section
variable {P:Program} {ops:Array Oper} {rest:List Oper} {o:Oper} {a:Act} {Q:Exit→Act→World→Prop} {W:World}
theorem gate_dst {N:Tmp} (_hN:o.dst=some N) (h:wpList P ops Q (o :: rest) a W):wpList P ops Q (o :: rest) a W:=h
theorem gate_store {t:TypeId} {p:Tmp} {v:Operand} (_ho:o.op=.store t (.tmp p) v) (h:wpList P ops Q (o :: rest) a W):wpList P ops Q (o :: rest) a W:=h
end
/-! ### 36. Events as_ one step of a region that draws (for one_, two_, three_) -/
section
variable {P:Program} {ops:Array Oper} {o:Oper} {a:Act} {Q:Exit→Act→World→Prop} {Kc:Act→World→Prop}
namespace Kd
variable {α:Type}
end Kd
end
/-! ### 37. Results of any shape -/
inductive Vals (P:Program) (tmps:Array Value) (w:World):List ResultVar→List Value→Prop where
  | nil:Vals P tmps w [] []
  | tmp {u:Tmp} {rs:List ResultVar} {vs:List Value} (h:Vals P tmps w rs vs):Vals P tmps w (.tmp u :: rs) (tmps.getD u undef :: vs)
  | cell {p:Tmp} {ty:TypeId} {rs:List ResultVar} {vs:List Value} (g:Nat) (t:TypeId) (cs:Array Value) (fr:Nat × Nat) (d:TypeDesc)
      (hp:tmps.getD p undef=.pointer (some ⟨g,0,none⟩)) (hg:w.heap[g]? = some (.cells cs t fr))
      (hu:P.underlying ty=some d) (hd:(match d with | .struct _ | .array _ _=>true | _=>false)=true) (hi:(P.info? ty).map (·.size)=some cs.size)
      (h:Vals P tmps w rs vs):Vals P tmps w (.cell p ty :: rs) (.agg cs :: vs)
section
variable {P:Program} {tmps:Array Value} {w:World}
end
/-! ### 38. 'out = append(out[:k], out[k+1:]...)': an element taken out of a row of one's own, in place -/
namespace Kd
section
variable {P:Program} {α:Type}
end
section
variable {P:Program} {ops:Array Oper} {rest:List Oper} {o:Oper} {a:Act} {Q:Exit→Act→World→Prop} {Kc:Act→World→Prop} {α:Type}
end
end Kd

end Go.Proofs.YtclollnicbcooaaGreatDoorW.PrintWords
end
section
-- PRINTED BY print.sh 35421559b90ae4d0a3588c463048766b98c2df88dd9212a6774a882060cdf62d: not written by this session
/-
 PRINTED WORDS,second file: A REGION THAT DRAWS ITS ORDER,WALKED BY HAND,where its last store writes what its own loads read ('x.f=append(x.f,f(i))'). Plain theorems;no macro,no elab. A claim may hold it (turn the namespace's name).
 A load may be taken first in every world that meets S;behind the operations of ds nothing is shown;sound because each of ds waits for what is taken (Region.lastB). The kernel checks it.
 By an AI agent of Go's test side,Mon Nov 16 2026. No person has read it.
-/
namespace Go.Proofs.YtclollnicbcooaaGreatDoorW.PrintLast

section
variable {P:Program} {ops:Array Oper} {Q:Exit→Act→World→Prop} {md:Region.Mode} {S:World→Prop} {ds:List Nat}

def Region.reachB (md:Region.Mode) (ops:Array Oper) (i:Nat):Nat→Nat→Bool
 | 0,_=>false
 | fuel+1,d=>match ops[d]? with
  | some o=>o.after.any fun e=>Region.binds md e && (e.on == i || Region.reachB md ops i fuel e.on)
  | none=>false

def Region.closedB (md:Region.Mode) (ops:Array Oper) (listed:Array Bool):Bool :=
 (List.range ops.size).all fun j=>!listed.getD j false || match ops[j]? with
  | some o=>o.after.all fun e=>!Region.binds md e || listed.getD e.on false
  | none=>true

def Region.lastB (md:Region.Mode) (ops:Array Oper) (listed:Array Bool) (ds:List Nat) (i:Nat):Bool :=
 ds.all fun d=>listed.getD d true || Region.reachB md ops i ops.size d

def ListedClosed (md:Region.Mode) (ops:Array Oper) (listed:Array Bool):Prop :=
 ∀ j oj,ops[j]? = some oj→listed.getD j false=true→∀ e ∈ oj.after,Region.binds md e=true→listed.getD e.on false=true

theorem Region.closedB_spec {listed:Array Bool} (h:Region.closedB md ops listed=true):ListedClosed md ops listed:=by
 intro j oj hj hl e he hb
 have hlt:j < ops.size:=(Array.getElem?_eq_some_iff.1 hj).1
 have h1:=List.all_eq_true.1 h j (List.mem_range.2 hlt)
 simp only [hl,hj,Bool.not_true,Bool.false_or] at h1
 have h2:=Array.all_eq_true_iff_forall_mem.1 h1 e he
 simpa [hb] using h2

theorem ListedClosed.set {listed:Array Bool} {i:Nat} (h:ListedClosed md ops listed) (hi:i ∈ Region.ready md ops listed):ListedClosed md ops (listed.setIfInBounds i true):=by
 obtain ⟨_,oi,hoi,hall⟩:=mem_ready.1 hi
 intro j oj hj hl e he hb
 by_cases hij:i=j
 ·subst hij
  have:oj=oi:=Option.some.inj (hj.symm.trans hoi)
  subst this
  exact getD_set_true (hall e he hb)
 ·rw [getD_set_ne false hij] at hl
  exact getD_set_true (h j oj hj hl e he hb)

theorem Region.reach_listed {listed:Array Bool} {i:Nat} (hc:ListedClosed md ops listed):∀ (fuel d:Nat),Region.reachB md ops i fuel d=true→listed.getD d false=true→listed.getD i false=true
 | 0,_,h,_=>by simp [Region.reachB] at h
 | fuel+1,d,h,hl=>by
  unfold Region.reachB at h
  cases ho:ops[d]? with
  | none=>rw [ho] at h;simp at h
  | some o =>
   rw [ho] at h
   obtain ⟨e,he,h1⟩:=Array.any_eq_true'.1 h
   simp only [Bool.and_eq_true,Bool.or_eq_true,beq_iff_eq] at h1
   have hle:=hc d o ho hl e he h1.1
   rcases h1.2 with h2 | h2
   ·rw [← h2];exact hle
   ·exact Region.reach_listed hc fuel e.on h2 hle

theorem Region.reach_not_ready {listed:Array Bool} {i d fuel:Nat} (hc:ListedClosed md ops listed) (hr:Region.reachB md ops i fuel d=true) (hun:listed.getD i true=false):d ∉ Region.ready md ops listed:=by
 intro hd
 obtain ⟨_,o,ho,hall⟩:=mem_ready.1 hd
 have hi:listed.getD i false=true:=by
  cases fuel with
  | zero=>simp [Region.reachB] at hr
  | succ n =>
   unfold Region.reachB at hr
   rw [ho] at hr
   obtain ⟨e,he,h1⟩:=Array.any_eq_true'.1 hr
   simp only [Bool.and_eq_true,Bool.or_eq_true,beq_iff_eq] at h1
   have hle:=hall e he h1.1
   rcases h1.2 with h2 | h2
   ·rw [← h2];exact hle
   ·exact Region.reach_listed hc n e.on h2 hle
 rcases Nat.lt_or_ge i listed.size with h' | h'
 ·simp [h'] at hun hi
  rw [hun] at hi
  cases hi
 ·simp [Array.getElem?_eq_none h'] at hun

def wpAnyLast (P:Program) (md:Region.Mode) (ops:Array Oper) (Q:Exit→Act→World→Prop) (S:World→Prop) (ds:List Nat):Nat→Array Bool→Act→World→Prop
 | 0,listed,a,w=>Region.ready md ops listed=[]∧Q .normal a w
 | fuel+1,listed,a,w =>
  (Region.ready md ops listed=[]→Q .normal a w) ∧
  ∀ i ∈ Region.ready md ops listed,wpOp P ops Q i (fun a' w'=>(i ∉ ds→S w→S w')∧wpAnyLast P md ops Q S ds fuel (listed.setIfInBounds i true) a' w') a w

theorem wpAny_of_last:∀ (fuel:Nat) (listed:Array Bool) (a:Act) (w:World),wpAnyLast P md ops Q S ds fuel listed a w→wpAny P md ops Q fuel listed a w
 | 0,_,_,_,h=>h
 | fuel+1,_,_,_,h=>⟨h.1,fun i hi=>wpOp_mono (fun a' w' h'=>wpAny_of_last fuel _ a' w' h'.2) (h.2 i hi)⟩

theorem wpAnyLast_first {i:Nat} {oi:Oper} {v:Value} (hi:ops[i]? = some oi) (hsel:∀ (j:Nat) (o:Oper) cs b,ops[j]? = some o→o.op≠.select cs b)
  (hQ:∀ c a w,Q (.panic c) (a.put oi.dst v) w→Q (.panic c) a w) (n:Nat) :
  ∀ (fuel:Nat) (listed:Array Bool) (a:Act) (w:World),
   (∀ j oj,ops[j]? = some oj→j≠i→listed.getD j true=false→(∀ e ∈ oj.after,Region.binds md e=true→e.on≠i)→oi.apart ops oj=true) →
   ListedClosed md ops listed→(∀ d ∈ ds,listed.getD d true=false→Region.reachB md ops i n d=true) →
   i ∈ Region.ready md ops listed→YieldsIf P ops S oi v a→S w →
   wpAnyLast P md ops Q S ds fuel (listed.setIfInBounds i true) (a.put oi.dst v) w→wpAnyLast P md ops Q S ds (fuel+1) listed a w:=by
 intro fuel
 induction fuel with
 | zero =>
  intro listed a w _ _ _ hr hy hS H
  refine ⟨fun h=>(by rw [h] at hr;cases hr),fun j hj=>?_⟩
  by_cases hji:j=i
  ·subst hji;exact hy.wpOp hi hS ⟨fun _ h=>h,H⟩
  ·have:=ready_mono hj hji
   rw [H.1] at this
   cases this
 | succ fuel ih =>
  intro listed a w hfree hc hd hr hy hS H
  refine ⟨fun h=>(by rw [h] at hr;cases hr),fun j hj=>?_⟩
  by_cases hji:j=i
  ·subst hji;exact hy.wpOp hi hS ⟨fun _ h=>h,H⟩
  ·have h1:=H.2 j (ready_mono hj hji)
   obtain ⟨hjun,oj,hoj,hall⟩:=mem_ready.1 hj
   have hiun:=(mem_ready.1 hr).1
   have hnot:∀ e ∈ oj.after,Region.binds md e=true→e.on≠i:=fun e he hb heq=>by
    have h1:=hall e he hb
    rw [heq] at h1
    rcases Nat.lt_or_ge i listed.size with h' | h'
    ·simp [h'] at hiun h1;rw [hiun] at h1;cases h1
    ·simp [Array.getElem?_eq_none h'] at h1
   have hjd:j ∉ ds:=fun hm=>Region.reach_not_ready hc (hd j hm hjun) hiun hj
   have h2:=wpOp_putIf hoj (hfree j oj hoj hji hjun hnot) (fun cs b=>hsel i oi cs b hi) (fun cs b=>hsel j oj cs b hoj) hQ hy h1
   have hfree':∀ k ok,ops[k]? = some ok→k≠i→(listed.setIfInBounds j true).getD k true=false →
     (∀ e ∈ ok.after,Region.binds md e=true→e.on≠i)→oi.apart ops ok=true:=fun k ok hk hki hun hno=>by
    refine hfree k ok hk hki ?_ hno
    by_cases hjk:j=k
    ·subst hjk;exact hjun
    ·rw [getD_set_ne true hjk] at hun;exact hun
   have hd':∀ d ∈ ds,(listed.setIfInBounds j true).getD d true=false→Region.reachB md ops i n d=true:=fun d hm hun=>by
    refine hd d hm ?_
    by_cases hjk:j=d
    ·subst hjk;exact hjun
    ·rw [getD_set_ne true hjk] at hun;exact hun
   refine wpOp_mono (fun a' w' h3=>⟨h3.2.1,ih (listed.setIfInBounds j true) a' w' hfree' (hc.set hj) hd' (ready_mono hr (Ne.symm hji)) h3.1 (h3.2.1 hjd hS) ?_⟩) h2
   rw [Array.setIfInBounds_comm _ _ hji]
   exact h3.2.2

theorem wpAnyLast_any {i:Nat} {oi:Oper} {v:Value} (hi:ops[i]? = some oi) (hsel:∀ (j:Nat) (o:Oper) cs b,ops[j]? = some o→o.op≠.select cs b)
  (hQ:∀ c a w,Q (.panic c) (a.put oi.dst v) w→Q (.panic c) a w) :
  ∀ (fuel:Nat) (listed:Array Bool) (a:Act) (w:World),
   (∀ j oj,ops[j]? = some oj→j≠i→listed.getD j true=false→(∀ e ∈ oj.after,Region.binds md e=true→e.on≠i)→oi.apart ops oj=true) →
   i ∈ Region.ready md ops listed→Yields P ops oi v a →
   wpAnyLast P md ops Q S ds fuel (listed.setIfInBounds i true) (a.put oi.dst v) w→wpAnyLast P md ops Q S ds (fuel+1) listed a w:=by
 intro fuel
 induction fuel with
 | zero =>
  intro listed a w _ hr hy H
  refine ⟨fun h=>(by rw [h] at hr;cases hr),fun j hj=>?_⟩
  by_cases hji:j=i
  ·subst hji;exact (hy.yieldsIf (S:=fun _=>True)).wpOp hi trivial ⟨fun _ h=>h,H⟩
  ·have:=ready_mono hj hji
   rw [H.1] at this
   cases this
 | succ fuel ih =>
  intro listed a w hfree hr hy H
  refine ⟨fun h=>(by rw [h] at hr;cases hr),fun j hj=>?_⟩
  by_cases hji:j=i
  ·subst hji;exact (hy.yieldsIf (S:=fun _=>True)).wpOp hi trivial ⟨fun _ h=>h,H⟩
  ·have h1:=H.2 j (ready_mono hj hji)
   obtain ⟨hjun,oj,hoj,hall⟩:=mem_ready.1 hj
   have hiun:=(mem_ready.1 hr).1
   have hnot:∀ e ∈ oj.after,Region.binds md e=true→e.on≠i:=fun e he hb heq=>by
    have h1:=hall e he hb
    rw [heq] at h1
    rcases Nat.lt_or_ge i listed.size with h' | h'
    ·simp [h'] at hiun h1;rw [hiun] at h1;cases h1
    ·simp [Array.getElem?_eq_none h'] at h1
   have h2:=wpOp_put hoj (hfree j oj hoj hji hjun hnot) (fun cs b=>hsel i oi cs b hi) (fun cs b=>hsel j oj cs b hoj) hQ hy h1
   have hfree':∀ k ok,ops[k]? = some ok→k≠i→(listed.setIfInBounds j true).getD k true=false →
     (∀ e ∈ ok.after,Region.binds md e=true→e.on≠i)→oi.apart ops ok=true:=fun k ok hk hki hun hno=>by
    refine hfree k ok hk hki ?_ hno
    by_cases hjk:j=k
    ·subst hjk;exact hjun
    ·rw [getD_set_ne true hjk] at hun;exact hun
   refine wpOp_mono (fun a' w' h3=>⟨h3.2.1,ih (listed.setIfInBounds j true) a' w' hfree' (ready_mono hr (Ne.symm hji)) h3.1 ?_⟩) h2
   rw [Array.setIfInBounds_comm _ _ hji]
   exact h3.2.2

theorem wpAnyLast_take {i:Nat} {oi:Oper} {v:Value} {fuel:Nat} {listed:Array Bool} {a:Act} {w:World} (hi:ops[i]? = some oi)
  (hs:Region.noSelect ops=true) (hf:Region.free md ops listed i=true) (hr:(Region.ready md ops listed).contains i=true)
  (hc:Region.closedB md ops listed=true) (hl:Region.lastB md ops listed ds i=true)
  (hQ:∀ c a w,Q (.panic c) (a.put oi.dst v) w→Q (.panic c) a w) (hy:YieldsIf P ops S oi v a) (hS:S w)
  (h:wpAnyLast P md ops Q S ds fuel (listed.setIfInBounds i true) (a.put oi.dst v) w):wpAnyLast P md ops Q S ds (fuel+1) listed a w :=
 wpAnyLast_first hi (Region.noSelect_spec hs) hQ ops.size fuel listed a w (Region.free_spec hi hf) (Region.closedB_spec hc)
  (fun d hm hun=>by have:=List.all_eq_true.1 hl d hm;rw [hun] at this;simpa using this) (by simpa using hr) hy hS h

theorem wpAnyLast_all {rs:List Nat} {fuel:Nat} {listed:Array Bool} {a:Act} {w:World} (hr:Region.ready md ops listed=rs) (hne:rs≠[])
  (h:∀ i ∈ rs,wpOp P ops Q i (fun a' w'=>(i ∉ ds→S w→S w')∧wpAnyLast P md ops Q S ds fuel (listed.setIfInBounds i true) a' w') a w):wpAnyLast P md ops Q S ds (fuel+1) listed a w :=
 ⟨fun h0=>absurd (hr ▸ h0) hne,hr ▸ h⟩

theorem wpAnyLast_done {listed:Array Bool} {a:Act} {w:World} (hr:Region.ready md ops listed=[]) (h:Q .normal a w) :
  ∀ fuel,wpAnyLast P md ops Q S ds fuel listed a w
 | 0=>⟨hr,h⟩
 | _+1=>⟨fun _=>h,by rw [hr];simp⟩

theorem wp_region_last {id:Nat} {a:Act} {w:World} (hm:P.follows .mixedOrders=true)
  (h:wpAnyLast P .any ops Q S ds ops.size (Array.replicate ops.size false) a { w with drawn:=w.drawn+1 }):(Code.region id ops true).wp P Q a w :=
 wp_region_any hm (wpAny_of_last _ _ _ _ h)

end

section
variable {P:Program} {ops:Array Oper} {Q:Exit→Act→World→Prop} {md:Region.Mode} {S:World→Prop} {ds:List Nat}

def AllReadyL (P:Program) (md:Region.Mode) (ops:Array Oper) (Q:Exit→Act→World→Prop) (S:World→Prop) (ds:List Nat) (fuel:Nat) (listed:Array Bool) (a:Act) (w:World) (rs:List Nat):Prop :=
 ∀ i ∈ rs,wpOp P ops Q i (fun a' w'=>(i ∉ ds→S w→S w')∧wpAnyLast P md ops Q S ds fuel (listed.setIfInBounds i true) a' w') a w
theorem AllReadyL.nil {fuel:Nat} {listed:Array Bool} {a:Act} {w:World}:AllReadyL P md ops Q S ds fuel listed a w []:=fun _ h=>by cases h
theorem AllReadyL.cons {fuel:Nat} {listed:Array Bool} {a:Act} {w:World} {i:Nat} {o:Oper} {rs:List Nat} (ho:ops[i]? = some o) (hd:i ∉ ds)
  (h:∀ K':Act→World→Prop,Shut (∀ a w,S w→(S w→wpAnyLast P md ops Q S ds fuel (listed.setIfInBounds i true) a w)→K' a w)→if Region.wanted o (yielded ops a.tmps)=true then Oper.wp P o a w K' Q else K' (a.put o.dst undef) w)
  (hs:AllReadyL P md ops Q S ds fuel listed a w rs):AllReadyL P md ops Q S ds fuel listed a w (i :: rs):=fun j hj=>by
 rcases List.mem_cons.1 hj with rfl | hj
 ·exact wpOp_step ho (fun K' hK=>h K' (fun a w hS hW=>hK a w ⟨fun _ _=>hS,hW hS⟩))
 ·exact hs j hj
theorem AllReadyL.cons_last {fuel:Nat} {listed:Array Bool} {a:Act} {w:World} {i:Nat} {o:Oper} {rs:List Nat} (ho:ops[i]? = some o) (hd:i ∈ ds)
  (h:∀ K':Act→World→Prop,Shut (∀ a w,wpAnyLast P md ops Q S ds fuel (listed.setIfInBounds i true) a w→K' a w)→if Region.wanted o (yielded ops a.tmps)=true then Oper.wp P o a w K' Q else K' (a.put o.dst undef) w)
  (hs:AllReadyL P md ops Q S ds fuel listed a w rs):AllReadyL P md ops Q S ds fuel listed a w (i :: rs):=fun j hj=>by
 rcases List.mem_cons.1 hj with rfl | hj
 ·exact wpOp_step ho (fun K' hK=>h K' (fun a w hW=>hK a w ⟨fun hn=>absurd hd hn,hW⟩))
 ·exact hs j hj
theorem wpAnyLast_ready {rs:List Nat} {fuel:Nat} {listed:Array Bool} {a:Act} {w:World} (hr:Region.ready md ops listed=rs) (hne:rs≠[])
  (h:AllReadyL P md ops Q S ds fuel listed a w rs):wpAnyLast P md ops Q S ds (fuel+1) listed a w:=wpAnyLast_all hr hne h
theorem start_ {id n:Nat} {a:Act} {w:World} (l:Array Bool) (hm:P.follows .mixedOrders=true) (hn:ops.size=n) (hl:Array.replicate n false=l) (hS:S w.drew)
  (h:S w.drew→wpAnyLast P .any ops Q S ds n l a w.drew):(Code.region id ops true).wp P Q a w:=by
 subst hn
 subst hl
 exact wp_region_last hm (h hS)
def takeB (md:Region.Mode) (ops:Array Oper) (ds:List Nat) (l l':Array Bool) (i:Nat):Bool :=
 Region.noSelect ops && Region.free md ops l i && (Region.ready md ops l).contains i && Region.closedB md ops l && Region.lastB md ops l ds i && (l.setIfInBounds i true == l')
theorem take_ {i:Nat} {N:Option Tmp} {oi:Oper} {v:Value} {fuel:Nat} {l:Array Bool} {a:Act} {w:World} (l':Array Bool) (hi:ops[i]? = some oi) (hN:oi.dst=N) (hc:takeB md ops ds l l' i=true)
  (hQ:∀ c a w,Q (.panic c) (a.put oi.dst v) w→Q (.panic c) a w) (hy:YieldsIf P ops S oi v a) (hS:S w) {a':Act} (ha:a.put N v=a')
  (h:wpAnyLast P md ops Q S ds fuel l' a' w):wpAnyLast P md ops Q S ds (fuel+1) l a w:=by
 subst ha
 subst hN
 simp only [takeB,Bool.and_eq_true,beq_iff_eq] at hc
 obtain ⟨⟨⟨⟨⟨h1,h2⟩,h3⟩,h4⟩,h5⟩,h6⟩:=hc
 subst h6
 exact wpAnyLast_take hi h1 h2 h3 h4 h5 hQ hy hS h
def anyB (md:Region.Mode) (ops:Array Oper) (l l':Array Bool) (i:Nat):Bool :=
 Region.noSelect ops && Region.free md ops l i && (Region.ready md ops l).contains i && (l.setIfInBounds i true == l')
theorem pure_ {i:Nat} {N:Option Tmp} {oi:Oper} {v:Value} {fuel:Nat} {l:Array Bool} {a:Act} {w:World} (l':Array Bool) (hi:ops[i]? = some oi) (hN:oi.dst=N) (hc:anyB md ops l l' i=true)
  (hQ:∀ c a w,Q (.panic c) (a.put oi.dst v) w→Q (.panic c) a w) (hy:Yields P ops oi v a) {a':Act} (ha:a.put N v=a')
  (h:wpAnyLast P md ops Q S ds fuel l' a' w):wpAnyLast P md ops Q S ds (fuel+1) l a w:=by
 subst ha
 subst hN
 simp only [anyB,Bool.and_eq_true,beq_iff_eq] at hc
 obtain ⟨⟨⟨h1,h2⟩,h3⟩,h6⟩:=hc
 subst h6
 exact wpAnyLast_any hi (Region.noSelect_spec h1) hQ fuel l a w (Region.free_spec hi h2) (by simpa using h3) hy h
def readyB (md:Region.Mode) (ops:Array Oper) (l l':Array Bool) (i:Nat):Bool:=(Region.ready md ops l == [i]) && (l.setIfInBounds i true == l')
theorem one_ {i:Nat} {N:Option Tmp} {oi:Oper} {fuel:Nat} {l:Array Bool} {a:Act} {w:World} (l':Array Bool) (hi:ops[i]? = some oi) (hN:oi.dst=N) (hc:readyB md ops l l' i=true) (hd:i ∉ ds)
  (h:∀ K:Act→World→Prop,Shut (∀ a' w',S w'→(S w'→wpAnyLast P md ops Q S ds fuel l' a' w')→K a' w')→if Region.wanted oi (yielded ops a.tmps)=true then Oper.wp P oi a w K Q else K (a.put N undef) w) :
  wpAnyLast P md ops Q S ds (fuel+1) l a w:=by
 subst hN
 simp only [readyB,Bool.and_eq_true,beq_iff_eq] at hc
 obtain ⟨h1,h2⟩:=hc
 subst h2
 exact wpAnyLast_ready h1 (by simp) (AllReadyL.cons hi hd (fun K hK=>h K hK) AllReadyL.nil)
theorem last_ {i:Nat} {N:Option Tmp} {oi:Oper} {fuel:Nat} {l:Array Bool} {a:Act} {w:World} (l':Array Bool) (hi:ops[i]? = some oi) (hN:oi.dst=N) (hc:readyB md ops l l' i=true) (hd:i ∈ ds)
  (h:∀ K:Act→World→Prop,Shut (∀ a' w',wpAnyLast P md ops Q S ds fuel l' a' w'→K a' w')→if Region.wanted oi (yielded ops a.tmps)=true then Oper.wp P oi a w K Q else K (a.put N undef) w) :
  wpAnyLast P md ops Q S ds (fuel+1) l a w:=by
 subst hN
 simp only [readyB,Bool.and_eq_true,beq_iff_eq] at hc
 obtain ⟨h1,h2⟩:=hc
 subst h2
 exact wpAnyLast_ready h1 (by simp) (AllReadyL.cons_last hi hd (fun K hK=>h K hK) AllReadyL.nil)
theorem done_ {l:Array Bool} {a:Act} {w:World} {n:Nat} (hr:(Region.ready md ops l == [])=true) (h:Q .normal a w):wpAnyLast P md ops Q S ds n l a w:=wpAnyLast_done (by simpa using hr) h n
def putAll:Act→List (Tmp × Value)→Act
 | a,[]=>a
 | a,(n,v) :: r=>putAll (a.put (some n) v) r
theorem norm_ {fuel:Nat} {l:Array Bool} {a a':Act} {w:World} (ha:a=a') (h:wpAnyLast P md ops Q S ds fuel l a' w):wpAnyLast P md ops Q S ds fuel l a w:=by
 subst ha
 exact h
theorem call_ {oi:Oper} {N:Option Tmp} {a:Act} {w:World} {K:Act→World→Prop} (f:FuncId) (args:Array Value) (hw:Region.wanted oi (yielded ops a.tmps)=true) (hN:oi.dst=N) (hrun:(execOp a.eval oi).run P w=.ok (.enter f args) w)
  (h:Calls P f args w fun e w'=>∃ v,e=.returned v∧K (a.put N v) w'):if Region.wanted oi (yielded ops a.tmps)=true then Oper.wp P oi a w K Q else K (a.put N undef) w:=by
 rw [if_pos hw]
 subst hN
 unfold Oper.wp
 rw [hrun,Oper.upon_enter]
 refine h.mono fun e w'' hh=>?_
 obtain ⟨v,rfl,hk⟩:=hh
 exact hk
theorem enters_ {f : FuncId} {fn : Func} (hf : P.funcs[f]? = some fn) (hname : (fn.name == "runtime.NumGoroutine") = false) (hb : fn.body.isSome = true) (args : Array Value) (w : World) : (callFunc f args).run P w = .ok (.enter f args) w := by
 have h1 : fn.name ≠ "runtime.NumGoroutine" := by simpa using hname
 obtain ⟨c,hc⟩:=Option.isSome_iff_exists.1 hb
 simp [callFunc,hf,h1,hc]
theorem goes_ {oi : Oper} {N : Option Tmp} {a : Act} {w : World} {K : Act → World → Prop} {f : FuncId} {fn : Func} {as1 : Array Operand} {ts : Array TypeId} (hf : P.funcs[f]? = some fn) (hname : (fn.name == "runtime.NumGoroutine") = false) (hb : fn.body.isSome = true) (args : Array Value)
  (hw:Region.wanted oi (yielded ops a.tmps)=true) (hN:oi.dst=N) (hop:oi.op=.call { callee:=.value (.func f),args:=as1,argTypes:=ts }) (hargs:as1.map a.eval=args)
  (h:Calls P f args w fun e w'=>∃ v,e=.returned v∧K (a.put N v) w'):if Region.wanted oi (yielded ops a.tmps)=true then Oper.wp P oi a w K Q else K (a.put N undef) w:=by
 refine call_ f args hw hN ?_ h
 have he:=enters_ hf hname hb args w
 unfold execOp
 simp [hop,resolve,Deferred.ofValue,invoke,Act.eval,hargs,he]
theorem goesL_ {rest : List Oper} {oi : Oper} {a : Act} {w : World} (N : Option Tmp) (hd : oi.dst = N) (hg : oi.guard = none) {f : FuncId} {fn : Func} {as1 : Array Operand} {ts : Array TypeId} (hf : P.funcs[f]? = some fn) (hname : (fn.name == "runtime.NumGoroutine") = false) (hb : fn.body.isSome = true) (args : Array Value)
  (hop:oi.op=.call { callee:=.value (.func f),args:=as1,argTypes:=ts }) (hargs:as1.map a.eval=args)
  (h:Calls P f args w fun e w'=>∃ v,e=.returned v∧wpList P ops Q rest (a.put N v) w'):wpList P ops Q (oi :: rest) a w:=by
 refine wpList_plain hg fun K hK=>?_
 have he:=enters_ hf hname hb args w
 have hrun:(execOp a.eval oi).run P w=.ok (.enter f args) w:=by
  unfold execOp
  simp [hop,resolve,Deferred.ofValue,invoke,Act.eval,hargs,he]
 unfold Oper.wp
 rw [hrun,Oper.upon_enter]
 refine h.mono fun e w'' hh=>?_
 obtain ⟨v,rfl,hk⟩:=hh
 subst hd
 exact hK _ _ hk
theorem value_ {oi:Oper} {N:Option Tmp} {a:Act} {w w1:World} {v:Value} {K:Act→World→Prop} (hw:Region.wanted oi (yielded ops a.tmps)=true) (hN:oi.dst=N) (hrun:(execOp a.eval oi).run P w=.ok (.value v) w1)
  (h:K (a.put N v) w1):if Region.wanted oi (yielded ops a.tmps)=true then Oper.wp P oi a w K Q else K (a.put N undef) w:=by
 rw [if_pos hw]
 subst hN
 unfold Oper.wp
 rw [hrun]
 exact h
theorem skip_ {oi:Oper} {a:Act} {w w1:World} {K:Act→World→Prop} (hw:Region.wanted oi (yielded ops a.tmps)=true) (hN:oi.dst=none) (hrun:(execOp a.eval oi).run P w=.ok .skip w1)
  (h:K a w1):if Region.wanted oi (yielded ops a.tmps)=true then Oper.wp P oi a w K Q else K (a.put none undef) w:=by
 rw [if_pos hw]
 unfold Oper.wp
 rw [hrun]
 show K (a.put oi.dst undef) w1
 rw [hN]
 exact h
theorem i64_w (n:Int):IntKind.i64.wrap n=Go.RowKit.wrap64 n:=by unfold Go.RowKit.wrap64;exact IntKind.wrap_i64 n
theorem i32_w (n:Int):IntKind.i32.wrap n=Go.RowKit.wrap32 n:=by unfold Go.RowKit.wrap32;exact IntKind.wrap_i32 n
end
end Go.Proofs.YtclollnicbcooaaGreatDoorW.PrintLast
end
section
-- PRINTED BY print.sh 35421559b90ae4d0a3588c463048766b98c2df88dd9212a6774a882060cdf62d: not written by this session
/-! ### 50. A region's order in a table, made once a region: each step asks the table (numbers alone), not the operations -/
namespace Go.Proofs.YtclollnicbcooaaGreatDoorW.PrintLast
open Go.Proofs.YtclollnicbcooaaGreatDoorW.PrintWords (Aside0)
def needsOf (md:Region.Mode) (o:Oper):List Nat:=(o.after.toList.filter (fun e=>Region.binds md e)).map (fun e=>e.on)
def clashOf (md:Region.Mode) (ops:Array Oper) (i:Nat) (oi:Oper):List Nat:=(List.range ops.size).filter fun j=>!(j == i) && match ops[j]? with
 | some oj=>!(oj.after.any (fun e=>Region.binds md e && e.on == i) || oi.apart ops oj)
 | none=>false
def rtab (md:Region.Mode) (ops:Array Oper):Bool × List (List Nat × List Nat):=(Region.noSelect ops,(List.range ops.size).map fun i=>match ops[i]? with
 | some o=>(needsOf md o,clashOf md ops i o)
 | none=>([],[]))
def readyAt (T:List (List Nat × List Nat)) (l:List Bool) (i:Nat):Bool:=!l.getD i true && match T[i]? with
 | some r=>r.1.all (fun j=>l.getD j false)
 | none=>false
def readyT (T:List (List Nat × List Nat)) (l:List Bool):List Nat:=(List.range T.length).filter (readyAt T l)
def freeT (T:List (List Nat × List Nat)) (l:List Bool) (i:Nat):Bool:=match T[i]? with
 | some r=>r.2.all (fun j=>l.getD j true)
 | none=>false
def closedT (T:List (List Nat × List Nat)) (l:List Bool):Bool:=(List.range T.length).all fun j=>!l.getD j false || match T[j]? with
 | some r=>r.1.all (fun k=>l.getD k false)
 | none=>true
def reachT (T:List (List Nat × List Nat)) (i:Nat):Nat→Nat→Bool
 | 0,_=>false
 | fuel+1,d=>match T[d]? with
  | some r=>r.1.any fun j=>j == i || reachT T i fuel j
  | none=>false
def lastT (T:List (List Nat × List Nat)) (l:List Bool) (ds:List Nat) (i:Nat):Bool:=ds.all fun d=>l.getD d true || reachT T i T.length d
section
variable {md:Region.Mode} {ops:Array Oper} {T:Bool × List (List Nat × List Nat)} {l l' li lj lk:Array Bool} {ds:List Nat} {i j k:Nat}
theorem gd (l:Array Bool) (j:Nat) (b:Bool):l.getD j b=l.toList.getD j b:=by simp [Array.getD_eq_getD_getElem?,List.getD_eq_getElem?_getD]
theorem needs_all (o:Oper) (p:Nat→Bool):o.after.all (fun e=>!Region.binds md e || p e.on)=(needsOf md o).all p:=by
 unfold needsOf
 rw [← Array.all_toList]
 induction o.after.toList with
 | nil=>rfl
 | cons e r ih =>
  rw [List.all_cons,ih,List.filter_cons]
  cases h:Region.binds md e <;> simp
theorem needs_any (o:Oper) (p:Nat→Bool):o.after.any (fun e=>Region.binds md e && p e.on)=(needsOf md o).any p:=by
 unfold needsOf
 rw [← Array.any_toList]
 induction o.after.toList with
 | nil=>rfl
 | cons e r ih =>
  rw [List.any_cons,ih,List.filter_cons]
  cases h:Region.binds md e <;> simp
theorem rtab_length:(rtab md ops).2.length=ops.size:=by simp [rtab]
theorem rtab_some {o:Oper} (h:ops[i]? = some o):(rtab md ops).2[i]? = some (needsOf md o,clashOf md ops i o):=by
 have hi:=(Array.getElem?_eq_some_iff.1 h).1
 unfold rtab
 rw [List.getElem?_map,List.getElem?_range hi,Option.map_some,h]
theorem rtab_none (h:ops[i]? = none):(rtab md ops).2[i]? = none:=by
 have hi:ops.size≤i:=Array.getElem?_eq_none_iff.1 h
 exact List.getElem?_eq_none (by rw [rtab_length];exact hi)
theorem readyAt_eq:readyAt (rtab md ops).2 l.toList i=(!l.getD i true && ((ops[i]?).map (·.after.all fun e=>!Region.binds md e || l.getD e.on false)).getD false):=by
 unfold readyAt
 rw [gd]
 cases h:ops[i]? with
 | none=>rw [rtab_none h];rfl
 | some o =>
  rw [rtab_some h]
  simp only [Option.map_some,Option.getD_some]
  rw [← needs_all]
  simp only [gd]
theorem ready_eq:Region.ready md ops l=readyT (rtab md ops).2 l.toList:=by
 unfold Region.ready readyT
 rw [rtab_length]
 refine List.filter_congr (fun i _=>?_)
 rw [readyAt_eq]
theorem free_eq:Region.free md ops l i=freeT (rtab md ops).2 l.toList i:=by
 unfold Region.free freeT
 cases h:ops[i]? with
 | none=>rw [rtab_none h]
 | some oi =>
  rw [rtab_some h]
  simp only [clashOf]
  rw [List.all_filter]
  congr 1
  funext j
  rw [gd]
  cases hj:ops[j]? with
  | none=>cases (j == i) <;> cases (l.toList.getD j true) <;> simp
  | some oj =>
   cases (j == i) <;> cases (l.toList.getD j true) <;> cases (oj.after.any (fun e=>Region.binds md e && e.on == i) || oi.apart ops oj) <;> simp_all
theorem closed_eq:Region.closedB md ops l=closedT (rtab md ops).2 l.toList:=by
 unfold Region.closedB closedT
 rw [rtab_length]
 congr 1
 funext j
 rw [gd]
 cases h:ops[j]? with
 | none=>rw [rtab_none h]
 | some o =>
  rw [rtab_some h]
  simp only
  rw [← needs_all]
  simp only [gd]
theorem reach_eq:∀ (fuel d:Nat),Region.reachB md ops i fuel d=reachT (rtab md ops).2 i fuel d
 | 0,_=>rfl
 | fuel+1,d=>by
  unfold Region.reachB reachT
  cases h:ops[d]? with
  | none=>rw [rtab_none h]
  | some o =>
   rw [rtab_some h]
   simp only
   rw [← needs_any]
   congr 1
   funext e
   rw [reach_eq fuel]
theorem last_eq:Region.lastB md ops l ds i=lastT (rtab md ops).2 l.toList ds i:=by
 unfold Region.lastB lastT
 rw [rtab_length]
 congr 1
 funext d
 rw [gd,reach_eq]
theorem readyAt_mem (h:readyAt T.2 l.toList i=true) (hT:rtab md ops=T):(Region.ready md ops l).contains i=true:=by
 subst hT
 rw [ready_eq]
 unfold readyT
 rw [List.contains_iff_mem,List.mem_filter,List.mem_range]
 refine ⟨?_,h⟩
 unfold readyAt at h
 rw [Bool.and_eq_true] at h
 cases hq:(rtab md ops).2[i]? with
 | none=>rw [hq] at h;simp at h
 | some r=>exact (List.getElem?_eq_some_iff.1 hq).1
theorem set_of (h:(l.toList.set i true == l'.toList)=true):(l.setIfInBounds i true == l')=true:=by
 rw [beq_iff_eq] at h ⊢
 apply Array.ext'
 rw [Array.toList_setIfInBounds]
 exact h
def anyT (T:Bool × List (List Nat × List Nat)) (l l':List Bool) (i:Nat):Bool:=T.1 && freeT T.2 l i && readyAt T.2 l i && (l.set i true == l')
theorem any_of (hT:rtab md ops=T) (h:anyT T l.toList l'.toList i=true):anyB md ops l l' i=true:=by
 simp only [anyT,Bool.and_eq_true] at h
 obtain ⟨⟨⟨h1,h2⟩,h3⟩,h4⟩:=h
 have h5:=readyAt_mem h3 hT
 have h6:=set_of h4
 subst hT
 simp only [anyB,Bool.and_eq_true]
 exact ⟨⟨⟨h1,by rw [free_eq];exact h2⟩,h5⟩,h6⟩
def takeT (T:Bool × List (List Nat × List Nat)) (ds:List Nat) (l l':List Bool) (i:Nat):Bool:=T.1 && freeT T.2 l i && readyAt T.2 l i && closedT T.2 l && lastT T.2 l ds i && (l.set i true == l')
theorem take_of (hT:rtab md ops=T) (h:takeT T ds l.toList l'.toList i=true):takeB md ops ds l l' i=true:=by
 simp only [takeT,Bool.and_eq_true] at h
 obtain ⟨⟨⟨⟨⟨h1,h2⟩,h3⟩,h4⟩,h5⟩,h6⟩:=h
 have h7:=readyAt_mem h3 hT
 have h8:=set_of h6
 subst hT
 simp only [takeB,Bool.and_eq_true]
 exact ⟨⟨⟨⟨⟨h1,by rw [free_eq];exact h2⟩,h7⟩,by rw [closed_eq];exact h4⟩,by rw [last_eq];exact h5⟩,h8⟩
theorem one_of (hT:rtab md ops=T) (h:(readyT T.2 l.toList == [i] && l.toList.set i true == l'.toList)=true):readyB md ops l l' i=true:=by
 simp only [Bool.and_eq_true] at h
 obtain ⟨h1,h2⟩:=h
 subst hT
 simp only [readyB,Bool.and_eq_true]
 exact ⟨by rw [ready_eq];exact h1,set_of h2⟩
theorem done_of (hT:rtab md ops=T) (h:(readyT T.2 l.toList == [])=true):(Region.ready md ops l == [])=true:=by
 subst hT
 rw [ready_eq]
 exact h
def upM (B:List Nat) (d:Nat):List Nat→Nat
 | []=>0
 | n :: r=>(2 ^ n ||| (if n < d then B.getD n 0 else 0)) ||| upM B d r
def waitsOk (T:List (List Nat × List Nat)) (B:List Nat):Bool:=(List.range T.length).all fun d=>match T[d]? with
 | some r=>(B.getD d 0 ||| upM B d r.1) == upM B d r.1
 | none=>false
theorem upM_bit {B:List Nat} {d i:Nat}:∀ {ns:List Nat},(upM B d ns).testBit i=true→∃ n ∈ ns,n=i ∨ (n < d∧(B.getD n 0).testBit i=true)
 | [],h=>by simp [upM] at h
 | n :: r,h=>by
  unfold upM at h
  rw [Nat.testBit_or,Nat.testBit_or,Bool.or_eq_true,Bool.or_eq_true] at h
  rcases h with (h | h) | h
  ·rw [Nat.testBit_two_pow] at h
   exact ⟨n,List.mem_cons_self,.inl (by simpa using h)⟩
  ·by_cases hn:n < d
   ·rw [if_pos hn] at h
    exact ⟨n,List.mem_cons_self,.inr ⟨hn,h⟩⟩
   ·rw [if_neg hn] at h
    simp at h
  ·obtain ⟨m,hm,h2⟩:=upM_bit h
   exact ⟨m,List.mem_cons_of_mem _ hm,h2⟩
theorem reach_bit {T:List (List Nat × List Nat)} {B:List Nat} (hB:waitsOk T B=true):∀ (fuel d:Nat),d < fuel→d < T.length→(B.getD d 0).testBit i=true→reachT T i fuel d=true
 | 0,d,h,_,_=>by omega
 | fuel+1,d,h,hd,hb=>by
  have h1:=List.all_eq_true.1 hB d (List.mem_range.2 hd)
  cases hr:T[d]? with
  | none=>rw [hr] at h1;simp at h1
  | some r =>
   rw [hr] at h1
   simp only [beq_iff_eq] at h1
   have h2:(upM B d r.1).testBit i=true:=by rw [← h1,Nat.testBit_or,hb,Bool.true_or]
   obtain ⟨n,hn,h3⟩:=upM_bit h2
   unfold reachT
   rw [hr]
   simp only
   rw [List.any_eq_true]
   refine ⟨n,hn, ?_⟩
   rcases h3 with rfl | ⟨h4,h5⟩
   ·simp
   ·rw [reach_bit hB fuel n (by omega) (by omega) h5,Bool.or_true]
def lastW (T:List (List Nat × List Nat)) (B:List Nat) (l:List Bool) (ds:List Nat) (i:Nat):Bool:=ds.all fun d=>l.getD d true || (decide (d < T.length) && (B.getD d 0).testBit i)
def takeW (T:Bool × List (List Nat × List Nat)) (B:List Nat) (ds:List Nat) (l l':List Bool) (i:Nat):Bool:=T.1 && freeT T.2 l i && readyAt T.2 l i && closedT T.2 l && lastW T.2 B l ds i && (l.set i true == l')
theorem take_ofW {B:List Nat} (hT:rtab md ops=T) (hB:waitsOk T.2 B=true) (h:takeW T B ds l.toList l'.toList i=true):takeB md ops ds l l' i=true:=by
 refine take_of hT ?_
 simp only [takeW,takeT,Bool.and_eq_true] at h ⊢
 obtain ⟨⟨⟨⟨⟨h1,h2⟩,h3⟩,h4⟩,h5⟩,h6⟩:=h
 refine ⟨⟨⟨⟨⟨h1,h2⟩,h3⟩,h4⟩, ?_⟩,h6⟩
 unfold lastW at h5
 unfold lastT
 rw [List.all_eq_true] at h5 ⊢
 intro d hd
 have h7:=h5 d hd
 rw [Bool.or_eq_true,Bool.and_eq_true,decide_eq_true_eq] at h7
 rcases h7 with h7 | ⟨h8,h9⟩
 ·rw [h7,Bool.true_or]
 ·rw [reach_bit hB _ d h8 h8 h9,Bool.or_true]
theorem with_tabW {P:Program} {Q:Exit→Act→World→Prop} {S:World→Prop} {n:Nat} {a:Act} {w:World} {B:List Nat} (hT:rtab md ops=T) (hB:waitsOk T.2 B=true) (h:Aside0 (rtab md ops=T)→Aside0 (waitsOk T.2 B=true)→wpAnyLast P md ops Q S ds n l a w):wpAnyLast P md ops Q S ds n l a w:=h ⟨hT⟩ ⟨hB⟩
end
def opsIn:Code→Nat→Option (Array Oper)
 | .region id ops _,k=>if id == k then some ops else none
 | .seq a b,k=>match opsIn a k with
  | some o=>some o
  | none=>opsIn b k
 | .cond _ a b,k=>match opsIn a k with
  | some o=>some o
  | none=>opsIn b k
 | .block _ c,k=>opsIn c k
 | .loop c,k=>opsIn c k
 | .scope c,k=>opsIn c k
 | .rangeFunc _ _ a b,k=>match opsIn a k with
  | some o=>some o
  | none=>opsIn b k
 | _,_=>none
def opsOf (f:Func) (k:Nat):Array Oper:=((f.body.bind fun c=>opsIn c k)).getD #[]
end Go.Proofs.YtclollnicbcooaaGreatDoorW.PrintLast
end
section
-- PRINTED BY print.sh 35421559b90ae4d0a3588c463048766b98c2df88dd9212a6774a882060cdf62d: not written by this session
/-! ### 56. Four, five, six operations that may come up next, in any order -/
namespace Go.Proofs.YtclollnicbcooaaGreatDoorW.PrintLast
section
variable {P:Program} {ops:Array Oper} {Q:Exit→Act→World→Prop} {md:Region.Mode} {S:World→Prop} {ds:List Nat} {T:Bool × List (List Nat × List Nat)}
end
end Go.Proofs.YtclollnicbcooaaGreatDoorW.PrintLast
end
section
-- PRINTED BY print.sh 35421559b90ae4d0a3588c463048766b98c2df88dd9212a6774a882060cdf62d: not written by this session
/-! ### 39. Stores into a row that may begin inside its block (Q): Q_form, Q_elem, Q_seg; scalars: Q_cell, Q_putg -/
namespace Go.Proofs.YtclollnicbcooaaGreatDoorW.PrintWords
open Go.RowKit
namespace Kd
section
variable {α:Type} {d:Kd α} {e base g o n cap:Nat} {ok okp:Nat→Prop} {w W:World} {v:Value} {xs:List α}
end
section
variable {α:Type} {enc:α→Value} {h1:∀ x,(enc x).oneCell'=true} {e base g o n cap:Nat} {ok:Nat→Prop} {W:World} {xs:List α}
end
end Kd
end Go.Proofs.YtclollnicbcooaaGreatDoorW.PrintWords
end
section
-- PRINTED BY print.sh 35421559b90ae4d0a3588c463048766b98c2df88dd9212a6774a882060cdf62d: not written by this session
/-! ### 40. Elements whose inner rows lie apart: what is stored into one says nothing of the others.
   S: as1 R,with an owner function f (block to element's index). H: as1 S with a hole: of element i its cells alone are told,its blocks are oki. -/
namespace Go.Proofs.YtclollnicbcooaaGreatDoorW.PrintWords
open Go.RowKit
namespace Kd
def tag {α:Type} (f:Nat→Nat) (d:Kd α):Kd (α × Nat) where
  sz:=d.sz
  E:=d.E
  K:=fun w x cs=>d.K w x.1 cs
  M:=fun w base ok x cs=>d.M w base (fun k=>ok k∧f k=x.2) x.1 cs
  K_len:=fun h=>d.K_len h
  K_one:=fun h=>d.K_one h
  K_below:=fun hb h=>d.K_below hb h
  K_of_M:=fun h=>d.K_of_M h
  M_mono:=fun hok h=>d.M_mono (fun k hk=>⟨hok k hk.1,hk.2⟩) h
  M_bound:=fun h=>d.M_mono (fun _ hk=>⟨⟨hk.1.1,hk.2⟩,hk.1.2⟩) (d.M_bound h)
  M_move:=fun hm h=>d.M_move (fun k hk=>hm k hk.1) h
  M_lower:=fun hb h=>d.M_lower hb h
def bare {α:Type} (d:Kd α):Kd α where
  sz:=d.sz
  E:=d.E
  K:=d.K
  M:=fun w base _ x cs=>d.M w base (fun _=>False) x cs
  K_len:=fun h=>d.K_len h
  K_one:=fun h=>d.K_one h
  K_below:=fun hb h=>d.K_below hb h
  K_of_M:=fun h=>d.K_of_M h
  M_mono:=fun _ h=>h
  M_bound:=fun h=>h
  M_move:=fun _ h=>d.M_move (fun _ hk=>hk.elim) h
  M_lower:=fun hb h=>d.M_lower hb h
def raw (sz:Nat):Kd (List Value) where
  sz:=sz
  E:=[]
  K:=fun _ x cs=>cs=x∧cs.length=sz∧∀ u ∈ cs,u.oneCell'=true
  M:=fun _ _ _ x cs=>cs=x∧cs.length=sz∧∀ u ∈ cs,u.oneCell'=true
  K_len:=fun h=>h.2.1
  K_one:=fun h=>h.2.2
  K_below:=fun _ h=>h
  K_of_M:=fun h=>h
  M_mono:=fun _ h=>h
  M_bound:=fun h=>h
  M_move:=fun _ h=>h
  M_lower:=fun _ h=>h
def S {α:Type} (d:Kd α) (e:Nat) (w:World) (base:Nat) (ok:Nat→Prop) (v:Value) (xs:List α):Prop:=∃ f,(tag f d).R e w base ok v xs.zipIdx
section
variable {α β:Type} {d:Kd α} {d':Kd β} {e e':Nat} {w w1 W:World} {base b:Nat} {ok ok' okv oku:Nat→Prop} {u v:Value} {xs:List α} {ys:List β}
theorem zip_at {xs:List α} {j:Nat} {p:α} (h:xs[j]? = some p):xs.zipIdx[j]? = some (p,j):=by rw [List.getElem?_zipIdx,h,Nat.zero_add];rfl
theorem S_R (h:S d e w base ok v xs):d.R e w base ok v xs:=by
  obtain ⟨f,h0,inner,ho,hr⟩:=h
  rw [List.length_zipIdx] at ho
  exact ⟨h0,inner,ho,by have:=hr.1;rw [List.length_zipIdx] at this;exact this,fun j p hj=>d.M_mono (fun _ hk=>hk.1) (hr.2 j (p,j) (zip_at hj))⟩
theorem R_head {ad:Addr} {n cap:Nat} (h:d.R e w base ok (.slice (some ad) n cap) xs):∃ g,ad=⟨g,0,none⟩:=by
  obtain ⟨_,inner,ho,hr⟩:=h
  rcases ho.2 with ⟨hv,_⟩ | ⟨g,cap',cur,hv,_⟩
  · cases hv
  · injection hv with ha _ _
    injection ha with ha
    exact ⟨g,ha⟩
theorem R_tight (hE:d.E=[]) (h:d.R e w base ok v xs):d.R e w base (fun k=>some k=v.ownBlock) v xs:=by
  obtain ⟨h0,inner,ho,hr⟩:=h
  refine ⟨fun k hk=>hk.symm,inner,ho,hr.imp_ (fun p c hp=>d.M_mono (fun k hk=>?_) (d.M_bound hp))⟩
  obtain ⟨_,_,_,q,hq,_⟩:=hk
  rw [hE] at hq
  cases hq
theorem S_nil (d:Kd α) (e:Nat) (w:World) (base:Nat) (ok:Nat→Prop):S d e w base ok (.slice none 0 0) []:=⟨fun _=>0,R_nil _ _ _ _ _⟩
theorem S_mono (h:S d e w base ok v xs) (hok:∀ k,ok k→ok' k):S d e w base ok' v xs:=by
  obtain ⟨f,h⟩:=h
  exact ⟨f,R_mono h hok⟩
theorem S_bound (h:S d e w base ok v xs):S d e w base (fun k=>ok k∧base≤k∧k < w.heap.size∧∃ q,q ∈ e :: d.E∧∃ cells,w.heap[k]? = some (.cells cells q (0,0))) v xs:=by
  obtain ⟨f,h⟩:=h
  exact ⟨f,R_bound h⟩
theorem S_move (h:S d e w base ok v xs) (hm:∀ k,ok k→w1.heap[k]? = w.heap[k]?):S d e w1 base ok v xs:=by
  obtain ⟨f,h⟩:=h
  exact ⟨f,R_move h hm⟩
theorem S_lower {base':Nat} (h:S d e w base ok v xs) (hb:base'≤base):S d e w base' ok v xs:=by
  obtain ⟨f,h⟩:=h
  exact ⟨f,R_lower h hb⟩
theorem S_step (h:S d e w base ok v xs) (hm:∀ k,ok k→k < w.heap.size→w1.heap[k]? = w.heap[k]?):S d e w1 base ok v xs :=
  S_mono (S_move (S_bound h) (fun k hk=>hm k hk.1 hk.2.2.1)) (fun _ hk=>hk.1)
theorem S_below (h:S d e w base ok v xs) (hb:Below w.heap.size w w1):S d e w1 base ok v xs:=S_step h (fun k _ hk=>hb.block k hk)
theorem S_grown (h:S d e w base ok v xs) {row:Option Nat} (hg:w.grownBy w1 row) (hok:∀ k,ok k→some k≠row):S d e w1 base ok v xs:=S_step h (fun k ho hk=>hg.block k hk (hok k ho))
theorem S_far (h:S d e w base ok v xs) {p:Addr} (hok:∀ k,ok k→k≠p.block) (u:Value):S d e (w.setCell p u) base ok v xs:=S_step h (fun k ho _=>Below.heap_setCell w p u k (hok k ho))
theorem S_types (h:S d e w base ok v xs) {g t:Nat} {cells:Array Value} (hb:w.heap[g]? = some (.cells cells t (0,0))) (ht:∀ q,q ∈ e :: d.E→q≠t):S d e w base (fun k=>ok k∧k≠g) v xs:=by
  obtain ⟨f,h⟩:=h
  exact ⟨f,R_types h hb ht⟩
theorem S_typed (h:S d e w base ok v xs):∀ k,v.ownBlock=some k→∃ cells,w.heap[k]? = some (.cells cells e (0,0)):=R_typed (S_R h)
theorem S_base (h:S d e w base ok v xs):∀ k,v.ownBlock=some k→base≤k:=R_base (S_R h)
theorem S_over' (h:S d e W base ok u xs) (hty:∀ k,v.ownBlock=some k→∃ cells,W.heap[k]? = some (.cells cells e' (0,0))) (ht:∀ q,q ∈ e :: d.E→q≠e') (hg:W.grownBy w1 v.ownBlock):S d e w1 base ok u xs:=by
  obtain ⟨f,h⟩:=h
  exact ⟨f,R_over' h hty ht hg⟩
theorem S_apart' (h:S d e W base ok u xs) (hty:∀ k,v.ownBlock=some k→∃ cells,W.heap[k]? = some (.cells cells e' (0,0))) (ht:∀ q,q ∈ e :: d.E→q≠e'):S d e W base (fun k=>ok k∧some k≠v.ownBlock) u xs:=by
  obtain ⟨f,h⟩:=h
  exact ⟨f,R_apart' h hty ht⟩
theorem S_elder' (h:S d e W base ok u xs) (hbase:∀ k,v.ownBlock=some k→W.heap.size≤k) (hb:Below W.heap.size W w1):S d e w1 base (fun k=>ok k∧some k≠v.ownBlock) u xs:=by
  obtain ⟨f,h⟩:=h
  exact ⟨f,R_elder' h hbase hb⟩
theorem S_old (h:S d e W base ok u xs) (hb:Below W.heap.size W w1):S d e w1 base (fun k=>ok k∧k < W.heap.size) u xs :=
  S_mono (S_below (S_bound h) hb) (fun _ hk=>⟨hk.1,hk.2.2.1⟩)
theorem R_tag {f f':Nat→Nat} {zs:List (α × Nat)} (h:(tag f d).R e w base ok v zs) (hf:∀ k,ok k→k < w.heap.size→f' k=f k):(tag f' d).R e w base ok v zs:=by
  obtain ⟨h0,inner,ho,hr⟩:=R_bound h
  exact ⟨fun k hk=>(h0 k hk).1,inner,ho,hr.1,fun j p hj=>d.M_mono (fun k hk=>⟨⟨hk.1.1.1,hk.1.2⟩,(hf k hk.1.1.1 hk.1.1.2.2.1).trans hk.2⟩) (hr.2 j p hj)⟩
end
section
variable {α β:Type} {d:Kd α} {d':Kd β} {e e' g:Nat} {w w1 W:World} {base b:Nat} {ok ok' okv oku:Nat→Prop} {u v:Value} {xs:List α} {ys:List β}
theorem S_ne (h:S d e w base ok v xs) {t:Nat} {cells:Array Value} (hb:w.heap[g]? = some (.cells cells t (0,0))) (ht:e≠t):some g≠v.ownBlock:=R_ne (S_R h) hb ht
theorem S_slice (h:S d e w base ok v xs):∃ A c,v=.slice A xs.length c:=R_slice (S_R h)
theorem S_reads (h:S d e w base ok v xs):∃ A c,v=.slice A xs.length c∧xs.length≤c∧d.C w A xs.length xs:=R_reads (S_R h)
theorem S_reads' {A:Option Addr} {n c:Nat} (h:S d e w base ok (.slice A n c) xs):n=xs.length∧n≤c∧d.C w A xs.length xs:=R_reads' (S_R h)
theorem zip_snoc (xs:List α) (p:α):(xs ++ [p]).zipIdx=xs.zipIdx ++ [(p,xs.length)]:=by rw [List.zipIdx_append];simp
end
/-! #### append, make, literals: the new element's blocks are none of the elder ones' -/
section
open Classical in
theorem S_tag {α:Type} {d:Kd α} {e base:Nat} {okv:Nat→Prop} {w:World} {v:Value} {xs:List α} (h:S d e w base okv v xs) (m:Nat) (okp:Nat→Prop) (hap:∀ k,okp k→¬ okv k):∃ f,(∀ k,okp k→f k=m)∧(tag f d).R e w base okv v xs.zipIdx:=by
  obtain ⟨f,h⟩:=h
  exact ⟨fun k=>if okp k then m else f k,fun k hk=>if_pos hk,R_tag h (fun k hk _=>if_neg (fun h2=>hap k h2 hk))⟩
variable {P:Program} {ops:Array Oper} {rest:List Oper} {o:Oper} {a:Act} {Q:Exit→Act→World→Prop} {Kc:Act→World→Prop} {α:Type}
theorem S_append (d:Kd α) {w0 W:World} (base:Nat) (hgd:o.guard=none) (s x:Operand) (t e:TypeId) (z:Value) (bytes:Nat)
    (ho:o.op=.call { callee:=.builtin .append,args:=#[s,x],argTypes:=#[t,t] })
    (ht:P.underlying t=some (.slice e)) (hinfo:(P.info? e).map (fun i=>(i.zero,i.size,i.bytes))=some (some z,d.sz,bytes)) (hz:z.cells.size=d.sz) (hs0:0 < d.sz) (hb0:0 < bytes)
    (v:Value) (xs:List α) (p:α) (cs:List Value) (ok okp:Nat→Prop) (hs:a.eval s=v) (hx:a.eval x=.slice (some ⟨W.heap.size,0,none⟩) 1 1) (hp:d.M W base okp p cs) (hokp:∀ k,okp k→ok k∧some k≠v.ownBlock) (hfresh:∀ k,W.heap.size≤k→ok k)
    (HO:S d e W base (fun k=>ok k∧¬ okp k) v xs) (HB:Below base w0 W) (hbase:base≤W.heap.size) (hl:(xs.length+1) * bytes≤140737488355328)
    (h:∀ v1 w1,S d e w1 base ok v1 (xs ++ [p])→Below base w0 w1→W.grownBy w1 v.ownBlock→(v1.ownBlock=v.ownBlock ∨ ∃ b,v1.ownBlock=some b∧W.heap.size≤b)→wpList P ops Q rest (a.put o.dst v1) w1) :
    wpList P ops Q (o :: rest) a (W.alloc (.cells cs.toArray e)):=by
  obtain ⟨f,hf,hR⟩:=S_tag HO xs.length okp (fun _ hk h2=>h2.2 hk)
  refine R_append (tag f d) base hgd s x t e z bytes ho ht hinfo hz hs0 hb0 v xs.zipIdx (p,xs.length) cs ok okp hs hx (d.M_mono (fun k hk=>⟨hk,hf k hk⟩) hp) hokp hfresh (R_mono hR (fun _ hk=>hk.1)) HB hbase (by rw [List.length_zipIdx];exact hl) ?_
  intro v1 w1 hr
  rw [← zip_snoc] at hr
  exact h v1 w1 ⟨f,hr⟩
end
/-! #### a row with a hole: element i is lent, its blocks are oki; of it the row says its cells alone -/
def gap {α:Type} (f:Nat→Nat) (d:Kd α) (i:Nat) (c:List Value):Kd (α × Nat) where
  sz:=d.sz
  E:=d.E
  K:=fun w x cs=>(x.2=i→cs=c∧cs.length=d.sz∧∀ u ∈ cs,u.oneCell'=true)∧(x.2≠i→d.K w x.1 cs)
  M:=fun w base ok x cs=>(x.2=i→cs=c∧cs.length=d.sz∧∀ u ∈ cs,u.oneCell'=true)∧(x.2≠i→d.M w base (fun k=>ok k∧f k=x.2) x.1 cs)
  K_len:=fun {w x cs} h=>by
    by_cases hx:x.2=i
    · exact (h.1 hx).2.1
    · exact d.K_len (h.2 hx)
  K_one:=fun {w x cs} h=>by
    by_cases hx:x.2=i
    · exact (h.1 hx).2.2
    · exact d.K_one (h.2 hx)
  K_below:=fun hb h=>⟨h.1,fun hx=>d.K_below hb (h.2 hx)⟩
  K_of_M:=fun h=>⟨h.1,fun hx=>d.K_of_M (h.2 hx)⟩
  M_mono:=fun hok h=>⟨h.1,fun hx=>d.M_mono (fun k hk=>⟨hok k hk.1,hk.2⟩) (h.2 hx)⟩
  M_bound:=fun h=>⟨h.1,fun hx=>d.M_mono (fun _ hk=>⟨⟨hk.1.1,hk.2⟩,hk.1.2⟩) (d.M_bound (h.2 hx))⟩
  M_move:=fun hm h=>⟨h.1,fun hx=>d.M_move (fun k hk=>hm k hk.1) (h.2 hx)⟩
  M_lower:=fun hb h=>⟨h.1,fun hx=>d.M_lower hb (h.2 hx)⟩
def H {α:Type} (d:Kd α) (e:Nat) (w:World) (base:Nat) (ok:Nat→Prop) (v:Value) (xs:List α) (i:Int) (oki:Nat→Prop) (c:List Value):Prop :=
  (∀ k,oki k→ok k)∧∃ f,(gap f d i.toNat c).R e w base (fun k=>ok k∧¬ oki k) v xs.zipIdx
section
variable {α β:Type} {d:Kd α} {e e' g n cap:Nat} {w w1 W:World} {base:Nat} {ok ok' oki okp:Nat→Prop} {u v:Value} {xs:List α} {i:Int} {c:List Value}
open Classical in
end
section
variable {P:Program} {ops:Array Oper} {rest:List Oper} {o:Oper} {a:Act} {Q:Exit→Act→World→Prop} {α:Type}
end
end Kd
end Go.Proofs.YtclollnicbcooaaGreatDoorW.PrintWords
end
section
-- PRINTED BY print.sh 35421559b90ae4d0a3588c463048766b98c2df88dd9212a6774a882060cdf62d: not written by this session
/-! ### 41. Arrays '[n]T' as_ values: a kind (a field, an element of a row), an element read, an element set -/
namespace Go.Proofs.YtclollnicbcooaaGreatDoorW.PrintWords
open Go.RowKit
namespace Kd
theorem reps_one {α:Type} {R:α→List Value→Prop} {size:Nat} {ps:List α} {cs:List Value} (h:Reps R size ps cs) (hs0:0 < size) (hR:∀ p c,R p c→∀ u ∈ c,u.oneCell'=true):∀ u ∈ cs,u.oneCell'=true:=by
 intro u hu
 obtain ⟨q,hq,rfl⟩:=List.mem_iff_getElem.1 hu
 have hql:q / size < ps.length:=by
  rw [Nat.div_lt_iff_lt_mul hs0,← h.1]
  exact hq
 refine hR _ _ (h.2 (q / size) _ (List.getElem?_eq_getElem hql)) _ ?_
 rw [List.mem_iff_getElem?]
 refine ⟨q % size, ?_⟩
 rw [List.getElem?_take,if_pos (Nat.mod_lt _ hs0),List.getElem?_drop,Nat.mul_comm,Nat.div_add_mod,List.getElem?_eq_getElem hq]
def arr {α:Type} (n:Nat) (d:Kd α) (hs:0 < d.sz):Kd (List α) where
 sz:=n * d.sz
 E:=d.E
 K:=fun w xs cs=>xs.length=n∧Reps (d.K w) d.sz xs cs
 M:=fun w base ok xs cs=>xs.length=n∧Reps (d.M w base ok) d.sz xs cs
 K_len:=fun h=>by rw [← h.1];exact h.2.1
 K_one:=fun h=>reps_one h.2 hs (fun _ _ hk=>d.K_one hk)
 K_below:=fun hb h=>⟨h.1,h.2.imp_ (fun _ _ hk=>d.K_below hb hk)⟩
 K_of_M:=fun h=>⟨h.1,h.2.imp_ (fun _ _ hk=>d.K_of_M hk)⟩
 M_mono:=fun hok h=>⟨h.1,h.2.imp_ (fun _ _ hk=>d.M_mono hok hk)⟩
 M_bound:=fun h=>⟨h.1,h.2.imp_ (fun _ _ hk=>d.M_bound hk)⟩
 M_move:=fun hm h=>⟨h.1,h.2.imp_ (fun _ _ hk=>d.M_move hm hk)⟩
 M_lower:=fun hb h=>⟨h.1,h.2.imp_ (fun _ _ hk=>d.M_lower hb hk)⟩
section
variable {α:Type} {n:Nat} {d:Kd α} {hs:0 < d.sz} {w:World} {base:Nat} {ok:Nat→Prop} {xs:List α} {cs:List Value}
end
section
variable {α:Type} {n:Nat} {enc:α→Value} {h1:∀ x,(enc x).oneCell'=true} {hs:0 < (scalar enc h1).sz} {w:World} {base:Nat} {ok:Nat→Prop} {xs:List α} {cs:List Value}
end
end Kd
end Go.Proofs.YtclollnicbcooaaGreatDoorW.PrintWords
end
section
-- PRINTED BY print.sh 35421559b90ae4d0a3588c463048766b98c2df88dd9212a6774a882060cdf62d: not written by this session
/-! ### 42. append(v, make([]T, n)...): the operation comes as_ append with the number in the second place -/
namespace Go.Proofs.YtclollnicbcooaaGreatDoorW.PrintWords
open Go.RowKit
section
variable {P:Program}
end
namespace Kd
section
variable {P:Program} {ops:Array Oper} {rest:List Oper} {o:Oper} {a:Act} {Q:Exit→Act→World→Prop} {Kc:Act→World→Prop} {α:Type}
end
/-! #### the same for rows whose elements lie apart -/
def tagO {α:Type} (f:Nat→Nat) (d:Kd α):Kd (α × Option Nat) where
 sz:=d.sz
 E:=d.E
 K:=fun w x cs=>d.K w x.1 cs
 M:=fun w base ok x cs=>d.M w base (fun k=>ok k∧some (f k)=x.2) x.1 cs
 K_len:=fun h=>d.K_len h
 K_one:=fun h=>d.K_one h
 K_below:=fun hb h=>d.K_below hb h
 K_of_M:=fun h=>d.K_of_M h
 M_mono:=fun hok h=>d.M_mono (fun k hk=>⟨hok k hk.1,hk.2⟩) h
 M_bound:=fun h=>d.M_mono (fun _ hk=>⟨⟨hk.1.1,hk.2⟩,hk.1.2⟩) (d.M_bound h)
 M_move:=fun hm h=>d.M_move (fun k hk=>hm k hk.1) h
 M_lower:=fun hb h=>d.M_lower hb h
section
variable {α:Type} {d:Kd α} {e:Nat} {w:World} {base:Nat} {ok:Nat→Prop} {v:Value} {xs:List α}
def zipO (xs:List α) (z:α) (m:Nat):List (α × Option Nat):=xs.zipIdx.map (fun p=>(p.1,some p.2)) ++ List.replicate m (z,none)
end
section
variable {P:Program} {ops:Array Oper} {rest:List Oper} {o:Oper} {a:Act} {Q:Exit→Act→World→Prop} {Kc:Act→World→Prop} {α:Type}
end
end Kd
end Go.Proofs.YtclollnicbcooaaGreatDoorW.PrintWords
end
section
-- PRINTED BY print.sh 35421559b90ae4d0a3588c463048766b98c2df88dd9212a6774a882060cdf62d: not written by this session
/-! ### 43. What is read beside a state: it stays read whatever the state's calls turn ('∀ W', KeepBut w W' g none → d.C W' A n xs') -/
namespace Go.Proofs.YtclollnicbcooaaGreatDoorW.PrintWords
open Go.RowKit
namespace Kd
structure Heap {α:Type} (d:Kd α):Prop where
 K:∀ {w w1:World} {x:α} {cs:List Value},(∀ k,k < w.heap.size→w1.heap[k]? = w.heap[k]?)→d.K w x cs→d.K w1 x cs
theorem cell_heap {w w1:World} (hb:∀ k,k < w.heap.size→w1.heap[k]? = w.heap[k]?) {a:Addr} {v:Value} (h:w.cell? a=some v):w1.cell? a=some v:=by
 have:=hb a.block (World.block_lt_of_cell? w a h)
 simpa [World.cell?,this] using h
theorem Heap.C {α:Type} {d:Kd α} (hd:Heap d) {w w1:World} {A:Option Addr} {n:Nat} {xs:List α} (hb:∀ k,k < w.heap.size→w1.heap[k]? = w.heap[k]?) (h:d.C w A n xs):d.C w1 A n xs :=
 ⟨h.1,h.2.1,fun hn=>by
  obtain ⟨ad,e,hc⟩:=h.2.2 hn
  refine ⟨ad,e,fun j p hj=>?_⟩
  obtain ⟨c,hs,hr,hcell⟩:=hc j p hj
  exact ⟨c,hs,hd.K hb hr,fun i u hu=>cell_heap hb (hcell i u hu)⟩⟩
theorem heap_int (k:IntKind):Heap (Kd.int k):=⟨fun _ h=>h⟩
theorem heap_string:Heap Kd.string:=⟨fun _ h=>h⟩
theorem heap_slice {α:Type} {d:Kd α} (e:Nat) (hd:Heap d):Heap (slice e d):=⟨by
 rintro w w1 x cs hb ⟨A,c,rfl,hl,hr⟩
 exact ⟨A,c,rfl,hl,hd.C hb hr⟩⟩
theorem heap_pair {α β:Type} {a:Kd α} {b:Kd β} (ha:Heap a) (hb':Heap b):Heap (pair a b):=⟨by
 rintro w w1 x cs hb ⟨c0,c1,rfl,h0,h1⟩
 exact ⟨c0,c1,rfl,ha.K hb h0,hb'.K hb h1⟩⟩
theorem heap_iso {α β:Type} {d:Kd α} (f:β→α) (hd:Heap d):Heap (iso d f):=⟨fun hb h=>hd.K hb h⟩
section
variable {α:Type} {d:Kd α} {e base g n c:Nat} {ok:Nat→Prop} {w w0 W:World} {A:Option Addr} {xs:List α}
end
end Kd
end Go.Proofs.YtclollnicbcooaaGreatDoorW.PrintWords
end
section
-- PRINTED BY print.sh 35421559b90ae4d0a3588c463048766b98c2df88dd9212a6774a882060cdf62d: not written by this session
/-! ### 45. What a call keeps: all but the blocks of S (the rows that it was given to write) and what is new since -/
namespace Go.Proofs.YtclollnicbcooaaGreatDoorW.PrintWords
open Go.RowKit
def Kept (w W:World) (S:Nat→Prop):Prop:=w.heap.size≤W.heap.size∧∀ i,i < w.heap.size→¬ S i→W.heap[i]? = w.heap[i]?
section
variable {w W W2:World} {S S2 S':Nat→Prop}
end
namespace Kd
section
variable {α:Type} {d:Kd α} {e base n c:Nat} {ok oki S S2:Nat→Prop} {w w0 W W1 W2:World} {v:Value} {A:Option Addr} {xs:List α} {i:Int} {cs:List Value}
end
end Kd
end Go.Proofs.YtclollnicbcooaaGreatDoorW.PrintWords
end
section
-- PRINTED BY print.sh 35421559b90ae4d0a3588c463048766b98c2df88dd9212a6774a882060cdf62d: not written by this session
/-! ### 46. Values that share: what is only read, with the blocks it lies in (its footprint 'ok'): Foot, F (a row that is read), FK (an element's cells) -/
namespace Go.Proofs.YtclollnicbcooaaGreatDoorW.PrintWords
open Go.RowKit
def Foot (P:World→Prop) (W:World) (ok:Nat→Prop):Prop:=∀ W':World,(∀ k,ok k→k < W.heap.size→W'.heap[k]? = W.heap[k]?)→P W'
theorem heap_lt {W W1:World} {k:Nat} (h:W1.heap[k]? = W.heap[k]?) (hlt:k < W.heap.size):k < W1.heap.size:=by
 rw [Array.getElem?_eq_getElem hlt] at h
 exact (Array.getElem?_eq_some_iff.1 h).1
namespace Foot
variable {P Q:World→Prop} {W W1:World} {ok ok':Nat→Prop}
theorem now (h:Foot P W ok):P W:=h W (fun _ _ _=>rfl)
theorem mono (h:Foot P W ok) (hok:∀ k,ok k→ok' k):Foot P W ok':=fun W' hW=>h W' (fun k hk hlt=>hW k (hok k hk) hlt)
theorem bound (h:Foot P W ok):Foot P W (fun k=>ok k∧k < W.heap.size):=fun W' hW=>h W' (fun k hk hlt=>hW k ⟨hk,hlt⟩ hlt)
theorem step (h:Foot P W ok) (hm:∀ k,ok k→k < W.heap.size→W1.heap[k]? = W.heap[k]?):Foot P W1 ok:=fun W' hW=>h W' (fun k hk hlt=>(hW k hk (heap_lt (hm k hk hlt) hlt)).trans (hm k hk hlt))
theorem imp (h:Foot P W ok) (hi:∀ W',P W'→Q W'):Foot Q W ok:=fun W' hW=>hi W' (h W' hW)
theorem old (h:Foot P W ok) (hb:Below W.heap.size W W1):Foot P W1 (fun k=>ok k∧k < W.heap.size):=(h.bound).step (fun k _ hlt=>hb.block k hlt)
end Foot
namespace Kd
def F {α:Type} (d:Kd α) (W:World) (ok:Nat→Prop) (A:Option Addr) (n:Nat) (xs:List α):Prop:=Foot (fun W=>d.C W A n xs) W ok
def FK {α:Type} (d:Kd α) (W:World) (ok:Nat→Prop) (x:α) (c:List Value):Prop:=Foot (fun W=>d.K W x c) W ok
section
variable {α β:Type} {d:Kd α} {e base n n' cc g N:Nat} {ok ok' okp S:Nat→Prop} {w w0 w1 W W1:World} {A A':Option Addr} {u v v1:Value} {xs:List α} {xs':List β} {d':Kd β} {x:α} {c:List Value}
theorem F_now (h:F d W ok A n xs):d.C W A n xs:=Foot.now h
theorem F_mono (h:F d W ok A n xs) (hok:∀ k,ok k→ok' k):F d W ok' A n xs:=Foot.mono h hok
theorem F_bound (h:F d W ok A n xs):F d W (fun k=>ok k∧k < W.heap.size) A n xs:=Foot.bound h
theorem F_step (h:F d W ok A n xs) (hm:∀ k,ok k→k < W.heap.size→W1.heap[k]? = W.heap[k]?):F d W1 ok A n xs:=Foot.step h hm
theorem F_imp (h:F d W ok A n xs) (hi:∀ W',d.C W' A n xs→d'.C W' A' n' xs'):F d' W ok A' n' xs':=Foot.imp h hi
theorem F_below (h:F d W ok A n xs) (hb:Below W.heap.size W W1):F d W1 ok A n xs:=F_step h (fun k _ hlt=>hb.block k hlt)
theorem F_alloc (h:F d W ok A n xs) (o:Obj):F d (W.alloc o) ok A n xs:=F_below h (below_alloc (Below.refl _ _) o)
theorem F_drew (h:F d W ok A n xs):F d W.drew ok A n xs:=F_below h (below_drew (Below.refl _ _))
theorem F_drewN (h:F d W ok A n xs) (m:Nat):F d (W.drewN m) ok A n xs:=F_below h (pw_below_drewN (Below.refl _ _) m)
theorem F_far (h:F d W ok A n xs) {p:Addr} (hok:∀ k,ok k→k≠p.block) (u:Value):F d (W.setCell p u) ok A n xs:=F_step h (fun k hk _=>Below.heap_setCell W p u k (hok k hk))
theorem F_elder' (h:F d W ok A n xs) (hbase:∀ k,v.ownBlock=some k→W.heap.size≤k) (hb:Below W.heap.size W W1):F d W1 (fun k=>ok k∧some k≠v.ownBlock) A n xs :=
 F_mono (Foot.old h hb) (fun k hk=>⟨hk.1,fun he=>by have:=hbase k he.symm;have:=hk.2;omega⟩)
theorem F_elderB (h:F d W ok A n xs) (a:Nat) (ha:W.heap.size≤a):F d W (fun k=>ok k∧k≠a) A n xs:=F_mono (F_bound h) (fun k hk=>⟨hk.1,by have:=hk.2;omega⟩)
theorem F_after (h:F d W (fun k=>ok k∧some k≠v.ownBlock) A n xs) (hg:W.grownBy W1 v.ownBlock) (hat:v1.ownBlock=v.ownBlock ∨ ∃ b,v1.ownBlock=some b∧W.heap.size≤b):F d W1 (fun k=>ok k∧some k≠v1.ownBlock) A n xs:=by
 refine F_mono (Foot.step (F_bound h) (fun k hk hlt=>hg.block k hlt hk.1.2)) (fun k hk=>⟨hk.1.1, ?_⟩)
 rcases hat with hat | ⟨b,hb,hle⟩
 ·rw [hat];exact hk.1.2
 ·rw [hb]
  intro he
  injection he with he
  have:=hk.2
  omega
theorem C_F (hd:Heap d) (h:d.C w A n xs):F d w (fun k=>k < w.heap.size) A n xs:=fun _ hW=>hd.C (fun k hlt=>hW k hlt hlt) h
theorem R_F (h:d.R e W base ok (.slice A n cc) xs):F d W ok A n xs:=fun W' hW=>by
 have h2:=R_reads' (R_step h hW)
 rw [h2.1]
 exact h2.2.2
theorem FK_now (h:FK d W ok x c):d.K W x c:=Foot.now h
theorem FK_mono (h:FK d W ok x c) (hok:∀ k,ok k→ok' k):FK d W ok' x c:=Foot.mono h hok
theorem FK_bound (h:FK d W ok x c):FK d W (fun k=>ok k∧k < W.heap.size) x c:=Foot.bound h
theorem FK_step (h:FK d W ok x c) (hm:∀ k,ok k→k < W.heap.size→W1.heap[k]? = W.heap[k]?):FK d W1 ok x c:=Foot.step h hm
theorem FK_of_M (h:d.M W base ok x c):FK d W ok x c:=fun _ hW=>d.K_of_M (M_step h hW)
theorem emptied (W:World) (g:Nat):∃ W':World,(∀ k,k≠g→W'.heap[k]? = W.heap[k]?)∧∀ a:Addr,a.block=g→W'.cell? a=none:=by
 refine ⟨{ W with heap:=W.heap.setIfInBounds g (.cells #[] 0) },fun k hk=>by simp [Ne.symm hk],fun a ha=>?_⟩
 subst ha
 by_cases hlt:a.block < W.heap.size
 ·simp [World.cell?,hlt]
 ·simp [World.cell?,hlt]
end
end Kd
end Go.Proofs.YtclollnicbcooaaGreatDoorW.PrintWords
end
section
-- PRINTED BY print.sh 35421559b90ae4d0a3588c463048766b98c2df88dd9212a6774a882060cdf62d: not written by this session
/-! ### 47. N: a row of the call's own whose elements share (what they lead to is only read) -/
namespace Go.Proofs.YtclollnicbcooaaGreatDoorW.PrintWords
open Go.RowKit
namespace Kd
def chunks (sz:Nat) (n:Nat) (inner:List Value):List (List Value):=(List.range n).map fun j=>(inner.drop (j * sz)).take sz
theorem chunks_length (sz n:Nat) (inner:List Value):(chunks sz n inner).length=n:=by simp [chunks]
theorem chunks_at {sz n:Nat} {inner:List Value} {j:Nat} (hj:j < n):(chunks sz n inner)[j]? = some ((inner.drop (j * sz)).take sz):=by simp [chunks,hj]
theorem chunks_get {sz n:Nat} {inner:List Value} {j:Nat} {c:List Value} (h:(chunks sz n inner)[j]? = some c):c=(inner.drop (j * sz)).take sz:=by
 have hj:j < n:=by have:=(List.getElem?_eq_some_iff.1 h).1;rwa [chunks_length] at this
 rw [chunks_at hj] at h
 injection h with h
 exact h.symm
theorem reps_raw {α:Type} {Rr:α→List Value→Prop} {sz:Nat} {xs:List α} {inner:List Value} (h:Reps Rr sz xs inner) (hR:∀ x c,Rr x c→c.length=sz∧∀ u ∈ c,u.oneCell'=true):Reps (fun x cs=>cs=x∧cs.length=sz∧∀ u ∈ cs,u.oneCell'=true) sz (chunks sz xs.length inner) inner:=by
 refine ⟨by rw [chunks_length];exact h.1,fun j p hj=>?_⟩
 have hjl:j < xs.length:=by have:=(List.getElem?_eq_some_iff.1 hj).1;rwa [chunks_length] at this
 have hp:=chunks_get hj
 exact ⟨hp.symm,hR _ _ (h.2 j _ (List.getElem?_eq_getElem hjl))⟩
section
variable {α:Type} {d:Kd α} {e base n cc g:Nat} {ok ok' okp S:Nat→Prop} {w w1 W W1:World} {A:Option Addr} {u v v1:Value} {xs:List α} {x:α} {c:List Value}
theorem F_get (h:F d W ok A n xs) (z:α) (i:Int) (h0:0≤i) (h1:i < n) :
  ∃ ad c,A=some ad∧c.length=d.sz∧FK d W ok (xs.getD i.toNat z) c∧(∀ j u,c[j]? = some u→W.cell? (ad.add (i.toNat * d.sz+j))=some u)∧(0 < d.sz→ok ad.block):=by
 obtain ⟨ad,c,rfl,hcl,hK,hcc⟩:=C_get (F_now h) z i h0 h1
 have hin:0 < d.sz→ok ad.block:=by
  intro hs
  by_cases hk:ok ad.block
  ·exact hk
  ·obtain ⟨W',h2,h3⟩:=emptied W ad.block
   obtain ⟨ad',c',he,hcl',_,hcc'⟩:=C_get (h W' (fun k hk' _=>h2 k (fun e=>hk (e ▸ hk')))) z i h0 h1
   injection he with he
   subst he
   have h4:=hcc' 0 _ (List.getElem?_eq_getElem (by omega))
   rw [h3 _ (add_block _ _)] at h4
   cases h4
 refine ⟨ad,c,rfl,hcl,fun W' hW=>?_,hcc,hin⟩
 obtain ⟨ad',c',he,hcl',hK',hcc'⟩:=C_get (h W' hW) z i h0 h1
 injection he with he
 subst he
 have hc:c=c':=by
  apply List.ext_getElem?
  intro j
  by_cases hj:j < d.sz
  ·have hb:W'.heap[ad.block]? = W.heap[ad.block]?:=by
    have h5:=hcc j _ (List.getElem?_eq_getElem (by omega))
    have h6:=World.block_lt_of_cell? W _ h5
    rw [add_block] at h6
    exact hW _ (hin (by omega)) h6
   have h5:=hcc j _ (List.getElem?_eq_getElem (by omega))
   have h6:=hcc' j _ (List.getElem?_eq_getElem (by omega))
   have h7:W'.cell? (ad.add (i.toNat * d.sz+j))=W.cell? (ad.add (i.toNat * d.sz+j)):=by simp [World.cell?,add_block,hb]
   rw [h7,h5] at h6
   rw [List.getElem?_eq_getElem (by omega),List.getElem?_eq_getElem (by omega)]
   exact h6
  ·rw [List.getElem?_eq_none (by omega),List.getElem?_eq_none (by omega)]
 rw [hc]
 exact hK'
def N {α:Type} (d:Kd α) (e:Nat) (w:World) (base:Nat) (ok:Nat→Prop) (v:Value) (xs:List α):Prop :=
 (∀ k,v.ownBlock=some k→ok k)∧∃ rows:List (List Value),rows.length=xs.length∧(raw d.sz).R e w base (fun k=>some k=v.ownBlock) v rows∧∀ (j:Nat) (x:α) (c:List Value),xs[j]? = some x→rows[j]? = some c→FK d w (fun k=>ok k∧some k≠v.ownBlock) x c
theorem raw_tight {sz:Nat} {rows:List (List Value)} (h:(raw sz).R e w base ok v rows):(raw sz).R e w base (fun k=>some k=v.ownBlock) v rows:=R_tight rfl h
theorem raw_any {sz:Nat} {rows:List (List Value)} (h:(raw sz).R e w base ok v rows):(raw sz).R e w base (fun _=>True) v rows:=R_mono h (fun _ _=>trivial)
theorem R_N (h:d.R e w base ok v xs):N d e w base ok v xs:=by
 obtain ⟨h0,inner,ho,hr⟩:=h
 refine ⟨h0,chunks d.sz xs.length inner,chunks_length _ _ _,⟨fun k hk=>hk.symm,inner,by rw [chunks_length];exact ho,reps_raw hr (fun x c hp=>⟨d.K_len (d.K_of_M hp),d.K_one (d.K_of_M hp)⟩)⟩,fun j x c hx hc=>?_⟩
 rw [chunks_get hc]
 exact FK_of_M (hr.2 j x hx)
theorem S_N (h:Kd.S d e w base ok v xs):N d e w base ok v xs:=R_N (S_R h)
theorem N_nil (d:Kd α) (e:Nat) (w:World) (base:Nat) (ok:Nat→Prop):N d e w base ok (.slice none 0 0) []:=R_N (R_nil _ _ _ _ _)
theorem N_mono (h:N d e w base ok v xs) (hok:∀ k,ok k→ok' k):N d e w base ok' v xs:=by
 obtain ⟨h0,rows,hl,hR,hf⟩:=h
 exact ⟨fun k hk=>hok k (h0 k hk),rows,hl,hR,fun j x c hx hc=>FK_mono (hf j x c hx hc) (fun k hk=>⟨hok k hk.1,hk.2⟩)⟩
theorem N_lt (h:N d e w base ok v xs):∀ k,v.ownBlock=some k→k < w.heap.size:=by
 obtain ⟨_,rows,_,hR,_⟩:=h
 exact R_lt hR
theorem N_typed (h:N d e w base ok v xs):∀ k,v.ownBlock=some k→∃ cells,w.heap[k]? = some (.cells cells e (0,0)):=by
 obtain ⟨_,rows,_,hR,_⟩:=h
 exact R_typed hR
theorem N_ne (h:N d e w base ok v xs) {t:Nat} {cells:Array Value} (hb:w.heap[g]? = some (.cells cells t (0,0))) (ht:e≠t):some g≠v.ownBlock:=by
 obtain ⟨_,rows,_,hR,_⟩:=h
 exact R_ne hR hb ht
theorem N_bound (h:N d e w base ok v xs):N d e w base (fun k=>ok k∧k < w.heap.size) v xs:=by
 have hlt:=N_lt h
 obtain ⟨h0,rows,hl,hR,hf⟩:=h
 exact ⟨fun k hk=>⟨h0 k hk,hlt k hk⟩,rows,hl,hR,fun j x c hx hc=>FK_mono (FK_bound (hf j x c hx hc)) (fun k hk=>⟨⟨hk.1.1,hk.2⟩,hk.1.2⟩)⟩
theorem N_lower {base':Nat} (h:N d e w base ok v xs) (hb:base'≤base):N d e w base' ok v xs:=by
 obtain ⟨h0,rows,hl,hR,hf⟩:=h
 exact ⟨h0,rows,hl,R_lower hR hb,hf⟩
theorem N_step (h:N d e w base ok v xs) (hm:∀ k,ok k→k < w.heap.size→w1.heap[k]? = w.heap[k]?):N d e w1 base ok v xs:=by
 obtain ⟨h0,rows,hl,hR,hf⟩:=h
 exact ⟨h0,rows,hl,R_step hR (fun k hk hlt=>hm k (h0 k hk.symm) hlt),fun j x c hx hc=>FK_step (hf j x c hx hc) (fun k hk hlt=>hm k hk.1 hlt)⟩
theorem N_below (h:N d e w base ok v xs) (hb:Below w.heap.size w w1):N d e w1 base ok v xs:=N_step h (fun k _ hk=>hb.block k hk)
theorem N_alloc (h:N d e w base ok v xs) (o:Obj):N d e (w.alloc o) base ok v xs:=N_below h (below_alloc (Below.refl _ _) o)
theorem N_drew (h:N d e w base ok v xs):N d e w.drew base ok v xs:=N_below h (below_drew (Below.refl _ _))
theorem N_drewN (h:N d e w base ok v xs) (m:Nat):N d e (w.drewN m) base ok v xs:=N_below h (pw_below_drewN (Below.refl _ _) m)
theorem N_far (h:N d e w base ok v xs) {p:Addr} (hok:∀ k,ok k→k≠p.block) (u:Value):N d e (w.setCell p u) base ok v xs:=N_step h (fun k ho _=>Below.heap_setCell w p u k (hok k ho))
theorem N_elder' (h:N d e W base ok v xs) (hbase:∀ k,u.ownBlock=some k→W.heap.size≤k) (hb:Below W.heap.size W w1):N d e w1 base (fun k=>ok k∧some k≠u.ownBlock) v xs :=
 N_mono (N_below (N_bound h) hb) (fun k hk=>⟨hk.1,fun he=>by have:=hbase k he.symm;have:=hk.2;omega⟩)
theorem N_elderB (h:N d e w base ok v xs) (a:Nat) (ha:w.heap.size≤a):N d e w base (fun k=>ok k∧k≠a) v xs:=N_mono (N_bound h) (fun k hk=>⟨hk.1,by have:=hk.2;omega⟩)
theorem N_after (h:N d e W base (fun k=>ok k∧some k≠u.ownBlock) v xs) {u1:Value} (hg:W.grownBy w1 u.ownBlock) (hat:u1.ownBlock=u.ownBlock ∨ ∃ b,u1.ownBlock=some b∧W.heap.size≤b):N d e w1 base (fun k=>ok k∧some k≠u1.ownBlock) v xs:=by
 refine N_mono (N_step (N_bound h) (fun k hk hlt=>hg.block k hlt hk.1.2)) (fun k hk=>⟨hk.1.1, ?_⟩)
 rcases hat with hat | ⟨b,hb,hle⟩
 ·rw [hat];exact hk.1.2
 ·rw [hb]
  intro he
  injection he with he
  have:=hk.2
  omega
theorem N_old (h:N d e W base ok v xs) (hb:Below W.heap.size W w1):N d e w1 base (fun k=>ok k∧k < W.heap.size) v xs:=N_below (N_bound h) hb
theorem N_told {b:Nat} (h:N d e w1 base (fun k=>ok k∧k < b) v xs) (hbase:∀ k,u.ownBlock=some k→b≤k):N d e w1 base (fun k=>(ok k∧some k≠u.ownBlock)∧k < b) v xs :=
 N_mono h (fun k hk=>⟨⟨hk.1,fun e=>Nat.lt_irrefl _ (Nat.lt_of_lt_of_le hk.2 (hbase k e.symm))⟩,hk.2⟩)
theorem N_slice (h:N d e w base ok v xs):∃ A c,v=.slice A xs.length c:=by
 obtain ⟨_,rows,hl,hR,_⟩:=h
 obtain ⟨A,c,he⟩:=R_slice hR
 exact ⟨A,c,by rw [he,hl]⟩
theorem N_reads' {n c:Nat} (h:N d e w base ok (.slice A n c) xs):n=xs.length∧n≤c∧d.C w A xs.length xs:=by
 obtain ⟨_,rows,hl,hR,hf⟩:=h
 obtain ⟨hn,hc,hC⟩:=R_reads' hR
 refine ⟨by omega,hc, ?_⟩
 rw [hl] at hC
 refine ⟨rfl,hC.2.1,fun hp=>?_⟩
 obtain ⟨ad,he,hcell⟩:=hC.2.2 hp
 refine ⟨ad,he,fun j p hj=>?_⟩
 have hjl:j < rows.length:=by have:=(List.getElem?_eq_some_iff.1 hj).1;omega
 obtain ⟨c',hcl,hK,hcc⟩:=hcell j _ (List.getElem?_eq_getElem hjl)
 have hk:=FK_now (hf j p _ hj (List.getElem?_eq_getElem hjl))
 refine ⟨c',hcl, ?_,hcc⟩
 rw [show c'=rows[j] from hK.1]
 exact hk
theorem N_elem {n cap:Nat} (h:N d e W base ok (.slice (some ⟨g,0,none⟩) n cap) xs) (z:α) (i:Int) (h0:0≤i) (h1:i < n) :
  ∃ c,c.length=d.sz∧FK d W (fun k=>ok k∧k≠g) (xs.getD i.toNat z) c∧(∀ j u,c[j]? = some u→W.cell? ⟨g,i.toNat * d.sz+j,none⟩=some u)∧∀ j,W.frozen? ⟨g,i.toNat * d.sz+j,none⟩=false:=by
 obtain ⟨_,rows,hl,hR,hf⟩:=h
 have hn:=(R_reads' hR).1
 obtain ⟨c,hcl,hM,hcc,hfr⟩:=R_elem hR [] i h0 h1
 have hil:i.toNat < rows.length:=by omega
 have hil':i.toNat < xs.length:=by omega
 have hc:c=rows[i.toNat]:=by
  have h2:=hM.1
  rwa [List.getD_eq_getElem?_getD,List.getElem?_eq_getElem hil] at h2
 refine ⟨c,hcl, ?_,hcc,hfr⟩
 rw [List.getD_eq_getElem?_getD,List.getElem?_eq_getElem hil']
 exact FK_mono (hf _ _ _ (List.getElem?_eq_getElem hil') (by rw [hc];exact List.getElem?_eq_getElem hil)) (fun k hk=>⟨hk.1,fun he=>hk.2 (by rw [he];simp [Value.ownBlock])⟩)
theorem N_get {ad:Addr} {n cap:Nat} (h:N d e W base ok (.slice (some ad) n cap) xs) (z:α) (i:Int) (h0:0≤i) (h1:i < n) :
  ∃ c,c.length=d.sz∧FK d W (fun k=>ok k∧some k≠(Value.slice (some ad) n cap).ownBlock) (xs.getD i.toNat z) c∧∀ j u,c[j]? = some u→W.cell? (ad.add (i.toNat * d.sz+j))=some u:=by
 obtain ⟨g,rfl⟩:∃ g,ad=⟨g,0,none⟩:=by
  obtain ⟨_,rows,_,hR,_⟩:=h
  exact R_head hR
 obtain ⟨c,hcl,hM,hcc,_⟩:=N_elem h z i h0 h1
 refine ⟨c,hcl,FK_mono hM (fun k hk=>⟨hk.1,fun he=>hk.2 (by simpa [Value.ownBlock] using he)⟩),fun j u hu=>?_⟩
 rw [add_at,Nat.zero_add]
 exact hcc j u hu
end
end Kd
end Go.Proofs.YtclollnicbcooaaGreatDoorW.PrintWords
end
section
-- PRINTED BY print.sh 35421559b90ae4d0a3588c463048766b98c2df88dd9212a6774a882060cdf62d: not written by this session
/-! ### 52. A row that stays read whatever happens to a block (a set of blocks) doesn't lie there -/
namespace Go.Proofs.YtclollnicbcooaaGreatDoorW.PrintWords
open Go.RowKit
namespace Kd
section
variable {α:Type} {d:Kd α} {W:World} {g n:Nat} {S ok:Nat→Prop} {A:Option Addr} {ad:Addr} {xs:List α}
end
end Kd
end Go.Proofs.YtclollnicbcooaaGreatDoorW.PrintWords
end
section
-- PRINTED BY print.sh 35421559b90ae4d0a3588c463048766b98c2df88dd9212a6774a882060cdf62d: not written by this session
/-! ### 54. Behind orders that were drawn quietly: the same facts at the world's new name; a flat row's foot -/
namespace Go.Proofs.YtclollnicbcooaaGreatDoorW.PrintWords
open Go.RowKit
section
variable {w w' u:World} {m B g:Nat} {o:Obj} {row:Option Nat} {S:Nat→Prop} {a:Addr} {v:Value}
end
namespace Kd
section
variable {α:Type} {d:Kd α} {e base n m:Nat} {ok:Nat→Prop} {w w':World} {v:Value} {A:Option Addr} {xs:List α}
end
end Kd
end Go.Proofs.YtclollnicbcooaaGreatDoorW.PrintWords
end
section
-- PRINTED BY print.sh 35421559b90ae4d0a3588c463048766b98c2df88dd9212a6774a882060cdf62d: not written by this session
/-! ### 53. '==' of structs as_ one Bool -/
namespace Go.Proofs.YtclollnicbcooaaGreatDoorW.PrintWords
open Go.RowKit
section
variable {P:Program} {d:Nat} {xs ys:Array Value} {f:Field} {fs:List Field} {a b:Value} {r s:Bool} {w:World}
theorem eqf_last (hn : (f.name == "_") = false) (ha : (part f.type xs f.offset).run P w = .ok a w) (hb : (part f.type ys f.offset).run P w = .ok b w) (he : (Op.equalIn d f.type a b).run P w = .ok r w) : (Op.eqFields d xs ys [f]).run P w = .ok r w := by
 have hn' : f.name ≠ "_" := by simpa using hn
 simp only [Op.eqFields,if_pos hn',Sem.run_bind,ha,hb,he,Result.andThen_ok]
 cases r <;> simp
theorem eqf_cons (hn : (f.name == "_") = false) (ha : (part f.type xs f.offset).run P w = .ok a w) (hb : (part f.type ys f.offset).run P w = .ok b w) (he : (Op.equalIn d f.type a b).run P w = .ok r w) (hr : (Op.eqFields d xs ys fs).run P w = .ok s w) : (Op.eqFields d xs ys (f :: fs)).run P w = .ok (r && s) w := by
 have hn' : f.name ≠ "_" := by simpa using hn
 rw [Op.eqFields]
 simp only [if_pos hn',Sem.run_bind,ha,hb,he,Result.andThen_ok]
 cases r
 ·simp
 ·simpa using hr
theorem eqA_of {t:TypeId} {fs:Array Field} (hu:P.underlying t=some (.struct fs)) (hp:P.stoodInHeld t=false) (h:(Op.eqFields d xs ys fs.toList).run P w=.ok r w):(Op.equalIn (d+1) t (.agg xs) (.agg ys)).run P w=.ok r w:=by
 have hf:P.fieldsOf t=fs:=by simp [Program.fieldsOf,hu]
 rw [run_equalIn_struct (P:=P) w d t xs ys (by rw [hf];exact hu) hp,hf]
 exact h
end
end Go.Proofs.YtclollnicbcooaaGreatDoorW.PrintWords
end
section
-- PRINTED BY print.sh 35421559b90ae4d0a3588c463048766b98c2df88dd9212a6774a882060cdf62d: not written by this session
/-! ### 55. Reps told from the front, no append: for rows of one-cell elements and of wider ones -/
namespace Go.Proofs.YtclollnicbcooaaGreatDoorW.PrintWords
theorem Reps.one {α:Type} {R:α→List Value→Prop} {ps:List α} {cs:List Value} {p:α} {v:Value} (hp:R p [v]) (h:Reps R 1 ps cs):Reps R 1 (p :: ps) (v :: cs):=by
 refine ⟨by simp [h.1],fun j q hq=>?_⟩
 cases j with
 | zero =>
  simp only [List.getElem?_cons_zero,Option.some.injEq] at hq
  subst hq
  simpa using hp
 | succ j =>
  simp only [List.getElem?_cons_succ] at hq
  have h1:=h.2 j q hq
  simpa [Nat.mul_one] using h1
end Go.Proofs.YtclollnicbcooaaGreatDoorW.PrintWords
end
section
-- PRINTED BY print.sh 35421559b90ae4d0a3588c463048766b98c2df88dd9212a6774a882060cdf62d: not written by this session
/-! ### 57. A region of open order by ONE relation over what is listed so far: each operation is shown once, whatever came up before it -/
namespace Go.Proofs.YtclollnicbcooaaGreatDoorW.PrintLast
def up (b:Nat→Bool) (i:Nat):Nat→Bool:=fun j=>if j=i then true else b j
def lof (n:Nat) (O:List Nat) (b:Nat→Bool):List Bool:=(List.range n).map fun j=>if O.contains j then b j else true
def putSel (a:Act) (b:Nat→Bool):List (Nat × Tmp × Value)→Act
 | []=>a
 | e :: r=>putSel (if b e.1=true then a.put (some e.2.1) e.2.2 else a) b r
section
variable {P:Program} {ops:Array Oper} {Q:Exit→Act→World→Prop} {md:Region.Mode} {T:Bool × List (List Nat × List Nat)} {B:List Nat} {O:List Nat} {b:Nat→Bool} {i j n:Nat}
def StepAt (P:Program) (ops:Array Oper) (Q:Exit→Act→World→Prop) (B:List Nat) (O:List Nat) (I:(Nat→Bool)→Act→World→Prop) (i:Nat):Prop :=
 ∀ b a w,I b a w→b i=false→(∀ j,(O.contains j && (B.getD i 0).testBit j)=true→b j=true)→(∀ d,(O.contains d && (B.getD d 0).testBit i)=true→b d=false) →
  ∃ oi,ops[i]? = some oi∧∀ K:Act→World→Prop,Shut (∀ a' w',I (up b i) a' w'→K a' w')→if Region.wanted oi (yielded ops a.tmps)=true then Oper.wp P oi a w K Q else K (a.put oi.dst undef) w
def baseOk (T:List (List Nat × List Nat)) (O:List Nat):Bool :=
 (List.range T.length).all (fun d=>match T[d]? with
  | some r=>(O.contains d || r.1.all fun n=>!O.contains n) && r.1.all fun n=>decide (n < d)
  | none=>false) && O.all (fun i=>decide (i < T.length)) && decide O.Nodup
def Closed (T:List (List Nat × List Nat)) (O:List Nat) (b:Nat→Bool):Prop:=∀ d r,T[d]? = some r→O.contains d=true→b d=true→∀ n ∈ r.1,O.contains n=true→b n=true
end
end Go.Proofs.YtclollnicbcooaaGreatDoorW.PrintLast
end
section
-- PRINTED BY print.sh 35421559b90ae4d0a3588c463048766b98c2df88dd9212a6774a882060cdf62d: not written by this session
namespace Go.Proofs.YtclollnicbcooaaGreatDoorW.PrintWords
open Go.RowKit
end Go.Proofs.YtclollnicbcooaaGreatDoorW.PrintWords
namespace Go.Proofs.YtclollnicbcooaaGreatDoorW.PrintLast
section
variable {ops:Array Oper} {a:Act} {o og:Oper} {g:Nat} {t:Tmp} {u:Bool}
end
end Go.Proofs.YtclollnicbcooaaGreatDoorW.PrintLast
end
section
-- PRINTED BY print.sh 35421559b90ae4d0a3588c463048766b98c2df88dd9212a6774a882060cdf62d: not written by this session
/-! ### 58. A guarded operation whose guard is known to want it: the same goal without the guard -/
namespace Go.Proofs.YtclollnicbcooaaGreatDoorW.PrintWords
open Go.RowKit
section
variable {P:Program} {ops:Array Oper} {rest:List Oper} {o:Oper} {a:Act} {Q:Exit→Act→World→Prop} {W:World}
theorem gate_guard (hw:Region.wanted o (yielded ops a.tmps)=true) (h:wpList P ops Q ({ o with guard:=none } :: rest) a W):wpList P ops Q (o :: rest) a W:=by
 have h1:Region.wanted { o with guard:=none } (yielded ops a.tmps)=true:=rfl
 unfold wpList at h ⊢
 rw [if_pos h1] at h
 rw [if_pos hw]
 exact h
end
end Go.Proofs.YtclollnicbcooaaGreatDoorW.PrintWords
end
section
-- PRINTED BY print.sh 35421559b90ae4d0a3588c463048766b98c2df88dd9212a6774a882060cdf62d: not written by this session
/-! ### 48. N's events: append, a whole row appended, zeros appended, literals, make, stores, cuts, an element taken out -/
namespace Go.Proofs.YtclollnicbcooaaGreatDoorW.PrintWords
open Go.RowKit
namespace Kd
section
variable {α:Type} {d:Kd α} {e base n cap g:Nat} {ok ok' okp:Nat→Prop} {w w1 W:World} {v v1:Value} {xs ys:List α}
theorem N_appended {rows news:List (List Value)} (h0:∀ k,v.ownBlock=some k→ok k) (hl:rows.length=xs.length) (hf:∀ (j:Nat) (x:α) (c:List Value),xs[j]? = some x→rows[j]? = some c→FK d W (fun k=>ok k∧some k≠v.ownBlock) x c)
  (hl2:news.length=ys.length) (hf2:∀ (j:Nat) (x:α) (c:List Value),ys[j]? = some x→news[j]? = some c→FK d W okp x c) (hokp:∀ k,okp k→ok k∧some k≠v.ownBlock) (hfresh:∀ k,W.heap.size≤k→ok k)
  (hR:(raw d.sz).R e w1 base (fun _=>True) v1 (rows ++ news)) (hg:W.grownBy w1 v.ownBlock) (hat:v1.ownBlock=v.ownBlock ∨ ∃ b,v1.ownBlock=some b∧W.heap.size≤b):N d e w1 base ok v1 (xs ++ ys):=by
 have hne:∀ k,some k≠v.ownBlock→k < W.heap.size→some k≠v1.ownBlock:=by
  intro k hk hlt
  rcases hat with hat | ⟨b,hb,hle⟩
  ·rw [hat];exact hk
  ·rw [hb]
   intro he
   injection he with he
   omega
 have step:∀ {x:α} {c:List Value} {o:Nat→Prop},FK d W o x c→(∀ k,o k→ok k∧some k≠v.ownBlock)→FK d w1 (fun k=>ok k∧some k≠v1.ownBlock) x c:=by
  intro x c o hq ho
  exact FK_mono (FK_step (FK_bound hq) (fun k hk hlt=>hg.block k hlt (ho k hk.1).2)) (fun k hk=>⟨(ho k hk.1).1,hne k (ho k hk.1).2 hk.2⟩)
 refine ⟨fun k hk=>?_,rows ++ news,by rw [List.length_append,List.length_append,hl,hl2],raw_tight hR,fun j x c hx hc=>?_⟩
 ·rcases hat with hat | ⟨b,hb,hle⟩
  ·exact h0 k (hat ▸ hk)
  ·rw [hb] at hk
   injection hk with hk
   exact hfresh k (by omega)
 ·rcases Nat.lt_or_ge j xs.length with hlt | hge
  ·rw [List.getElem?_append_left hlt] at hx
   rw [List.getElem?_append_left (by omega)] at hc
   exact step (hf j x c hx hc) (fun _ hk=>hk)
  ·rw [List.getElem?_append_right hge] at hx
   rw [List.getElem?_append_right (by omega),hl] at hc
   exact step (hf2 _ x c hx hc) hokp
theorem FK_raw {x:α} {c:List Value} (h:FK d W ok x c):c=c∧c.length=d.sz∧∀ u ∈ c,u.oneCell'=true:=⟨rfl,d.K_len (FK_now h),d.K_one (FK_now h)⟩
end
section
variable {P:Program} {ops:Array Oper} {rest:List Oper} {o:Oper} {a:Act} {Q:Exit→Act→World→Prop} {Kc:Act→World→Prop} {α:Type}
theorem N_append (d:Kd α) {w0 W:World} (base:Nat) (hgd:o.guard=none) (s x:Operand) (t e:TypeId) (z:Value) (bytes:Nat)
  (ho:o.op=.call { callee:=.builtin .append,args:=#[s,x],argTypes:=#[t,t] })
  (ht:P.underlying t=some (.slice e)) (hinfo:(P.info? e).map (fun i=>(i.zero,i.size,i.bytes))=some (some z,d.sz,bytes)) (hz:z.cells.size=d.sz) (hs0:0 < d.sz) (hb0:0 < bytes)
  (v:Value) (xs:List α) (p:α) (cs:List Value) (ok okp:Nat→Prop) (hs:a.eval s=v) (hx:a.eval x=.slice (some ⟨W.heap.size,0,none⟩) 1 1) (hp:FK d W okp p cs) (hokp:∀ k,okp k→ok k∧some k≠v.ownBlock) (hfresh:∀ k,W.heap.size≤k→ok k)
  (HO:N d e W base ok v xs) (HB:Below base w0 W) (hbase:base≤W.heap.size) (hl:(xs.length+1) * bytes≤140737488355328)
  (h:∀ v1 w1,N d e w1 base ok v1 (xs ++ [p])→Below base w0 w1→W.grownBy w1 v.ownBlock→(v1.ownBlock=v.ownBlock ∨ ∃ b,v1.ownBlock=some b∧W.heap.size≤b)→wpList P ops Q rest (a.put o.dst v1) w1) :
  wpList P ops Q (o :: rest) a (W.alloc (.cells cs.toArray e)):=by
 obtain ⟨h0,rows,hlr,hR,hf⟩:=HO
 refine R_append (raw d.sz) base hgd s x t e z bytes ho ht hinfo hz hs0 hb0 v rows cs cs (fun _=>True) (fun _=>False) hs hx (FK_raw hp) (fun _ hk=>hk.elim) (fun _ _=>trivial) (raw_any hR) HB hbase (by rw [hlr];exact hl) ?_
 intro v1 w1 hr hb hg hat
 exact h v1 w1 (N_appended h0 hlr hf (ys:=[p]) (news:=[cs]) rfl (fun j y c hy hc=>by
  rcases j with _ | j
  ·simp only [List.getElem?_cons_zero,Option.some.injEq] at hy hc
   rw [← hy,← hc];exact hp
  ·simp at hy) hokp hfresh hr hg hat) hb hg hat
theorem N_append_step (d:Kd α) {w0 W:World} (base:Nat) (hw:Region.wanted o (yielded ops a.tmps)=true) (s x:Operand) (t e:TypeId) (z:Value) (bytes:Nat)
  (ho:o.op=.call { callee:=.builtin .append,args:=#[s,x],argTypes:=#[t,t] })
  (ht:P.underlying t=some (.slice e)) (hinfo:(P.info? e).map (fun i=>(i.zero,i.size,i.bytes))=some (some z,d.sz,bytes)) (hz:z.cells.size=d.sz) (hs0:0 < d.sz) (hb0:0 < bytes)
  (v:Value) (xs:List α) (p:α) (cs:List Value) (ok okp:Nat→Prop) (hs:a.eval s=v) (hx:a.eval x=.slice (some ⟨W.heap.size,0,none⟩) 1 1) (hp:FK d W okp p cs) (hokp:∀ k,okp k→ok k∧some k≠v.ownBlock) (hfresh:∀ k,W.heap.size≤k→ok k)
  (HO:N d e W base ok v xs) (HB:Below base w0 W) (hbase:base≤W.heap.size) (hl:(xs.length+1) * bytes≤140737488355328)
  (h:∀ v1 w1,N d e w1 base ok v1 (xs ++ [p])→Below base w0 w1→W.grownBy w1 v.ownBlock→(v1.ownBlock=v.ownBlock ∨ ∃ b,v1.ownBlock=some b∧W.heap.size≤b)→Kc (a.put o.dst v1) w1) :
  if Region.wanted o (yielded ops a.tmps)=true then Oper.wp P o a (W.alloc (.cells cs.toArray e)) Kc Q else Kc (a.put o.dst undef) (W.alloc (.cells cs.toArray e)):=by
 obtain ⟨h0,rows,hlr,hR,hf⟩:=HO
 refine R_append_step (raw d.sz) base hw s x t e z bytes ho ht hinfo hz hs0 hb0 v rows cs cs (fun _=>True) (fun _=>False) hs hx (FK_raw hp) (fun _ hk=>hk.elim) (fun _ _=>trivial) (raw_any hR) HB hbase (by rw [hlr];exact hl) ?_
 intro v1 w1 hr hb hg hat
 exact h v1 w1 (N_appended h0 hlr hf (ys:=[p]) (news:=[cs]) rfl (fun j y c hy hc=>by
  rcases j with _ | j
  ·simp only [List.getElem?_cons_zero,Option.some.injEq] at hy hc
   rw [← hy,← hc];exact hp
  ·simp at hy) hokp hfresh hr hg hat) hb hg hat
end
end Kd
end Go.Proofs.YtclollnicbcooaaGreatDoorW.PrintWords
end
section
-- PRINTED BY print.sh 35421559b90ae4d0a3588c463048766b98c2df88dd9212a6774a882060cdf62d: not written by this session
-- PRINTED WORDS (module Derived/Print/More.lean): go-gate-2's additions: an AI agent of Go's test side, Tue Nov 17 2026; no person has read it. Lean checks it.
namespace Go.Proofs.YtclollnicbcooaaGreatDoorW.PrintMore
open Go.RowKit Go.Proofs.YtclollnicbcooaaGreatDoorW.PrintWords
namespace Kd
open Go.Proofs.YtclollnicbcooaaGreatDoorW.PrintWords.Kd
end Kd

namespace Kd
open Go.Proofs.YtclollnicbcooaaGreatDoorW.PrintWords.Kd
section
variable {α:Type} {d:Kd α} {e base g N:Nat} {ok:Nat→Prop} {W w1:World} {u v:Value} {xs:List α}
end
end Kd
theorem max2_int (k k':IntKind) (x y:Int):Builtin.max2 (.int k x) (.int k' y)=pure (.int k (if x < y then y else x)):=by simp only [Builtin.max2,gt_iff_lt]
theorem min2_int (k k':IntKind) (x y:Int):Builtin.min2 (.int k x) (.int k' y)=pure (.int k (if y < x then y else x)):=by simp only [Builtin.min2]
theorem max_two (ats:Array TypeId) (ty:TypeId) (a b:Value):Builtin.max_ ats ty #[a,b]=(Builtin.max2 a b >>= fun s=>pure s):=by simp only [Builtin.max_,List.foldlM_cons,List.foldlM_nil]
theorem min_two (ats:Array TypeId) (ty:TypeId) (a b:Value):Builtin.min_ ats ty #[a,b]=(Builtin.min2 a b >>= fun s=>pure s):=by simp only [Builtin.min_,List.foldlM_cons,List.foldlM_nil]
theorem max_three (ats:Array TypeId) (ty:TypeId) (a b c:Value):Builtin.max_ ats ty #[a,b,c]=(Builtin.max2 a b >>= fun s=>Builtin.max2 s c >>= fun s=>pure s):=by simp only [Builtin.max_,List.foldlM_cons,List.foldlM_nil]
theorem min_three (ats:Array TypeId) (ty:TypeId) (a b c:Value):Builtin.min_ ats ty #[a,b,c]=(Builtin.min2 a b >>= fun s=>Builtin.min2 s c >>= fun s=>pure s):=by simp only [Builtin.min_,List.foldlM_cons,List.foldlM_nil]
theorem max_four (ats:Array TypeId) (ty:TypeId) (a b c d:Value):Builtin.max_ ats ty #[a,b,c,d]=(Builtin.max2 a b >>= fun s=>Builtin.max2 s c >>= fun s=>Builtin.max2 s d >>= fun s=>pure s):=by simp only [Builtin.max_,List.foldlM_cons,List.foldlM_nil]
theorem min_four (ats:Array TypeId) (ty:TypeId) (a b c d:Value):Builtin.min_ ats ty #[a,b,c,d]=(Builtin.min2 a b >>= fun s=>Builtin.min2 s c >>= fun s=>Builtin.min2 s d >>= fun s=>pure s):=by simp only [Builtin.min_,List.foldlM_cons,List.foldlM_nil]
end Go.Proofs.YtclollnicbcooaaGreatDoorW.PrintMore
namespace Go.Proofs.YtclollnicbcooaaGreatDoorW.PrintWords
open Go.RowKit
section
variable {P:Program} {ops:Array Oper} {rest:List Oper} {o:Oper} {a:Act} {Q:Exit→Act→World→Prop} {W:World}
theorem gate_callee {f:FuncId} {as1:Array Operand} {ts:Array TypeId} (_ho:o.op=.call { callee:=.value (.func f),args:=as1,argTypes:=ts }) (h:wpList P ops Q (o :: rest) a W):wpList P ops Q (o :: rest) a W:=h
theorem gate_builtin {b:Builtin} {xs:Array Operand} {ts:Array TypeId} (_ho:o.op=.call { callee:=.builtin b,args:=xs,argTypes:=ts }) (h:wpList P ops Q (o :: rest) a W):wpList P ops Q (o :: rest) a W:=h
end
def mx (a b:Int):Int:=if a < b then b else a
def mn (a b:Int):Int:=if b < a then b else a
def shl (k:IntKind) (x y:Int):Int:=k.wrap (x * 2 ^ min y.toNat k.bits)
def shr (k:IntKind) (x y:Int):Int:=x / 2 ^ min y.toNat k.bits
theorem shl_small {k:IntKind} {x y j:Int} (h:shl k x y=j) (hy:y≤k.bits):k.wrap (x * 2 ^ y.toNat)=j:=by rw [← h];unfold shl;rw [Nat.min_eq_left (by omega)]
namespace Kd
section
variable {α:Type} {d:Kd α} {e base:Nat} {ok:Nat→Prop} {W w1:World} {v:Value} {xs:List α}
end
section
variable {α:Type} {d:Kd α} {e base g n cap:Nat} {ok oki okp:Nat→Prop} {W:World} {xs:List α} {i:Int} {c:List Value}
end
section
variable {α:Type} {d:Kd α} {e base b b' g N:Nat} {ok ok1:Nat→Prop} {W W2 w1:World} {u v:Value} {xs ys:List α} {S:Nat→Prop}
theorem R_tight2 (hE:d.E=[]) (h:d.R e W base ok v xs):d.R e W base (fun k=>some k=v.ownBlock∧ok k) v xs:=R_mono (R_tight hE h) (fun k hk=>⟨hk,h.1 k hk.symm⟩)
end
end Kd
end Go.Proofs.YtclollnicbcooaaGreatDoorW.PrintWords
namespace Go.Proofs.YtclollnicbcooaaGreatDoorW.PrintWords
open Go.RowKit
namespace Kd
def V {α:Type} (d:Kd α) (_e:Nat) (W:World) (_base:Nat) (ok:Nat→Prop) (v:Value) (xs:List α):Prop:=∃ A c,v=.slice A xs.length c∧xs.length≤c∧F d W ok A xs.length xs
section
variable {α β:Type} {d:Kd α} {e base base' n m c g N' lo hi:Nat} {ok ok' S:Nat→Prop} {w W w1:World} {A:Option Addr} {ad:Addr} {u v v1:Value} {xs:List α}
theorem V_map (h:V d e W base ok v xs) (hF:∀ A,F d W ok A xs.length xs→F d w1 ok' A xs.length xs):V d e w1 base' ok' v xs:=by
 obtain ⟨A,c,hv,hl,hf⟩:=h
 exact ⟨A,c,hv,hl,hF A hf⟩
theorem V_mk (hl:xs.length≤c) (hf:F d W ok A xs.length xs):V d e W base ok (.slice A xs.length c) xs:=⟨A,c,rfl,hl,hf⟩
theorem V_slice (h:V d e W base ok v xs):∃ A c,v=.slice A xs.length c:=by
 obtain ⟨A,c,hv,_⟩:=h
 exact ⟨A,c,hv⟩
theorem V_at (h:V d e W base ok (.slice A n c) xs):n=xs.length∧n≤c∧F d W ok A xs.length xs:=by
 obtain ⟨A',c',hv,hl,hf⟩:=h
 injection hv with ha hn hc
 subst ha;subst hc
 exact ⟨hn,by rw [hn];exact hl,hf⟩
theorem V_reads' (h:V d e W base ok (.slice A n c) xs):n=xs.length∧n≤c∧d.C W A xs.length xs:=⟨(V_at h).1,(V_at h).2.1,F_now (V_at h).2.2⟩
theorem V_F (h:V d e W base ok (.slice A n c) xs):F d W ok A n xs:=by
 obtain ⟨hn,_,hf⟩:=V_at h
 rw [hn]
 exact hf
theorem R_V (h:d.R e W base ok v xs):V d e W base' ok v xs:=by
 obtain ⟨A,c,rfl⟩:=R_slice h
 exact ⟨A,c,rfl,(R_reads' h).2.1,R_F h⟩
theorem V_mono (h:V d e W base ok v xs) (hok:∀ k,ok k→ok' k):V d e W base ok' v xs:=V_map h (fun _ hf=>F_mono hf hok)
theorem V_below (h:V d e W base ok v xs) (hb:Below W.heap.size W w1):V d e w1 base ok v xs:=V_map h (fun _ hf=>F_below hf hb)
theorem V_alloc (h:V d e W base ok v xs) (o:Obj):V d e (W.alloc o) base ok v xs:=V_map h (fun _ hf=>F_alloc hf o)
theorem V_drew (h:V d e W base ok v xs):V d e W.drew base ok v xs:=V_map h (fun _ hf=>F_drew hf)
theorem V_drewN (h:V d e W base ok v xs) (m:Nat):V d e (W.drewN m) base ok v xs:=V_map h (fun _ hf=>F_drewN hf m)
theorem V_far (h:V d e W base ok v xs) {p:Addr} (hok:∀ k,ok k→k≠p.block) (u:Value):V d e (W.setCell p u) base ok v xs:=V_map h (fun _ hf=>F_far hf hok u)
theorem V_after (h:V d e W base (fun k=>ok k∧some k≠u.ownBlock) v xs) (hg:W.grownBy w1 u.ownBlock) (hat:v1.ownBlock=u.ownBlock ∨ ∃ b,v1.ownBlock=some b∧W.heap.size≤b):V d e w1 base (fun k=>ok k∧some k≠v1.ownBlock) v xs:=V_map h (fun _ hf=>F_after hf hg hat)
theorem V_afterv (h:V d e W base (fun k=>ok k∧some k≠v.ownBlock) u xs) (hg:W.grownBy w1 v.ownBlock) (hat:v1.ownBlock=v.ownBlock ∨ ∃ b,v1.ownBlock=some b∧W.heap.size≤b):V d e w1 base (fun k=>ok k∧some k≠v1.ownBlock) u xs:=V_after h hg hat
theorem N_afterv (h:N d e W base (fun k=>ok k∧some k≠v.ownBlock) u xs) (hg:W.grownBy w1 v.ownBlock) (hat:v1.ownBlock=v.ownBlock ∨ ∃ b,v1.ownBlock=some b∧W.heap.size≤b):N d e w1 base (fun k=>ok k∧some k≠v1.ownBlock) u xs:=N_after h hg hat
theorem V_elder' (h:V d e W base ok v xs) (hbase:∀ k,u.ownBlock=some k→W.heap.size≤k) (hb:Below W.heap.size W w1):V d e w1 base (fun k=>ok k∧some k≠u.ownBlock) v xs:=V_map h (fun _ hf=>F_elder' hf hbase hb)
theorem V_elderB (h:V d e W base ok v xs) (a:Nat) (ha:W.heap.size≤a):V d e W base (fun k=>ok k∧k≠a) v xs:=V_map h (fun _ hf=>F_elderB hf a ha)
theorem V_get (h:V d e W base ok (.slice (some ad) n c) xs) (z:α) (i:Int) (h0:0≤i) (h1:i < n) :
  ∃ cs,cs.length=d.sz∧FK d W ok (xs.getD i.toNat z) cs∧∀ j u,cs[j]? = some u→W.cell? (ad.add (i.toNat * d.sz+j))=some u:=by
 obtain ⟨ad',cs,he,hcl,hK,hcc,_⟩:=F_get (V_F h) z i h0 h1
 injection he with he
 subst he
 exact ⟨cs,hcl,hK,hcc⟩
theorem F_cut (h:F d W ok A xs.length xs) (hm:m≤xs.length) (hc:xs.length≤c):F d W ok (if c=m then A else A.map (·.add (m * d.sz))) (xs.drop m).length (xs.drop m):=F_imp h (fun _ hC=>C_drop hC hm hc)
theorem FK_slice_open {l:List α} {cs:List Value} (h:FK (Kd.slice e d) W ok l cs):∃ A c,cs=[.slice A l.length c]∧l.length≤c∧F d W ok A l.length l:=by
 obtain ⟨A,c,rfl,hl,_⟩:=FK_now h
 refine ⟨A,c,rfl,hl,fun W' hW=>?_⟩
 obtain ⟨A',c',he,_,g'⟩:=h W' hW
 injection he with he _
 injection he with ha _ _
 rw [ha]
 exact g'
theorem FK_slice_mk {l:List α} (hl:l.length≤c) (hf:F d W ok A l.length l):FK (Kd.slice e d) W ok l [.slice A l.length c]:=fun W' hW=>⟨A,c,rfl,hl,hf W' hW⟩
theorem R_newM {M:Nat→Prop} (h:d.R e w1 W.heap.size ok v xs) (hle:w.heap.size≤W.heap.size) (hM:∀ k,w.heap.size≤k→M k):d.R e w1 W.heap.size (fun k=>M k∧ok k) v xs:=R_mono (R_bound h) (fun k hk=>⟨hM k (Nat.le_trans hle hk.2.1),hk.1⟩)
end
end Kd
end Go.Proofs.YtclollnicbcooaaGreatDoorW.PrintWords
end
namespace Go.Proofs.YtclollnicbcooaaGreatDoor.P
open Go.RowKit YtclollnicbcooaaGreatDoorW.PrintWords YtclollnicbcooaaGreatDoorW.PrintLast YtclollnicbcooaaGreatDoorW.PrintMore
section
attribute [local go_sem] max2_int min2_int max_two min_two max_three min_three max_four min_four   -- for this text's walks alone



def errW:Option Int→Value
 | none=>.nilIface
 | some c=>.iface 0 (.int .i64 c)
theorem info3:(Tryz.prog.info? 3).map (fun i=>(i.zero,i.size,i.bytes))=some (some (.int .i64 0),1,8):=by kernel_rfl
theorem info30:(Tryz.prog.info? 30).map (fun i=>(i.zero,i.size,i.bytes))=some (some (.slice none 0 0),1,24):=by kernel_rfl
theorem info48:(Tryz.prog.info? 48).map (fun i=>(i.zero,i.size,i.bytes))=some (some (.int .u64 0),1,8):=by kernel_rfl
theorem info49:(Tryz.prog.info? 49).map (fun i=>(i.zero,i.size,i.bytes))=some (some (.slice none 0 0),1,24):=by kernel_rfl
theorem info50:(Tryz.prog.info? 50).map (fun i=>(i.zero,i.size,i.bytes))=some (some (.slice none 0 0),1,24):=by kernel_rfl
theorem info53:(Tryz.prog.info? 53).map (fun i=>(i.zero,i.size,i.bytes))=some (some (.agg #[(.int .i64 0),(.int .i64 0)]),2,16):=by kernel_rfl
theorem info56:(Tryz.prog.info? 56).map (fun i=>(i.zero,i.size,i.bytes))=some (some (.int .i64 0),1,8):=by kernel_rfl
theorem info68:(Tryz.prog.info? 68).map (fun i=>(i.zero,i.size,i.bytes))=some (some (.agg #[(.string ⟨#[]⟩),(.int .i64 0),(.slice none 0 0),(.int .i64 0)]),4,56):=by kernel_rfl
theorem info73:(Tryz.prog.info? 73).map (fun i=>(i.zero,i.size,i.bytes))=some (some (.agg #[(.int .i64 0),(.int .i64 0)]),2,16):=by kernel_rfl
-- the values' own types
/-! #### struct type 65 -/
structure S65 where
 f0:ByteArray
 f1:ByteArray
 f2:Bool
 f3:Int
def z65:S65:=⟨(⟨#[]⟩:ByteArray),(⟨#[]⟩:ByteArray),false,(0:Int)⟩
def k65:Kd S65:=Kd.iso (Kd.pair Kd.string (Kd.pair Kd.string (Kd.pair Kd.bool (Kd.int .i64)))) (fun x:S65=>(x.f0,x.f1,x.f2,x.f3))
theorem k65_open {w:World} {x:S65} {cs:List Value} (h:k65.K w x cs):cs=[.string x.f0,.string x.f1,.bool x.f2,.int .i64 x.f3]:=by
 obtain ⟨_,_,rfl,rfl,⟨_,_,rfl,rfl,⟨_,_,rfl,rfl,rfl⟩⟩⟩:=h
 exact rfl
theorem k65_mk (w:World) (x:S65)  : k65.K w x [.string x.f0,.string x.f1,.bool x.f2,.int .i64 x.f3]:=⟨[.string x.f0],[.string x.f1,.bool x.f2,.int .i64 x.f3],rfl,rfl,⟨[.string x.f1],[.bool x.f2,.int .i64 x.f3],rfl,rfl,⟨[.bool x.f2],[.int .i64 x.f3],rfl,rfl,rfl⟩⟩⟩
def rd_T65 (xs:List S65) (i:Int):S65:=xs.getD i.toNat z65
theorem at_T65 {w:World} {A:Option Addr} {n:Nat} {xs:List S65} (h:Kd.C k65 w A n xs) (i:Int) (h0:0≤i) (h1:i < n):∃ ad , A=some ad∧w.cell? (ad.add (i.toNat * 4))=some (.string (rd_T65 xs i).f0)∧w.cell? ⟨(ad.add (i.toNat * 4)).block,(ad.add (i.toNat * 4)).off+1,none⟩=some (.string (rd_T65 xs i).f1)∧w.cell? ⟨(ad.add (i.toNat * 4)).block,(ad.add (i.toNat * 4)).off+2,none⟩=some (.bool (rd_T65 xs i).f2)∧w.cell? ⟨(ad.add (i.toNat * 4)).block,(ad.add (i.toNat * 4)).off+3,none⟩=some (.int .i64 (rd_T65 xs i).f3):=by
 obtain ⟨ad,c,e,_,hK,hc0⟩:=Kd.C_get h z65 i h0 h1
 have hc:∀ j u,c[j]? = some u→w.cell? (ad.add (i.toNat * 4+j))=some u:=hc0
 obtain rfl:=k65_open hK
 exact ⟨ad,e,hc 0 _ rfl,by rw [← add_field _ _ 1 (by omega)];exact hc 1 _ rfl,by rw [← add_field _ _ 2 (by omega)];exact hc 2 _ rfl,by rw [← add_field _ _ 3 (by omega)];exact hc 3 _ rfl⟩

def rd_L4 (xs:List (List S65)) (i:Int):(List S65):=xs.getD i.toNat ([]:List S65)
/-! #### struct type 73 -/
structure S73 where
 f0:Int
 f1:Int
def z73:S73:=⟨(0:Int),(0:Int)⟩
def k73:Kd S73:=Kd.iso (Kd.pair (Kd.int .i64) (Kd.int .i64)) (fun x:S73=>(x.f0,x.f1))
theorem k73_open {w:World} {x:S73} {cs:List Value} (h:k73.K w x cs):cs=[.int .i64 x.f0,.int .i64 x.f1]:=by
 obtain ⟨_,_,rfl,rfl,rfl⟩:=h
 exact rfl
theorem k73_mkM (w:World) (base:Nat) (ok:Nat→Prop) (x:S73)  : k73.M w base ok x [.int .i64 x.f0,.int .i64 x.f1]:=⟨[.int .i64 x.f0],[.int .i64 x.f1],rfl,rfl,rfl⟩
def rd_T73 (xs:List S73) (i:Int):S73:=xs.getD i.toNat z73
theorem at_T73 {w:World} {A:Option Addr} {n:Nat} {xs:List S73} (h:Kd.C k73 w A n xs) (i:Int) (h0:0≤i) (h1:i < n):∃ ad , A=some ad∧w.cell? (ad.add (i.toNat * 2))=some (.int .i64 (rd_T73 xs i).f0)∧w.cell? ⟨(ad.add (i.toNat * 2)).block,(ad.add (i.toNat * 2)).off+1,none⟩=some (.int .i64 (rd_T73 xs i).f1):=by
 obtain ⟨ad,c,e,_,hK,hc0⟩:=Kd.C_get h z73 i h0 h1
 have hc:∀ j u,c[j]? = some u→w.cell? (ad.add (i.toNat * 2+j))=some u:=hc0
 obtain rfl:=k73_open hK
 exact ⟨ad,e,hc 0 _ rfl,by rw [← add_field _ _ 1 (by omega)];exact hc 1 _ rfl⟩

def rd_L6 (xs:List (List S73)) (i:Int):(List S73):=xs.getD i.toNat ([]:List S73)
def rd_L7 (xs:List (List ByteArray)) (i:Int):(List ByteArray):=xs.getD i.toNat ([]:List ByteArray)
def rd_L8 (xs:List (List Int)) (i:Int):(List Int):=xs.getD i.toNat ([]:List Int)
/-! #### struct type 68 -/
structure S68 where
 f0:ByteArray
 f1:Int
 f2:(List Int)
 f3:Int
def z68:S68:=⟨(⟨#[]⟩:ByteArray),(0:Int),([]:List Int),(0:Int)⟩
def k68:Kd S68:=Kd.iso (Kd.pair Kd.string (Kd.pair (Kd.int .i64) (Kd.pair (Kd.slice 56 (Kd.int .i64)) (Kd.int .i64)))) (fun x:S68=>(x.f0,x.f1,x.f2,x.f3))
theorem k68_heap:Kd.Heap k68:=Kd.heap_iso _ (Kd.heap_pair Kd.heap_string (Kd.heap_pair (Kd.heap_int .i64) (Kd.heap_pair (Kd.heap_slice 56 (Kd.heap_int .i64)) (Kd.heap_int .i64))))
theorem k68_open {w:World} {x:S68} {cs:List Value} (h:k68.K w x cs):∃ A2 c2,cs=[.string x.f0,.int .i64 x.f1,.slice A2 x.f2.length c2,.int .i64 x.f3]∧x.f2.length≤c2∧(Kd.int .i64).C w A2 x.f2.length x.f2:=by
 obtain ⟨_,_,rfl,rfl,⟨_,_,rfl,rfl,⟨_,_,rfl,⟨A2,c2,rfl,l2,g2⟩,rfl⟩⟩⟩:=h
 exact ⟨A2,c2,rfl,l2,g2⟩
theorem k68_mk (w:World) (x:S68) {A2:Option Addr} {c2:Nat} (l2:x.f2.length≤c2) (g2:(Kd.int .i64).C w A2 x.f2.length x.f2):k68.K w x [.string x.f0,.int .i64 x.f1,.slice A2 x.f2.length c2,.int .i64 x.f3]:=⟨[.string x.f0],[.int .i64 x.f1,.slice A2 x.f2.length c2,.int .i64 x.f3],rfl,rfl,⟨[.int .i64 x.f1],[.slice A2 x.f2.length c2,.int .i64 x.f3],rfl,rfl,⟨[.slice A2 x.f2.length c2],[.int .i64 x.f3],rfl,⟨A2,c2,rfl,l2,g2⟩,rfl⟩⟩⟩
theorem k68_openF {W:World} {ok:Nat→Prop} {x:S68} {cs:List Value} (h:Kd.FK k68 W ok x cs):∃ A2 c2,cs=[.string x.f0,.int .i64 x.f1,.slice A2 x.f2.length c2,.int .i64 x.f3]∧x.f2.length≤c2∧Kd.F (Kd.int .i64) W ok A2 x.f2.length x.f2:=by
 obtain ⟨A2,c2,rfl,l2,_⟩:=k68_open (Kd.FK_now h)
 exact ⟨A2,c2,rfl,l2,(fun W' hW=>by obtain ⟨A2_,c2_,he,l2_,g2_⟩:=k68_open (h W' hW);injection (Option.some.inj (show some (Value.slice A2 x.f2.length c2)=some (Value.slice A2_ x.f2.length c2_) from congrArg (fun l=>l[2]?) he)) with ha_ _ _;rw [ha_];exact g2_)⟩
def rd_T68 (xs:List S68) (i:Int):S68:=xs.getD i.toNat z68
theorem at_T68 {w:World} {A:Option Addr} {n:Nat} {xs:List S68} (h:Kd.C k68 w A n xs) (i:Int) (h0:0≤i) (h1:i < n):∃ ad A2 c2,A=some ad∧w.cell? (ad.add (i.toNat * 4))=some (.string (rd_T68 xs i).f0)∧w.cell? ⟨(ad.add (i.toNat * 4)).block,(ad.add (i.toNat * 4)).off+1,none⟩=some (.int .i64 (rd_T68 xs i).f1)∧w.cell? ⟨(ad.add (i.toNat * 4)).block,(ad.add (i.toNat * 4)).off+2,none⟩=some (.slice A2 (rd_T68 xs i).f2.length c2)∧w.cell? ⟨(ad.add (i.toNat * 4)).block,(ad.add (i.toNat * 4)).off+3,none⟩=some (.int .i64 (rd_T68 xs i).f3)∧(rd_T68 xs i).f2.length≤c2∧(Kd.int .i64).C w A2 (rd_T68 xs i).f2.length (rd_T68 xs i).f2:=by
 obtain ⟨ad,c,e,_,hK,hc0⟩:=Kd.C_get h z68 i h0 h1
 have hc:∀ j u,c[j]? = some u→w.cell? (ad.add (i.toNat * 4+j))=some u:=hc0
 obtain ⟨A2,c2,rfl,l2,g2⟩:=k68_open hK
 exact ⟨ad,A2,c2,e,hc 0 _ rfl,by rw [← add_field _ _ 1 (by omega)];exact hc 1 _ rfl,by rw [← add_field _ _ 2 (by omega)];exact hc 2 _ rfl,by rw [← add_field _ _ 3 (by omega)];exact hc 3 _ rfl,l2,g2⟩

def rd_L10 (xs:List (List S68)) (i:Int):(List S68):=xs.getD i.toNat ([]:List S68)
/-! #### struct type 27 -/
structure S27 where
 f0:(List S65)
 f1:(List S73)
 f2:(List ByteArray)
 f3:(List S68)
 f4:Int
def z27:S27:=⟨([]:List S65),([]:List S73),([]:List ByteArray),([]:List S68),(0:Int)⟩
def k27:Kd S27:=Kd.iso (Kd.pair (Kd.slice 65 k65) (Kd.pair (Kd.slice 73 k73) (Kd.pair (Kd.slice 9 Kd.string) (Kd.pair (Kd.slice 68 k68) (Kd.int .i64))))) (fun x:S27=>(x.f0,x.f1,x.f2,x.f3,x.f4))
theorem k27_open {w:World} {x:S27} {cs:List Value} (h:k27.K w x cs):∃ A0 c0 A1 c1 A2 c2 A3 c3,cs=[.slice A0 x.f0.length c0,.slice A1 x.f1.length c1,.slice A2 x.f2.length c2,.slice A3 x.f3.length c3,.int .i64 x.f4]∧x.f0.length≤c0∧k65.C w A0 x.f0.length x.f0∧x.f1.length≤c1∧k73.C w A1 x.f1.length x.f1∧x.f2.length≤c2∧Kd.string.C w A2 x.f2.length x.f2∧x.f3.length≤c3∧k68.C w A3 x.f3.length x.f3:=by
 obtain ⟨_,_,rfl,⟨A0,c0,rfl,l0,g0⟩,⟨_,_,rfl,⟨A1,c1,rfl,l1,g1⟩,⟨_,_,rfl,⟨A2,c2,rfl,l2,g2⟩,⟨_,_,rfl,⟨A3,c3,rfl,l3,g3⟩,rfl⟩⟩⟩⟩:=h
 exact ⟨A0,c0,A1,c1,A2,c2,A3,c3,rfl,l0,g0,l1,g1,l2,g2,l3,g3⟩
def rd_T27 (xs:List S27) (i:Int):S27:=xs.getD i.toNat z27
/-! #### struct type 77 -/
structure S77 where
 f0:Int
 f1:Int
def z77:S77:=⟨(0:Int),(0:Int)⟩
def k77:Kd S77:=Kd.iso (Kd.pair (Kd.int .i64) (Kd.int .i64)) (fun x:S77=>(x.f0,x.f1))
theorem k77_open {w:World} {x:S77} {cs:List Value} (h:k77.K w x cs):cs=[.int .i64 x.f0,.int .i64 x.f1]:=by
 obtain ⟨_,_,rfl,rfl,rfl⟩:=h
 exact rfl
theorem k77_openM {w:World} {base:Nat} {ok:Nat→Prop} {x:S77} {cs:List Value} (h:k77.M w base ok x cs):cs=[.int .i64 x.f0,.int .i64 x.f1]:=by
 obtain ⟨_,_,rfl,rfl,rfl⟩:=h
 exact rfl
theorem k77_mk (w:World) (x:S77)  : k77.K w x [.int .i64 x.f0,.int .i64 x.f1]:=⟨[.int .i64 x.f0],[.int .i64 x.f1],rfl,rfl,rfl⟩
theorem k77_mkM (w:World) (base:Nat) (ok:Nat→Prop) (x:S77)  : k77.M w base ok x [.int .i64 x.f0,.int .i64 x.f1]:=⟨[.int .i64 x.f0],[.int .i64 x.f1],rfl,rfl,rfl⟩
def rd_T77 (xs:List S77) (i:Int):S77:=xs.getD i.toNat z77
theorem at_T77 {w:World} {A:Option Addr} {n:Nat} {xs:List S77} (h:Kd.C k77 w A n xs) (i:Int) (h0:0≤i) (h1:i < n):∃ ad , A=some ad∧w.cell? (ad.add (i.toNat * 2))=some (.int .i64 (rd_T77 xs i).f0)∧w.cell? ⟨(ad.add (i.toNat * 2)).block,(ad.add (i.toNat * 2)).off+1,none⟩=some (.int .i64 (rd_T77 xs i).f1):=by
 obtain ⟨ad,c,e,_,hK,hc0⟩:=Kd.C_get h z77 i h0 h1
 have hc:∀ j u,c[j]? = some u→w.cell? (ad.add (i.toNat * 2+j))=some u:=hc0
 obtain rfl:=k77_open hK
 exact ⟨ad,e,hc 0 _ rfl,by rw [← add_field _ _ 1 (by omega)];exact hc 1 _ rfl⟩

def rd_L15 (xs:List (List S77)) (i:Int):(List S77):=xs.getD i.toNat ([]:List S77)
theorem at_L15 {w:World} {A:Option Addr} {n:Nat} {xs:List (List S77)} (h:Kd.C (Kd.slice 77 k77) w A n xs) (i:Int) (h0:0≤i) (h1:i < n):∃ ad A0 c0,A=some ad∧w.cell? (ad.add i.toNat)=some (.slice A0 (rd_L15 xs i).length c0)∧(rd_L15 xs i).length≤c0∧k77.C w A0 (rd_L15 xs i).length (rd_L15 xs i):=by
 obtain ⟨ad,c,e,_,hK,hc0⟩:=Kd.C_get h ([]:List S77) i h0 h1
 have hc:∀ j u,c[j]? = some u→w.cell? (ad.add (i.toNat * 1+j))=some u:=hc0
 obtain ⟨A0,c0,rfl,l0,g0⟩:=hK
 exact ⟨ad,A0,c0,e,by have hq:=hc 0 _ rfl;rwa [Nat.mul_one,Nat.add_zero] at hq,l0,g0⟩

def rd_L16 (xs:List (List (List S77))) (i:Int):(List (List S77)):=xs.getD i.toNat ([]:List (List S77))
def rd_L17 (xs:List (List Int)) (i:Int):(List Int):=xs.getD i.toNat ([]:List Int)
theorem at_L17 {w:World} {A:Option Addr} {n:Nat} {xs:List (List Int)} (h:Kd.C (Kd.slice 3 (Kd.int .i64)) w A n xs) (i:Int) (h0:0≤i) (h1:i < n):∃ ad A0 c0,A=some ad∧w.cell? (ad.add i.toNat)=some (.slice A0 (rd_L17 xs i).length c0)∧(rd_L17 xs i).length≤c0∧(Kd.int .i64).C w A0 (rd_L17 xs i).length (rd_L17 xs i):=by
 obtain ⟨ad,c,e,_,hK,hc0⟩:=Kd.C_get h ([]:List Int) i h0 h1
 have hc:∀ j u,c[j]? = some u→w.cell? (ad.add (i.toNat * 1+j))=some u:=hc0
 obtain ⟨A0,c0,rfl,l0,g0⟩:=hK
 exact ⟨ad,A0,c0,e,by have hq:=hc 0 _ rfl;rwa [Nat.mul_one,Nat.add_zero] at hq,l0,g0⟩

def rd_L18 (xs:List (List (List Int))) (i:Int):(List (List Int)):=xs.getD i.toNat ([]:List (List Int))
/-! #### struct type 44 -/
structure S44 where
 f0:(List (List S77))
 f1:(List (List Int))
def z44:S44:=⟨([]:List (List S77)),([]:List (List Int))⟩
def k44:Kd S44:=Kd.iso (Kd.pair (Kd.slice 75 (Kd.slice 77 k77)) (Kd.slice 50 (Kd.slice 3 (Kd.int .i64)))) (fun x:S44=>(x.f0,x.f1))
def rd_T44 (xs:List S44) (i:Int):S44:=xs.getD i.toNat z44
def rd_L20 (xs:List (List Bool)) (i:Int):(List Bool):=xs.getD i.toNat ([]:List Bool)
def rd_L21 (xs:List (List Int)) (i:Int):(List Int):=xs.getD i.toNat ([]:List Int)
/-! #### struct type 96 -/
structure S96 where
 f0:(List S77)
 f1:(List Int)
def z96:S96:=⟨([]:List S77),([]:List Int)⟩
def k96:Kd S96:=Kd.iso (Kd.pair (Kd.slice 77 k77) (Kd.slice 48 (Kd.int .u64))) (fun x:S96=>(x.f0,x.f1))
theorem k96_open {w:World} {x:S96} {cs:List Value} (h:k96.K w x cs):∃ A0 c0 A1 c1,cs=[.slice A0 x.f0.length c0,.slice A1 x.f1.length c1]∧x.f0.length≤c0∧k77.C w A0 x.f0.length x.f0∧x.f1.length≤c1∧(Kd.int .u64).C w A1 x.f1.length x.f1:=by
 obtain ⟨_,_,rfl,⟨A0,c0,rfl,l0,g0⟩,⟨A1,c1,rfl,l1,g1⟩⟩:=h
 exact ⟨A0,c0,A1,c1,rfl,l0,g0,l1,g1⟩
theorem k96_mkM (w:World) (base:Nat) (ok:Nat→Prop) (x:S96) {v0:Value} (g0:k77.R 77 w base ok v0 x.f0) {v1:Value} (g1:(Kd.int .u64).R 48 w base ok v1 x.f1):k96.M w base ok x [v0,v1]:=⟨[v0],[v1],rfl,⟨v0,rfl,g0⟩,⟨v1,rfl,g1⟩⟩
def rd_T96 (xs:List S96) (i:Int):S96:=xs.getD i.toNat z96
theorem at_T96 {w:World} {A:Option Addr} {n:Nat} {xs:List S96} (h:Kd.C k96 w A n xs) (i:Int) (h0:0≤i) (h1:i < n):∃ ad A0 c0 A1 c1,A=some ad∧w.cell? (ad.add (i.toNat * 2))=some (.slice A0 (rd_T96 xs i).f0.length c0)∧w.cell? ⟨(ad.add (i.toNat * 2)).block,(ad.add (i.toNat * 2)).off+1,none⟩=some (.slice A1 (rd_T96 xs i).f1.length c1)∧(rd_T96 xs i).f0.length≤c0∧k77.C w A0 (rd_T96 xs i).f0.length (rd_T96 xs i).f0∧(rd_T96 xs i).f1.length≤c1∧(Kd.int .u64).C w A1 (rd_T96 xs i).f1.length (rd_T96 xs i).f1:=by
 obtain ⟨ad,c,e,_,hK,hc0⟩:=Kd.C_get h z96 i h0 h1
 have hc:∀ j u,c[j]? = some u→w.cell? (ad.add (i.toNat * 2+j))=some u:=hc0
 obtain ⟨A0,c0,A1,c1,rfl,l0,g0,l1,g1⟩:=k96_open hK
 exact ⟨ad,A0,c0,A1,c1,e,hc 0 _ rfl,by rw [← add_field _ _ 1 (by omega)];exact hc 1 _ rfl,l0,g0,l1,g1⟩

def rd_L23 (xs:List (List S96)) (i:Int):(List S96):=xs.getD i.toNat ([]:List S96)
/-! #### struct type 53 -/
structure S53 where
 f0:Int
 f1:Int
def z53:S53:=⟨(0:Int),(0:Int)⟩
def k53:Kd S53:=Kd.iso (Kd.pair (Kd.int .i64) (Kd.int .i64)) (fun x:S53=>(x.f0,x.f1))
theorem k53_open {w:World} {x:S53} {cs:List Value} (h:k53.K w x cs):cs=[.int .i64 x.f0,.int .i64 x.f1]:=by
 obtain ⟨_,_,rfl,rfl,rfl⟩:=h
 exact rfl
theorem k53_openM {w:World} {base:Nat} {ok:Nat→Prop} {x:S53} {cs:List Value} (h:k53.M w base ok x cs):cs=[.int .i64 x.f0,.int .i64 x.f1]:=by
 obtain ⟨_,_,rfl,rfl,rfl⟩:=h
 exact rfl
theorem k53_mkM (w:World) (base:Nat) (ok:Nat→Prop) (x:S53)  : k53.M w base ok x [.int .i64 x.f0,.int .i64 x.f1]:=⟨[.int .i64 x.f0],[.int .i64 x.f1],rfl,rfl,rfl⟩
def rd_T53 (xs:List S53) (i:Int):S53:=xs.getD i.toNat z53
theorem at_T53 {w:World} {A:Option Addr} {n:Nat} {xs:List S53} (h:Kd.C k53 w A n xs) (i:Int) (h0:0≤i) (h1:i < n):∃ ad , A=some ad∧w.cell? (ad.add (i.toNat * 2))=some (.int .i64 (rd_T53 xs i).f0)∧w.cell? ⟨(ad.add (i.toNat * 2)).block,(ad.add (i.toNat * 2)).off+1,none⟩=some (.int .i64 (rd_T53 xs i).f1):=by
 obtain ⟨ad,c,e,_,hK,hc0⟩:=Kd.C_get h z53 i h0 h1
 have hc:∀ j u,c[j]? = some u→w.cell? (ad.add (i.toNat * 2+j))=some u:=hc0
 obtain rfl:=k53_open hK
 exact ⟨ad,e,hc 0 _ rfl,by rw [← add_field _ _ 1 (by omega)];exact hc 1 _ rfl⟩

def rd_L25 (xs:List (List S53)) (i:Int):(List S53):=xs.getD i.toNat ([]:List S53)
theorem at_L25 {w:World} {A:Option Addr} {n:Nat} {xs:List (List S53)} (h:Kd.C (Kd.slice 53 k53) w A n xs) (i:Int) (h0:0≤i) (h1:i < n):∃ ad A0 c0,A=some ad∧w.cell? (ad.add i.toNat)=some (.slice A0 (rd_L25 xs i).length c0)∧(rd_L25 xs i).length≤c0∧k53.C w A0 (rd_L25 xs i).length (rd_L25 xs i):=by
 obtain ⟨ad,c,e,_,hK,hc0⟩:=Kd.C_get h ([]:List S53) i h0 h1
 have hc:∀ j u,c[j]? = some u→w.cell? (ad.add (i.toNat * 1+j))=some u:=hc0
 obtain ⟨A0,c0,rfl,l0,g0⟩:=hK
 exact ⟨ad,A0,c0,e,by have hq:=hc 0 _ rfl;rwa [Nat.mul_one,Nat.add_zero] at hq,l0,g0⟩

def rd_L26 (xs:List (List (List S53))) (i:Int):(List (List S53)):=xs.getD i.toNat ([]:List (List S53))
theorem at_L26 {w:World} {A:Option Addr} {n:Nat} {xs:List (List (List S53))} (h:Kd.C (Kd.slice 49 (Kd.slice 53 k53)) w A n xs) (i:Int) (h0:0≤i) (h1:i < n):∃ ad A0 c0,A=some ad∧w.cell? (ad.add i.toNat)=some (.slice A0 (rd_L26 xs i).length c0)∧(rd_L26 xs i).length≤c0∧(Kd.slice 53 k53).C w A0 (rd_L26 xs i).length (rd_L26 xs i):=by
 obtain ⟨ad,c,e,_,hK,hc0⟩:=Kd.C_get h ([]:List (List S53)) i h0 h1
 have hc:∀ j u,c[j]? = some u→w.cell? (ad.add (i.toNat * 1+j))=some u:=hc0
 obtain ⟨A0,c0,rfl,l0,g0⟩:=hK
 exact ⟨ad,A0,c0,e,by have hq:=hc 0 _ rfl;rwa [Nat.mul_one,Nat.add_zero] at hq,l0,g0⟩

/-! #### struct type 34 -/
structure S34 where
 f0:(List (List S53))
 f1:(List (List Int))
 f2:(List Int)
def z34:S34:=⟨([]:List (List S53)),([]:List (List Int)),([]:List Int)⟩
def k34:Kd S34:=Kd.iso (Kd.pair (Kd.slice 49 (Kd.slice 53 k53)) (Kd.pair (Kd.slice 50 (Kd.slice 3 (Kd.int .i64))) (Kd.slice 48 (Kd.int .u64)))) (fun x:S34=>(x.f0,x.f1,x.f2))
def rd_T34 (xs:List S34) (i:Int):S34:=xs.getD i.toNat z34
end
section
abbrev tf (a b:Nat):Array Bool:=(List.replicate a true ++ List.replicate b false).toArray
theorem sA {α:Type}:(∀ (l:List α) (i:Nat) (a:α),l.toArray.setIfInBounds i a=(l.set i a).toArray)∧(∀ (x a:α) (l:List α),(x :: l).set 0 a=a :: l)∧(∀ (x a:α) (l:List α) (n:Nat),(x :: l).set (n+1) a=x :: l.set n a):=⟨fun _ _ _=>List.setIfInBounds_toArray ..,fun _ _ _=>rfl,fun _ _ _ _=>rfl⟩
theorem jM {p:Prop} (h:p):Aside0 p:=⟨h⟩
theorem jA {w W:World} (h:Below w.heap.size w W) (o:Obj):Below w.heap.size w (W.alloc o):=below_alloc h o
theorem jN {B:Nat} {w W:World} (h:Below B w W) (n:Nat):Below B w (W.drewN n):=pw_below_drewN h n
theorem jD {base:Nat} {w W:World} (h:Below base w W):Below base w W.drew:=below_drew1 h
theorem jS {w W:World} {g j:Nat} {v:Value} (h:Below w.heap.size w W) (hg:w.heap.size≤g):Below w.heap.size w (W.setCell ⟨g,j,none⟩ v):=below_set h hg
theorem jL (w:World) (a:Addr) {u:Value} (h:w.cell? a=some u):a.block < w.heap.size:=World.block_lt_of_cell? w a h
theorem jC {w:World} {g:Nat} {t:TypeId} {cs:Array Value} (h:w.heap[g]? = some (.cells cs t)) (i:Nat):w.cell? ⟨g,i,none⟩=cs[i]?:=blk_cell h i
theorem jF {w:World} {g:Nat} {t:TypeId} {cs:Array Value} (h:w.heap[g]? = some (.cells cs t)) (i:Nat):w.frozen? ⟨g,i,none⟩=false:=blk_frozen h i
theorem jX {w:World} {g:Nat} {o:Obj} (h:w.heap[g]? = some o) (o':Obj):(w.alloc o').heap[g]? = some o:=blk_alloc h o'
theorem jY {w:World} {g:Nat} {o:Obj} (h:w.heap[g]? = some o) (n:Nat):(w.drewN n).heap[g]? = some o:=blk_drewN h n
theorem jZ {w:World} {g:Nat} {o:Obj} (h:w.heap[g]? = some o):w.drew.heap[g]? = some o:=blk_drew h
theorem jB {α:Type} {d:Kd α} {w w1:World} {xs:List α} {A:Option Addr} {n:Nat} (h:d.C w A n xs) (hb:Below w.heap.size w w1):d.C w1 A n xs:=Kd.C_below h hb
theorem jT {w W w2:World} (h:Below w.heap.size w W) (k:Below W.heap.size W w2):Below w.heap.size w w2:=below_step h k
theorem jW {w w1:World} {g:Nat} {o:Obj} (h:w.heap[g]? = some o) (hb:Below w.heap.size w w1):w1.heap[g]? = some o:=blk_below h hb
theorem jn {α:Type} {d:Kd α} {e base:Nat} {ok:Nat→Prop} {w:World} {v:Value} {xs:List α} (h:Kd.N d e w base ok v xs) (o:Obj):Kd.N d e (w.alloc o) base ok v xs:=Kd.N_alloc h o
theorem jo {α:Type} {d:Kd α} {e base:Nat} {ok:Nat→Prop} {w:World} {v:Value} {xs:List α} (h:Kd.N d e w base ok v xs) (m:Nat):Kd.N d e (w.drewN m) base ok v xs:=Kd.N_drewN h m
theorem jp {α:Type} {d:Kd α} {e base:Nat} {ok:Nat→Prop} {w:World} {v:Value} {xs:List α} (h:Kd.N d e w base ok v xs):Kd.N d e (w.drew) base ok v xs:=Kd.N_drew h
theorem jt {α:Type} {d:Kd α} {e base:Nat} {ok:Nat→Prop} {w:World} {v:Value} {xs:List α} (h:Kd.V d e w base ok v xs) (o:Obj):Kd.V d e (w.alloc o) base ok v xs:=Kd.V_alloc h o
theorem ju {α:Type} {d:Kd α} {e base:Nat} {ok:Nat→Prop} {w:World} {v:Value} {xs:List α} (h:Kd.V d e w base ok v xs) (m:Nat):Kd.V d e (w.drewN m) base ok v xs:=Kd.V_drewN h m
theorem jv {α:Type} {d:Kd α} {e base:Nat} {ok:Nat→Prop} {w:World} {v:Value} {xs:List α} (h:Kd.V d e w base ok v xs):Kd.V d e (w.drew) base ok v xs:=Kd.V_drew h

section
variable {P:Program} {ops:Array Oper} {Q:Exit→Act→World→Prop} {md:Region.Mode} {S:World→Prop} {ds:List Nat}
theorem pU {i:Nat} {N:Option Tmp} {oi:Oper} {v:Value} {fuel:Nat} {l:Array Bool} {a a':Act} {w:World} {T:Bool × List (List Nat × List Nat)} (l':Array Bool) (hT:Aside0 (rtab md ops=T)) (h:wpAnyLast P md ops Q S ds fuel l' a' w) (hi:ops[i]? = some oi:=by exact rfl) (hN:oi.dst=N:=by exact rfl) (hc:anyT T l.toList l'.toList i=true:=by kernel_rfl) (hQ:∀ c a w,Q (.panic c) (a.put oi.dst v) w→Q (.panic c) a w:=by exact fun _ _ _ h=>h) (hw:Region.wanted oi (yielded ops a.tmps)=true:=by rfl) (hy:∀ w,(execOp a.eval oi).run P w=.ok (.value v) w:=by (intro w';go_simp;with_reducible rfl)) (ha:a.put N v=a':=by (simp only [Act.put,sA,i64_w,i32_w];rfl)):wpAnyLast P md ops Q S ds (fuel+1) l a w:=pure_ l' hi hN (any_of hT.out hc) hQ (Or.inl ⟨hw,hy⟩) ha h
theorem pV {i:Nat} {N:Option Tmp} {oi:Oper} {fuel:Nat} {l:Array Bool} {a a':Act} {w:World} {T:Bool × List (List Nat × List Nat)} (l':Array Bool) (hT:Aside0 (rtab md ops=T)) (h:wpAnyLast P md ops Q S ds fuel l' a' w) (hi:ops[i]? = some oi:=by exact rfl) (hN:oi.dst=N:=by exact rfl) (hc:anyT T l.toList l'.toList i=true:=by kernel_rfl) (hQ:∀ c a w,Q (.panic c) (a.put oi.dst undef) w→Q (.panic c) a w:=by exact fun _ _ _ h=>h) (hw:Region.wanted oi (yielded ops a.tmps)=false:=by rfl) (ha:a.put N undef=a':=by (simp only [Act.put,sA,i64_w,i32_w];rfl)):wpAnyLast P md ops Q S ds (fuel+1) l a w:=pure_ l' hi hN (any_of hT.out hc) hQ (Or.inr ⟨hw,rfl⟩) ha h
theorem tU {i:Nat} {N:Option Tmp} {oi:Oper} {v:Value} {fuel:Nat} {l:Array Bool} {a a':Act} {w:World} {T:Bool × List (List Nat × List Nat)} {B:List Nat} (l':Array Bool) (hT:Aside0 (rtab md ops=T)) (hB:Aside0 (waitsOk T.2 B=true)) (hS:S w) (h:wpAnyLast P md ops Q S ds fuel l' a' w) (hi:ops[i]? = some oi:=by exact rfl) (hN:oi.dst=N:=by exact rfl) (hc:takeW T B ds l.toList l'.toList i=true:=by kernel_rfl) (hQ:∀ c a w,Q (.panic c) (a.put oi.dst v) w→Q (.panic c) a w:=by exact fun _ _ _ h=>h) (hw:Region.wanted oi (yielded ops a.tmps)=true:=by rfl) (hy:∀ w,S w→(execOp a.eval oi).run P w=.ok (.value v) w:=by (intro w' hs;repeat (have s0:=And.left hs;replace hs:=And.right hs);go_simp;with_reducible rfl)) (ha:a.put N v=a':=by (simp only [Act.put,sA,i64_w,i32_w];rfl)):wpAnyLast P md ops Q S ds (fuel+1) l a w:=take_ l' hi hN (take_ofW hT.out hB.out hc) hQ (Or.inl ⟨hw,hy⟩) hS ha h
theorem nU {fuel:Nat} {l:Array Bool} {a a':Act} {w:World} {N:Option Tmp} {v:Value} (h:wpAnyLast P md ops Q S ds fuel l a' w) (ha:a.put N v=a':=by (simp only [Act.put,sA,i64_w,i32_w];rfl)):wpAnyLast P md ops Q S ds fuel l (a.put N v) w:=norm_ ha h
end
theorem tK {p q:Prop} (b:q) (h:q→p:=by (intro h0;(with_reducible repeat (first | refine jY ?_ _ | refine jZ ?_ | refine jX ?_ _));exact h0)):p:=h b
theorem tR {p q:Prop} (b:q) (h:q→p:=by (intro h0;(with_reducible repeat (first | apply Kd.R_alloc | apply Kd.R_drewN | apply Kd.R_drew));exact h0)):p:=h b
theorem tN {p q:Prop} (b:q) (h:q→p:=by (intro h0;(with_reducible repeat (first | apply jn | apply jo | apply jp));exact h0)):p:=h b
theorem tB {p q:Prop} (b:q) (h:q→p:=by (intro h0;repeat (first | (with_reducible first | exact h0 | apply jA | apply jN | apply jD) | exact h0))):p:=h b
theorem tE {p q:Prop} (b:q) (h:q→p:=by (intro h0;repeat (first | (with_reducible first | exact h0 | apply jA | apply jN | apply jD | refine jS ?_ (Aside0.out (by assumption))) | exact h0))):p:=h b
theorem jC5 {w:World} {g:Nat} {a b c d e:Value} {t:TypeId} (h:w.heap[g]? = some (.cells #[a,b,c,d,e] t (0,0))):w.cell? ⟨g,0,none⟩=some a∧w.cell? ⟨g,1,none⟩=some b∧w.cell? ⟨g,2,none⟩=some c∧w.cell? ⟨g,3,none⟩=some d∧w.cell? ⟨g,4,none⟩=some e:=⟨(blk_cell h 0).trans rfl,(blk_cell h 1).trans rfl,(blk_cell h 2).trans rfl,(blk_cell h 3).trans rfl,(blk_cell h 4).trans rfl⟩
theorem jC3 {w:World} {g:Nat} {a b c:Value} {t:TypeId} (h:w.heap[g]? = some (.cells #[a,b,c] t (0,0))):w.cell? ⟨g,0,none⟩=some a∧w.cell? ⟨g,1,none⟩=some b∧w.cell? ⟨g,2,none⟩=some c:=⟨(blk_cell h 0).trans rfl,(blk_cell h 1).trans rfl,(blk_cell h 2).trans rfl⟩
theorem jC2 {w:World} {g:Nat} {a b:Value} {t:TypeId} (h:w.heap[g]? = some (.cells #[a,b] t (0,0))):w.cell? ⟨g,0,none⟩=some a∧w.cell? ⟨g,1,none⟩=some b:=⟨(blk_cell h 0).trans rfl,(blk_cell h 1).trans rfl⟩
theorem tC {p q:Prop} (b:q) (h:q→p:=by (intro h0;repeat (first | exact h0 | (with_reducible refine Kd.C_alloc ?_ _) | (with_reducible refine Kd.C_drewN ?_ _) | (with_reducible refine Kd.C_drew ?_)))):p:=h b
theorem tM {p:Prop} (h:p:=by ((try simp only [List.map_toArray,List.map_cons,List.map_nil]);first | done | rfl | (simp only [List.length_drop,List.length_take];rfl))):p:=h
theorem tD {p:Prop} (h:p:=by first | (with_reducible assumption) | assumption):p:=h
theorem tZ {p:Prop} (h:p:=by first | rfl | (simp;done) | (simp [*];done)):p:=h
end
theorem info4:(Tryz.prog.info? 4).map (fun i=>(i.zero,i.size,i.bytes))=some (some (.bool false),1,1):=by kernel_rfl
theorem info77:(Tryz.prog.info? 77).map (fun i=>(i.zero,i.size,i.bytes))=some (some (.agg #[(.int .i64 0),(.int .i64 0)]),2,16):=by kernel_rfl
end Go.Proofs.YtclollnicbcooaaGreatDoor.P
section
namespace Go.Proofs.YtclollnicbcooaaGreatDoor.St

abbrev Itm:=Int × Int
structure Gr where
 start:Int
 ps:List (Int × List Int)

def rightL (g:Gr) (p:Int):Option (List Int):=if p=-1 then some [-1 - g.start] else if 0≤p∧p < g.ps.length then some (g.ps.getD p.toNat (0,[])).2 else none
def isI (g:Gr) (x:Itm):Bool:=match rightL g x.1 with | some r=>decide (0≤x.2∧x.2≤r.length) | none=>false
def behindL (g:Gr) (x:Itm):Option Int:=match rightL g x.1 with | some r=>if 0≤x.2∧x.2 < r.length then some (r.getD x.2.toNat 0) else none | none=>none
def nexts (g:Gr) (x:Itm):List Itm:=match behindL g x with
 | some s=>if s < 0 then (List.range g.ps.length).filterMap fun p=>if (g.ps.getD p (0,[])).1=-1 - s then some ((p:Int),0) else none else []
 | none=>[]

inductive Cl (g:Gr) (L:Itm→Prop):Itm→Prop where
 | base (x:Itm):L x→isI g x=true→Cl g L x
 | next (x y:Itm):Cl g L x→y ∈ nexts g x→Cl g L y
def Sp (g:Gr) (L:Itm→Prop) (s:Int) (y:Itm):Prop:=∃ x,L x∧behindL g x=some s∧y=(x.1,x.2+1)

theorem nexts_is (g:Gr) (x y:Itm) (h:y ∈ nexts g x):isI g y=true:=by
 unfold nexts at h
 split at h
 ·split at h
  ·obtain ⟨p,hp,hq⟩:=List.mem_filterMap.1 h
   split at hq
   ·injection hq with hq
    subst hq
    have hp:=List.mem_range.1 hp
    unfold isI rightL
    rw [if_neg (by simp only;omega),if_pos (by constructor <;> simp only <;> omega)]
    simp only
    exact decide_eq_true ⟨Int.le_refl _,by omega⟩
   ·cases hq
  ·cases h
 ·cases h
theorem cl_is (g:Gr) (L:Itm→Prop) (x:Itm) (h:Cl g L x):isI g x=true:=by
 cases h with
 | base _ _ h=>exact h
 | next y _ _ h=>exact nexts_is g y x h
/-! ### Rows that rise -/
def lt (a b:Itm):Prop:=a.1 < b.1 ∨ a.1=b.1∧a.2 < b.2
theorem lt_irr (a:Itm):¬ lt a a:=by unfold lt;omega
theorem lt_trans {a b c:Itm} (h1:lt a b) (h2:lt b c):lt a c:=by unfold lt at *;omega
theorem lt_cases (a b:Itm):lt a b ∨ a=b ∨ lt b a:=by
 unfold lt
 by_cases h1:a.1 < b.1
 ·exact .inl (.inl h1)
 ·by_cases h2:b.1 < a.1
  ·exact .inr (.inr (.inl h2))
  ·have e:a.1=b.1:=by omega
   by_cases h3:a.2 < b.2
   ·exact .inl (.inr ⟨e,h3⟩)
   ·by_cases h4:b.2 < a.2
    ·exact .inr (.inr (.inr ⟨e.symm,h4⟩))
    ·exact .inr (.inl (Prod.ext e (by omega)))
theorem rise_ext:∀ (l m:List Itm),l.Pairwise lt→m.Pairwise lt→(∀ x,x ∈ l ↔ x ∈ m)→l=m
 | [],[],_,_,_=>rfl
 | [],b :: m,_,_,h=>by have:=(h b).2 (by simp);cases this
 | a :: l,[],_,_,h=>by have:=(h a).1 (by simp);cases this
 | a :: l,b :: m,hl,hm,h=>by
  rw [List.pairwise_cons] at hl hm
  have hab:a=b:=by
   rcases lt_cases a b with h1 | h1 | h1
   ·exfalso
    rcases List.mem_cons.1 ((h a).1 (by simp)) with e | e
    ·rw [e] at h1;exact lt_irr b h1
    ·exact lt_irr a (lt_trans h1 (hm.1 a e))
   ·exact h1
   ·exfalso
    rcases List.mem_cons.1 ((h b).2 (by simp)) with e | e
    ·rw [e] at h1;exact lt_irr a h1
    ·exact lt_irr b (lt_trans h1 (hl.1 b e))
  subst hab
  rw [rise_ext l m hl.2 hm.2 fun x=>?_]
  constructor
  ·intro hx
   rcases List.mem_cons.1 ((h x).1 (by simp [hx])) with e | e
   ·subst e;exact absurd (hl.1 x hx) (lt_irr x)
   ·exact e
  ·intro hx
   rcases List.mem_cons.1 ((h x).2 (by simp [hx])) with e | e
   ·subst e;exact absurd (hm.1 x hx) (lt_irr x)
   ·exact e

/-! ### The queue: what the program does -/
def clQ (g:Gr):Nat→List Itm→List Itm→Option (List Itm)
 | 0,_,_=>none
 | _+1,out,[]=>some out
 | k+1,out,x :: q=>if x ∈ out ∨ isI g x=false then clQ g k out q else clQ g k (out ++ [x]) (q ++ nexts g x)

theorem clQ_is (g:Gr) (L:List Itm):∀ (k:Nat) (out q r:List Itm),(∀ y ∈ out,Cl g (· ∈ L) y)→(∀ y ∈ q,isI g y=true→Cl g (· ∈ L) y)→(∀ y ∈ L,isI g y=true→y ∈ out ∨ y ∈ q)→(∀ y ∈ out,∀ z ∈ nexts g y,z ∈ out ∨ z ∈ q)→out.Nodup →
  clQ g k out q=some r→r.Nodup∧∀ x,x ∈ r ↔ Cl g (· ∈ L) x:=by
 intro k
 induction k with
 | zero=>intro out q r _ _ _ _ _ h;cases h
 | succ k ih =>
  intro out q r h1 h2 h3 h4 hn h
  cases q with
  | nil =>
   rw [clQ] at h
   injection h with h
   subst h
   refine ⟨hn,fun x=>⟨h1 x,fun hx=>?_⟩⟩
   induction hx with
   | base x a b=>exact (h3 x a b).elim id fun e=>by cases e
   | next x y _ b ih'=>exact (h4 x ih' y b).elim id fun e=>by cases e
  | cons x q =>
   rw [clQ] at h
   split at h
   ·rename_i hx
    refine ih out q r h1 (fun y hy=>h2 y (by simp [hy])) (fun y hy hi=>?_) (fun y hy z hz=>?_) hn h
    ·rcases h3 y hy hi with e | e
     ·exact .inl e
     ·rcases List.mem_cons.1 e with e | e
      ·subst e
       rcases hx with hx | hx
       ·exact .inl hx
       ·rw [hx] at hi;cases hi
      ·exact .inr e
    ·rcases h4 y hy z hz with e | e
     ·exact .inl e
     ·rcases List.mem_cons.1 e with e | e
      ·subst e
       rcases hx with hx | hx
       ·exact .inl hx
       ·rw [nexts_is g y z hz] at hx;cases hx
      ·exact .inr e
   ·rename_i hx
    rw [not_or] at hx
    have hi:isI g x=true:=by cases hc:isI g x;exact absurd hc hx.2;rfl
    have hcx:=h2 x (by simp) hi
    refine ih _ _ r (fun y hy=>?_) (fun y hy hyi=>?_) (fun y hy hyi=>?_) (fun y hy z hz=>?_) ?_ h
    ·rcases List.mem_append.1 hy with e | e
     ·exact h1 y e
     ·rw [List.mem_singleton] at e;subst e;exact hcx
    ·rcases List.mem_append.1 hy with e | e
     ·exact h2 y (by simp [e]) hyi
     ·exact .next x y hcx e
    ·rcases h3 y hy hyi with e | e
     ·exact .inl (by simp [e])
     ·rcases List.mem_cons.1 e with e | e
      ·exact .inl (by simp [e])
      ·exact .inr (by simp [e])
    ·rcases List.mem_append.1 hy with e | e
     ·rcases h4 y e z hz with f | f
      ·exact .inl (by simp [f])
      ·rcases List.mem_cons.1 f with f | f
       ·exact .inl (by simp [f])
       ·exact .inr (by simp [f])
     ·rw [List.mem_singleton] at e;subst e
      exact .inr (by simp [hz])
    ·rw [List.nodup_append]
     exact ⟨hn,by simp,fun a ha b hb=>by rw [List.mem_singleton] at hb;subst hb;intro e;subst e;exact hx.1 ha⟩

theorem clQ_ends (g:Gr) (A:List Itm) (hA:∀ x,isI g x=true→x ∈ A):∀ (n:Nat) (out q:List Itm) (k:Nat),(A.filter fun x=>decide (x ∉ out)).length * (g.ps.length+1)+q.length=n→n < k→∃ r,clQ g k out q=some r:=by
 intro n
 induction n using Nat.strongRecOn with
 | _ n ih =>
  intro out q k hn hk
  obtain ⟨k,rfl⟩:∃ j,k=j+1:=⟨k - 1,by omega⟩
  cases q with
  | nil=>exact ⟨out,rfl⟩
  | cons x q =>
   rw [clQ]
   rw [List.length_cons] at hn
   split
   ·exact ih (n - 1) (by omega) out q k (by omega) (by omega)
   ·rename_i hx
    rw [not_or] at hx
    have hi:isI g x=true:=by cases hc:isI g x;exact absurd hc hx.2;rfl
    have hlt:(A.filter fun y=>decide (y ∉ out ++ [x])).length < (A.filter fun y=>decide (y ∉ out)).length:=by
     have e:(A.filter fun y=>decide (y ∉ out ++ [x]))=(A.filter fun y=>decide (y ∉ out)).filter fun y=>decide (y≠x):=by
      rw [List.filter_filter]
      congr 1
      funext y
      rw [Bool.eq_iff_iff]
      simp [and_comm]
     rw [e]
     refine List.length_filter_lt_length_iff_exists.2 ⟨x,List.mem_filter.2 ⟨hA x hi,decide_eq_true hx.1⟩,by simp⟩
    have hnx:(nexts g x).length≤g.ps.length:=by
     unfold nexts
     split
     ·split
      ·exact Nat.le_trans (List.length_filterMap_le _ _) (by simp)
      ·simp
     ·simp
    have hm:((A.filter fun y=>decide (y ∉ out ++ [x])).length+1) * (g.ps.length+1)≤(A.filter fun y=>decide (y ∉ out)).length * (g.ps.length+1):=Nat.mul_le_mul_right _ hlt
    rw [Nat.add_mul,Nat.one_mul] at hm
    exact ih _ (by rw [List.length_append];omega) (out ++ [x]) (q ++ nexts g x) k rfl (by rw [List.length_append];omega)
end Go.Proofs.YtclollnicbcooaaGreatDoor.St
end
section
namespace Go.Proofs.YtclollnicbcooaaGreatDoor.St

variable {α:Type} [DecidableEq α]

def numb (K:List (List α)) (l:List α):Int × List (List α):=if l=[] then (-1,K) else match K.findIdx? (fun k=>decide (k=l)) with | some i=>((i:Int),K) | none=>((K.length:Int),K ++ [l])
def rowL (f:Int→List α):List Int→List (List α)→List Int × List (List α)
 | [],K=>([],K)
 | s :: ss,K=>((numb K (f s)).1 :: (rowL f ss (numb K (f s)).2).1,(rowL f ss (numb K (f s)).2).2)
def buildL (S:List α→Int→List α) (syms:List Int) (most:Nat):Nat→Nat→List (List α)→List (List Int)→Option (Option (List (List α) × List (List Int)))
 | 0,_,_,_=>none
 | k+1,i,K,N=>match K[i]? with
  | none=>some (some (K,N))
  | some c=>if most < (rowL (S c) syms K).2.length then some none else buildL S syms most k (i+1) (rowL (S c) syms K).2 (N ++ [(rowL (S c) syms K).1])

def NumOf (K:List (List α)) (l:List α) (n:Int):Prop:=(l=[]∧n=-1) ∨ (l≠[]∧∃ t:Nat,n=(t:Int)∧K[t]? = some l)
theorem NumOf.more {K:List (List α)} {l:List α} {n:Int} (h:NumOf K l n) (M:List (List α)):NumOf (K ++ M) l n:=by
 rcases h with h | ⟨h1,t,h2,h3⟩
 ·exact .inl h
 ·refine .inr ⟨h1,t,h2, ?_⟩
  obtain ⟨hlt,_⟩:=List.getElem?_eq_some_iff.1 h3
  rw [List.getElem?_append_left hlt];exact h3

theorem numb_is (K:List (List α)) (l:List α):∃ M,(numb K l).2=K ++ M∧NumOf (K ++ M) l (numb K l).1∧(∀ x ∈ M,x=l)∧(K.Nodup→(K ++ M).Nodup)∧(∀ x ∈ M,x≠[]):=by
 unfold numb
 by_cases h:l=[]
 ·rw [if_pos h]
  exact ⟨[],by simp,.inl ⟨h,rfl⟩,by simp,by simp,by simp⟩
 ·rw [if_neg h]
  cases hf:K.findIdx? (fun k=>decide (k=l)) with
  | some i =>
   obtain ⟨hi,hp,_⟩:=List.findIdx?_eq_some_iff_getElem.1 hf
   refine ⟨[],by simp,.inr ⟨h,i,rfl, ?_⟩,by simp,by simp,by simp⟩
   rw [List.append_nil,List.getElem?_eq_getElem hi]
   exact congrArg some (of_decide_eq_true hp)
  | none =>
   have hn:=List.findIdx?_eq_none_iff.1 hf
   refine ⟨[l],rfl,.inr ⟨h,K.length,rfl,by simp⟩,by simp,fun hd=>?_,by simp [h]⟩
   rw [List.nodup_append]
   refine ⟨hd,by simp,fun a ha b hb e=>?_⟩
   rw [List.mem_singleton] at hb
   subst hb;subst e
   have:=hn a ha
   simp at this

theorem rowL_is (f:Int→List α):∀ (ss:List Int) (K:List (List α)),∃ M,(rowL f ss K).2=K ++ M∧(rowL f ss K).1.length=ss.length ∧
  (∀ (j:Nat) (s:Int),ss[j]? = some s→∃ n:Int,(rowL f ss K).1[j]? = some n∧NumOf (K ++ M) (f s) n)∧(∀ x ∈ M,∃ s ∈ ss,x=f s)∧(K.Nodup→(K ++ M).Nodup)∧(∀ x ∈ M,x≠[])
 | [],K=>⟨[],by simp [rowL],rfl,fun j s h=>by simp at h,by simp,by simp,by simp⟩
 | s :: ss,K=>by
  obtain ⟨M1,a1,a2,a3,a4,a5⟩:=numb_is K (f s)
  obtain ⟨M2,b1,b2,b3,b4,b5,b6⟩:=rowL_is f ss (K ++ M1)
  refine ⟨M1 ++ M2, ?_, ?_, ?_, ?_, ?_, ?_⟩
  ·rw [rowL,a1,b1,List.append_assoc]
  ·rw [rowL,a1,List.length_cons,List.length_cons,b2]
  ·intro j t hj
   rw [rowL,a1]
   cases j with
   | zero =>
    simp only [List.getElem?_cons_zero,Option.some.injEq] at hj ⊢
    subst hj
    exact ⟨_,rfl,by rw [← List.append_assoc];exact a2.more M2⟩
   | succ j =>
    simp only [List.getElem?_cons_succ] at hj ⊢
    rw [← List.append_assoc]
    exact b3 j t hj
  ·intro x hx
   rcases List.mem_append.1 hx with h | h
   ·exact ⟨s,by simp,a3 x h⟩
   ·obtain ⟨t,h1,h2⟩:=b4 x h
    exact ⟨t,by simp [h1],h2⟩
  ·intro hd
   rw [← List.append_assoc]
   exact b5 (a4 hd)
  ·intro x hx
   rcases List.mem_append.1 hx with h | h
   ·exact a5 x h
   ·exact b6 x h

structure Built (S:List α→Int→List α) (syms:List Int) (k0:List α) (K:List (List α)) (N:List (List Int)):Prop where
 first:K[0]? = some k0
 apart:K.Nodup
 full:∀ (j:Nat) (x:List α),K[j]? = some x→j≠0→x≠[]
 come:∀ (j:Nat) (x:List α),K[j]? = some x→j≠0→∃ (i:Nat) (c:List α) (s:Int),i < j∧i < N.length∧K[i]? = some c∧s ∈ syms∧x=S c s
 few:N.length≤K.length
 goes:∀ (i:Nat) (c:List α),i < N.length→K[i]? = some c→∃ row:List Int,N[i]? = some row∧row.length=syms.length∧∀ (j:Nat) (s:Int),syms[j]? = some s→∃ n:Int,row[j]? = some n∧NumOf K (S c s) n

theorem Built.start (S:List α→Int→List α) (syms:List Int) (k0:List α):Built S syms k0 [k0] [] where
 first:=rfl
 apart:=by simp
 full:=fun j x h hj=>by cases j with | zero=>exact absurd rfl hj | succ j=>simp at h
 come:=fun j x h hj=>by cases j with | zero=>exact absurd rfl hj | succ j=>simp at h
 few:=by simp
 goes:=fun i c h=>absurd h (Nat.not_lt_zero i)

theorem Built.step {S:List α→Int→List α} {syms:List Int} {k0:List α} {K:List (List α)} {N:List (List Int)} (h:Built S syms k0 K N) (c:List α) (hc:K[N.length]? = some c):Built S syms k0 (rowL (S c) syms K).2 (N ++ [(rowL (S c) syms K).1]):=by
 obtain ⟨M,r1,r2,r3,r4,r5,r6⟩:=rowL_is (S c) syms K
 obtain ⟨hlt,_⟩:=List.getElem?_eq_some_iff.1 hc
 rw [r1]
 have old:∀ (j:Nat) (x:List α),K[j]? = some x→(K ++ M)[j]? = some x:=fun j x hj=>by
  obtain ⟨hl,_⟩:=List.getElem?_eq_some_iff.1 hj
  rw [List.getElem?_append_left hl];exact hj
 have new:∀ (j:Nat) (x:List α),(K ++ M)[j]? = some x→K[j]? = some x ∨ (K.length≤j∧x ∈ M):=fun j x hj=>by
  rcases Nat.lt_or_ge j K.length with hl | hl
  ·rw [List.getElem?_append_left hl] at hj;exact .inl hj
  ·rw [List.getElem?_append_right hl] at hj;exact .inr ⟨hl,List.mem_of_getElem? hj⟩
 have hN:(N ++ [(rowL (S c) syms K).1]).length=N.length+1:=by simp
 refine ⟨old 0 _ h.first,r5 h.apart,fun j x hj hn=>?_,fun j x hj hn=>?_, ?_,fun i d hi hd=>?_⟩
 ·rcases new j x hj with e | e
  ·exact h.full j x e hn
  ·exact r6 x e.2
 ·rcases new j x hj with e | e
  ·obtain ⟨i,d,s,h0,h1,h2,h3,h4⟩:=h.come j x e hn
   exact ⟨i,d,s,h0,by omega,old i d h2,h3,h4⟩
  ·obtain ⟨s,h1,h2⟩:=r4 x e.2
   exact ⟨N.length,c,s,by omega,by omega,old _ c hc,h1,h2⟩
 ·rw [hN,List.length_append];omega
 ·rw [hN] at hi
  rcases Nat.lt_or_ge i N.length with hl | hl
  ·have hik:i < K.length:=by have:=h.few;omega
   rw [List.getElem?_append_left hik] at hd
   obtain ⟨row,g1,g2,g3⟩:=h.goes i d hl hd
   refine ⟨row,by rw [List.getElem?_append_left hl];exact g1,g2,fun j s hj=>?_⟩
   obtain ⟨n,n1,n2⟩:=g3 j s hj
   exact ⟨n,n1,n2.more M⟩
  ·obtain rfl:i=N.length:=by omega
   rw [old _ c hc] at hd
   injection hd with hd
   subst hd
   exact ⟨_,by simp,r2,r3⟩

theorem buildL_is (S:List α→Int→List α) (syms:List Int) (most:Nat) (k0:List α):∀ (k:Nat) (K:List (List α)) (N:List (List Int)) (R:List (List α) × List (List Int)),Built S syms k0 K N→buildL S syms most k N.length K N=some (some R)→Built S syms k0 R.1 R.2∧R.2.length=R.1.length:=by
 intro k
 induction k with
 | zero=>intro K N R _ h;cases h
 | succ k ih =>
  intro K N R hB h
  rw [buildL] at h
  cases hc:K[N.length]? with
  | none =>
   rw [hc] at h
   injection h with h;injection h with h
   subst h
   have:=List.getElem?_eq_none_iff.1 hc
   exact ⟨hB,Nat.le_antisymm hB.few this⟩
  | some c =>
   rw [hc] at h
   simp only at h
   split at h
   ·cases h
   ·refine ih _ _ R (hB.step c hc) ?_
    rw [List.length_append,List.length_singleton]
    exact h

theorem buildL_ends (S:List α→Int→List α) (syms:List Int) (most:Nat):∀ (d k i:Nat) (K:List (List α)) (N:List (List Int)),most+1 - i≤d→d < k→K.length≤most+1→∃ r,buildL S syms most k i K N=some r:=by
 intro d
 induction d with
 | zero =>
  intro k i K N hd hk hK
  obtain ⟨k,rfl⟩:∃ j,k=j+1:=⟨k - 1,by omega⟩
  rw [buildL,List.getElem?_eq_none (by omega)]
  exact ⟨_,rfl⟩
 | succ d ih =>
  intro k i K N hd hk hK
  obtain ⟨k,rfl⟩:∃ j,k=j+1:=⟨k - 1,by omega⟩
  rw [buildL]
  cases K[i]? with
  | none=>exact ⟨_,rfl⟩
  | some c =>
   simp only
   split
   ·exact ⟨_,rfl⟩
   ·exact ih k (i+1) _ _ (by omega) (by omega) (by omega)
end Go.Proofs.YtclollnicbcooaaGreatDoor.St
end
namespace Go.Proofs.YtclollnicbcooaaGreatDoor.St
open Go.Lib
theorem dg_nat (u:Nat):(UInt8.ofNat (48+u % 10)).toNat=48+u % 10:=by
 rw [UInt8.toNat_ofNat',Nat.mod_eq_of_lt (by omega)]
theorem dec_step (u:Nat) (h:¬ u < 10):decDigits u=decDigits (u / 10) ++ [UInt8.ofNat (48+u % 10)]:=by rw [decDigits,dif_neg h]
theorem dec_small (u:Nat) (h:u < 10):decDigits u=[UInt8.ofNat (48+u % 10)]:=by rw [decDigits,dif_pos h,Nat.mod_eq_of_lt h]
def valD (l:List UInt8):Nat:=l.foldl (fun n c=>n * 10+(c.toNat - 48)) 0
theorem dec_val (u:Nat):valD (decDigits u)=u:=by
 induction u using Nat.strongRecOn with
 | _ u ih =>
  by_cases h:u < 10
  ·rw [dec_small u h]
   show 0 * 10+((UInt8.ofNat (48+u % 10)).toNat - 48)=u
   rw [dg_nat];omega
  ·rw [dec_step u h]
   have:=ih (u / 10) (by omega)
   unfold valD at this ⊢
   rw [List.foldl_append,this]
   show u / 10 * 10+((UInt8.ofNat (48+u % 10)).toNat - 48)=u
   rw [dg_nat];omega
theorem dec_inj {u v:Nat} (h:decDigits u=decDigits v):u=v:=by rw [← dec_val u,h,dec_val]
theorem dec_mem (u:Nat):∀ b ∈ decDigits u,48≤b.toNat∧b.toNat≤57:=by
 induction u using Nat.strongRecOn with
 | _ u ih =>
  intro b hb
  by_cases h:u < 10
  ·rw [dec_small u h,List.mem_singleton] at hb
   rw [hb,dg_nat];omega
  ·rw [dec_step u h] at hb
   rcases List.mem_append.1 hb with hb | hb
   ·exact ih (u / 10) (by omega) b hb
   ·rw [List.mem_singleton] at hb
    rw [hb,dg_nat];omega
theorem itoa_mem (n:Int) (b:UInt8) (hb:b ∈ itoa n):b.toNat=45 ∨ (48≤b.toNat∧b.toNat≤57):=by
 unfold itoa at hb
 split at hb
 ·rcases List.mem_cons.1 hb with rfl | hb
  ·exact .inl rfl
  ·exact .inr (dec_mem _ b hb)
 ·exact .inr (dec_mem _ b hb)
theorem itoa_inj {m n:Int} (h:itoa m=itoa n):m=n:=by
 unfold itoa at h
 have no:∀ (u:Nat) (l:List UInt8),decDigits u≠45 :: l:=fun u l e=>by
  have:=dec_mem u 45 (by rw [e];simp)
  have e2:(45:UInt8).toNat=45:=rfl
  omega
 split at h <;> split at h
 ·injection h with _ h
  have:=dec_inj h
  omega
 ·exact absurd h.symm (no _ _)
 ·exact absurd h (no _ _)
 ·have:=dec_inj h
  omega

theorem split_at (c:UInt8):∀ (a b x y:List UInt8),c ∉ a→c ∉ b→a ++ c :: x=b ++ c :: y→a=b∧x=y
 | [],[],x,y,_,_,h=>by injection h with _ h;exact ⟨rfl,h⟩
 | [],d :: b,x,y,_,hb,h=>by injection h with h _;subst h;exact absurd (by simp) hb
 | d :: a,[],x,y,ha,_,h=>by injection h with h _;subst h;exact absurd (by simp) ha
 | d :: a,e :: b,x,y,ha,hb,h=>by
  injection h with h1 h2
  obtain ⟨r1,r2⟩:=split_at c a b x y (fun hc=>ha (by simp [hc])) (fun hc=>hb (by simp [hc])) h2
  exact ⟨by rw [h1,r1],r2⟩

def pieceL (x:Itm):List UInt8:=itoa x.1 ++ 46 :: (itoa x.2 ++ [32])
def keyL:List Itm→List UInt8
 | []=>[]
 | x :: l=>pieceL x ++ keyL l
theorem keyL_app (a b:List Itm):keyL (a ++ b)=keyL a ++ keyL b:=by
 induction a with
 | nil=>rfl
 | cons x a ih=>rw [List.cons_append,keyL,keyL,ih,List.append_assoc]
theorem no46 (n:Int):(46:UInt8) ∉ itoa n:=fun h=>by
 have:=itoa_mem n 46 h
 have e:(46:UInt8).toNat=46:=rfl
 omega
theorem no32 (n:Int):(32:UInt8) ∉ itoa n:=fun h=>by
 have:=itoa_mem n 32 h
 have e:(32:UInt8).toNat=32:=rfl
 omega
theorem keyL_inj:∀ (l m:List Itm),keyL l=keyL m→l=m
 | [],[],_=>rfl
 | [],y :: m,h=>by
  exfalso
  have:=congrArg List.length h
  simp [keyL,pieceL] at this
 | x :: l,[],h=>by
  exfalso
  have:=congrArg List.length h
  simp [keyL,pieceL] at this
 | x :: l,y :: m,h=>by
  rw [keyL,keyL] at h
  unfold pieceL at h
  simp only [List.append_assoc,List.cons_append,List.nil_append] at h
  obtain ⟨h1,h2⟩:=split_at 46 _ _ _ _ (no46 _) (no46 _) h
  obtain ⟨h3,h4⟩:=split_at 32 _ _ _ _ (no32 _) (no32 _) h2
  rw [Prod.ext (itoa_inj h1) (itoa_inj h3),keyL_inj l m h4]
end Go.Proofs.YtclollnicbcooaaGreatDoor.St
section
namespace Go.Proofs.YtclollnicbcooaaGreatDoor.St

def compL:List Itm→List Itm
 | []=>[]
 | [a]=>[a]
 | a :: b :: l=>if a=b then compL (b :: l) else a :: compL (b :: l)
theorem compL_mem:∀ (l:List Itm) (x:Itm),x ∈ compL l ↔ x ∈ l
 | [],x=>Iff.rfl
 | [a],x=>Iff.rfl
 | a :: b :: l,x=>by
  rw [compL]
  split
  ·rename_i h
   subst h
   rw [compL_mem (a :: l) x]
   simp
  ·rw [List.mem_cons,compL_mem (b :: l) x];simp
def le (a b:Itm):Prop:=¬ lt b a
theorem le_lt {a b c:Itm} (h1:le a b) (h2:lt b c):lt a c:=by unfold le lt at *;omega
theorem le_ne {a b:Itm} (h1:le a b) (h2:a≠b):lt a b:=by
 rcases lt_cases a b with h | h | h
 ·exact h
 ·exact absurd h h2
 ·exact absurd h h1
theorem compL_rise:∀ l:List Itm,l.Pairwise le→(compL l).Pairwise lt
 | [],_=>List.Pairwise.nil
 | [a],_=>by rw [compL];simp
 | a :: b :: l,h=>by
  rw [List.pairwise_cons] at h
  rw [compL]
  split
  ·exact compL_rise (b :: l) h.2
  ·rename_i hne
   rw [List.pairwise_cons]
   refine ⟨fun x hx=>?_,compL_rise (b :: l) h.2⟩
   rw [compL_mem] at hx
   have hab:=le_ne (h.1 b (by simp)) hne
   rcases List.mem_cons.1 hx with rfl | hx
   ·exact hab
   ·have h2:=h.2
    rw [List.pairwise_cons] at h2
    rcases lt_cases b x with e | e | e
    ·exact lt_trans hab e
    ·rw [← e];exact hab
    ·exact absurd e (h2.1 x hx)

structure Rising (l:List Itm) (P:Itm→Prop):Prop where
 up:l.Pairwise lt
 mem:∀ x,x ∈ l ↔ P x
theorem Rising.one {l m:List Itm} {P Q:Itm→Prop} (h:Rising l P) (k:Rising m Q) (e:∀ x,P x ↔ Q x):l=m :=
 rise_ext l m h.up k.up fun x=>(h.mem x).trans ((e x).trans (k.mem x).symm)
theorem Rising.of (o s:List Itm) (hp:∀ x,x ∈ s ↔ x ∈ o) (hs:s.Pairwise le):Rising (compL s) (· ∈ o) :=
 ⟨compL_rise s hs,fun x=>(compL_mem s x).trans (hp x)⟩

/-! ### A production more -/
structure More (g h:Gr):Prop where
 is:∀ x,isI g x=true→isI h x=true
 behind:∀ x s,behindL g x=some s→behindL h x=some s
 nexts:∀ x y,y ∈ nexts g x→y ∈ nexts h x
end Go.Proofs.YtclollnicbcooaaGreatDoor.St
end
section
namespace Go.Proofs.YtclollnicbcooaaGreatDoor.St
variable {α:Type} [DecidableEq α]

theorem nodup_at {K:List (List α)} (h:K.Nodup) {i j:Nat} {x:List α} (hi:K[i]? = some x) (hj:K[j]? = some x):i=j:=by
 obtain ⟨h1,e1⟩:=List.getElem?_eq_some_iff.1 hi
 obtain ⟨h2,e2⟩:=List.getElem?_eq_some_iff.1 hj
 exact (List.getElem_inj h).1 (e1.trans e2.symm)

end Go.Proofs.YtclollnicbcooaaGreatDoor.St
end
section
namespace Go.Proofs.YtclollnicbcooaaGreatDoor.St

instance (a b:Itm):Decidable (lt a b):=by unfold lt;infer_instance

def less (x:Itm):Option Itm→Bool
 | none=>true
 | some y=>decide (lt x y)
def pickL (out:List Itm):List Itm→Option Itm→Option Itm
 | [],r=>r
 | x :: l,r=>pickL out l (if x ∉ out∧less x r=true then some x else r)
def riseR (l:List Itm):Nat→List Itm→List Itm
 | 0,out=>out
 | n+1,out=>match pickL out l none with
  | none=>riseR l n out
  | some x=>riseR l n (out ++ [x])

theorem pickL_is (out:List Itm):∀ (l:List Itm) (r:Option Itm),
  (pickL out l r=none ↔ r=none∧∀ x ∈ l,x ∈ out)∧∀ m,pickL out l r=some m→(r=some m ∨ (m ∈ l∧m ∉ out))∧(∀ x ∈ l,x ∉ out→le m x)∧(∀ y,r=some y→le m y)
 | [],r=>⟨by simp [pickL],fun m h=>by
   rw [pickL] at h
   subst h
   exact ⟨.inl rfl,by simp,fun y e=>by injection e with e;subst e;exact lt_irr _⟩⟩
 | x :: l,r=>by
  rw [pickL]
  obtain ⟨i1,i2⟩:=pickL_is out l (if x ∉ out∧less x r=true then some x else r)
  by_cases hc:x ∉ out∧less x r=true
  ·rw [if_pos hc] at i1 i2 ⊢
   refine ⟨⟨fun h=>?_,fun h=>?_⟩,fun m hm=>?_⟩
   ·have:=(i1.1 h).1;cases this
   ·exact absurd (h.2 x (by simp)) hc.1
   ·obtain ⟨j1,j2,j3⟩:=i2 m hm
    have hmx:=j3 x rfl
    refine ⟨?_,fun y hy hn=>?_,fun y e=>?_⟩
    ·rcases j1 with e | e
     ·injection e with e;subst e;exact .inr ⟨by simp,hc.1⟩
     ·exact .inr ⟨by simp [e.1],e.2⟩
    ·rcases List.mem_cons.1 hy with rfl | hy
     ·exact hmx
     ·exact j2 y hy hn
    ·subst e
     have hxy:lt x y:=of_decide_eq_true hc.2
     unfold le lt at *
     omega
  ·rw [if_neg hc] at i1 i2 ⊢
   refine ⟨⟨fun h=>?_,fun h=>?_⟩,fun m hm=>?_⟩
   ·obtain ⟨h1,h2⟩:=i1.1 h
    refine ⟨h1,fun y hy=>?_⟩
    rcases List.mem_cons.1 hy with rfl | hy
    ·subst h1
     exact Decidable.byContradiction fun hn=>hc ⟨hn,rfl⟩
    ·exact h2 y hy
   ·exact i1.2 ⟨h.1,fun y hy=>h.2 y (by simp [hy])⟩
   ·obtain ⟨j1,j2,j3⟩:=i2 m hm
    refine ⟨?_,fun y hy hn=>?_,j3⟩
    ·rcases j1 with e | e
     ·exact .inl e
     ·exact .inr ⟨by simp [e.1],e.2⟩
    ·rcases List.mem_cons.1 hy with rfl | hy
     ·cases r with
      | none=>exact absurd ⟨hn,rfl⟩ hc
      | some z =>
       have hz:¬ lt y z:=fun h=>hc ⟨hn,decide_eq_true h⟩
       have:=j3 z rfl
       unfold le lt at *
       omega
     ·exact j2 y hy hn

theorem riseR_is (l:List Itm):∀ (n:Nat) (out:List Itm),out.Pairwise lt→(∀ x ∈ out,x ∈ l)→(∀ x ∈ l,x ∉ out→∀ y ∈ out,lt y x)→(l.filter fun x=>decide (x ∉ out)).length≤n→Rising (riseR l n out) (· ∈ l):=by
 intro n
 induction n with
 | zero =>
  intro out h1 h2 h3 h4
  refine ⟨h1,fun x=>⟨h2 x,fun hx=>?_⟩⟩
  refine Decidable.byContradiction fun hn=>?_
  have:x ∈ l.filter fun x=>decide (x ∉ out):=List.mem_filter.2 ⟨hx,decide_eq_true hn⟩
  rw [List.eq_nil_of_length_eq_zero (by omega:(l.filter fun x=>decide (x ∉ out)).length=0)] at this
  cases this
 | succ n ih =>
  intro out h1 h2 h3 h4
  obtain ⟨p1,p2⟩:=pickL_is out l none
  rw [riseR]
  cases hp:pickL out l none with
  | none =>
   have hall:=(p1.1 hp).2
   refine ih out h1 h2 h3 ?_
   rw [List.filter_eq_nil_iff.2 (fun x hx=>by simp [hall x hx])]
   exact Nat.zero_le _
  | some m =>
   obtain ⟨q1,q2,_⟩:=p2 m hp
   obtain ⟨ml,mo⟩:=q1.resolve_left (by simp)
   refine ih (out ++ [m]) ?_ ?_ ?_ ?_
   ·rw [List.pairwise_append]
    exact ⟨h1,by simp,fun a ha b hb=>by rw [List.mem_singleton] at hb;subst hb;exact h3 b ml mo a ha⟩
   ·intro x hx
    rcases List.mem_append.1 hx with e | e
    ·exact h2 x e
    ·rw [List.mem_singleton] at e;subst e;exact ml
   ·intro x hx hn y hy
    have hxo:x ∉ out:=fun e=>hn (by simp [e])
    have hxm:x≠m:=fun e=>hn (by simp [e])
    rcases List.mem_append.1 hy with e | e
    ·exact h3 x hx hxo y e
    ·rw [List.mem_singleton] at e;subst e
     exact le_ne (q2 x hx hxo) (fun e=>hxm e.symm)
   ·have hlt:(l.filter fun y=>decide (y ∉ out ++ [m])).length < (l.filter fun y=>decide (y ∉ out)).length:=by
     have e:(l.filter fun y=>decide (y ∉ out ++ [m]))=(l.filter fun y=>decide (y ∉ out)).filter fun y=>decide (y≠m):=by
      rw [List.filter_filter]
      congr 1
      funext y
      rw [Bool.eq_iff_iff]
      simp [and_comm]
     rw [e]
     exact List.length_filter_lt_length_iff_exists.2 ⟨m,List.mem_filter.2 ⟨ml,decide_eq_true mo⟩,by simp⟩
    omega
theorem riseR_all (l:List Itm):Rising (riseR l l.length []) (· ∈ l) :=
 riseR_is l l.length [] List.Pairwise.nil (by simp) (by simp) (List.length_filter_le _ _)

/-! ### The row that grows -/
def addL:List Itm→List Itm→List Itm
 | [],out=>out
 | z :: zs,out=>addL zs (if z ∈ out then out else out ++ [z])
def growL (g:Gr):Nat→Nat→List Itm→Option (List Itm)
 | 0,_,_=>none
 | k+1,i,out=>match out[i]? with
  | none=>some out
  | some x=>growL g k (i+1) (addL (nexts g x) out)
end Go.Proofs.YtclollnicbcooaaGreatDoor.St
end
namespace Go.Proofs.YtclollnicbcooaaGreatDoor.P
open Go.RowKit YtclollnicbcooaaGreatDoorW.PrintWords YtclollnicbcooaaGreatDoorW.PrintLast YtclollnicbcooaaGreatDoorW.PrintMore
section
attribute [local go_sem] max2_int min2_int max_two min_two max_three min_three max_four min_four

theorem eqA77 (d:Nat) (w:World) (x0 y0:Int) (x1 y1:Int) :
  (Op.equalIn (d+2) 77 (.agg #[.int .i64 x0,.int .i64 x1]) (.agg #[.int .i64 y0,.int .i64 y1])).run Tryz.prog w=.ok (x0 == y0 && (x1 == y1)) w:=by
 refine eqA_of Tryz.underlying77 (by kernel_rfl) ?_
 refine eqf_cons (by rfl) (by go_simp;rfl) (by go_simp;rfl) (by go_simp) ?_
 exact eqf_last (by rfl) (by go_simp;rfl) (by go_simp;rfl) (by go_simp)
end
end Go.Proofs.YtclollnicbcooaaGreatDoor.P
namespace Go.Proofs.YtclollnicbcooaaGreatDoor.Base
open Go
@[go_sem] theorem binOp_string_geq (t:TypeId) (a b:ByteArray):binOp .geq t (.string a) (.string b)=pure (.bool !(Op.bytesLess a.toList b.toList)):=by simp [binOp,Op.stringOp]
@[go_sem] theorem binOp_string_leq (t:TypeId) (a b:ByteArray):binOp .leq t (.string a) (.string b)=pure (.bool (Op.bytesLess a.toList b.toList || a.toList == b.toList)):=by simp [binOp,Op.stringOp]
@[go_sem] theorem binOp_string_gtr (t:TypeId) (a b:ByteArray):binOp .gtr t (.string a) (.string b)=pure (.bool !(Op.bytesLess a.toList b.toList || a.toList == b.toList)):=by simp [binOp,Op.stringOp]
end Go.Proofs.YtclollnicbcooaaGreatDoor.Base
namespace Go.Proofs.YtclollnicbcooaaGreatDoor.P
open Go.RowKit YtclollnicbcooaaGreatDoorW.PrintWords YtclollnicbcooaaGreatDoorW.PrintLast YtclollnicbcooaaGreatDoorW.PrintMore
def inB (n m:Int):Bool:=decide (0≤n) && decide (n < m)
def oddB (T S x:Int):Bool:=(decide (0≤x) && !inB x T) || (decide (x < 0) && !inB (IntKind.i64.wrap (-1 - x)) S)

theorem in_calls (n m:Int) (w:World):Calls Tryz.prog 46 #[.int .i64 n,.int .i64 m] w fun e w'=>e=.returned (.bool (inB n m))∧w'=w:=by
 go_enter Tryz.func46,Tryz.ntmps46
 unfold inB
 by_cases h0:0≤n
 ·have hb:decide (0≤n)=true:=decide_eq_true h0
  go_wp2
  go_ret
  exact ⟨by simp [h0],rfl⟩
 ·have hb:decide (0≤n)=false:=decide_eq_false h0
  have h0':n < 0:=by omega
  go_wp2
  go_ret
  exact ⟨by simp [h0'],rfl⟩

theorem odd_calls (T S x:Int) (b1 b2:Addr) (w:World) (h1:w.cell? b1=some (.int .i64 T)) (h2:w.cell? b2=some (.int .i64 S)) :
  Calls Tryz.prog 47 #[.int .i64 x,.pointer (some b1),.pointer (some b2)] w fun e w'=>e=.returned (.bool (oddB T S x))∧w'=w:=by
 go_enter Tryz.func47,Tryz.ntmps47
 unfold oddB
 obtain ⟨y,hy⟩:∃ y,IntKind.i64.wrap (-1 - x)=y:=⟨_,rfl⟩
 obtain ⟨p,hp⟩:∃ p,inB x T=p:=⟨_,rfl⟩
 obtain ⟨q,hq⟩:∃ q,inB y S=q:=⟨_,rfl⟩
 have HP:=jM hp
 have HQ:=jM hq
 have HY:=jM hy
 clear hp hq
 by_cases h0:0≤x
 ·have hb:decide (0≤x)=true:=decide_eq_true h0
  have hn:decide (x < 0)=false:=decide_eq_false (by omega)
  cases p
  ·go_wp2_with (go_at_call 46;refine (in_calls _ _ _).mono ?_;rintro e w' ⟨rfl,rfl⟩;rw [HP.out])
   go_ret
   exact ⟨by rw [hb,HP.out];simp,rfl⟩
  ·go_wp2_with (go_at_call 46;refine (in_calls _ _ _).mono ?_;rintro e w' ⟨rfl,rfl⟩;rw [HP.out])
   go_ret
   exact ⟨by rw [hb,hn,HP.out];simp,rfl⟩
 ·have hb:decide (0≤x)=false:=decide_eq_false h0
  have hn:decide (x < 0)=true:=decide_eq_true (by omega)
  cases q
  ·go_wp2_with (go_at_call 46;refine (in_calls _ _ _).mono ?_;rintro e w' ⟨rfl,rfl⟩;rw [HQ.out])
   go_ret
   exact ⟨by rw [hb,hn,HY.out,HQ.out];simp,rfl⟩
  ·go_wp2_with (go_at_call 46;refine (in_calls _ _ _).mono ?_;rintro e w' ⟨rfl,rfl⟩;rw [HQ.out])
   go_ret
   exact ⟨by rw [hb,hn,HY.out,HQ.out];simp,rfl⟩

def firstOf (f:Int→Bool):List Int→Int→Int
 | [],_=>-1
 | x :: l,i=>if f x then i else firstOf f l (i+1)
theorem firstOf_any (f:Int→Bool):∀ (l:List Int) (i:Int),0≤i→decide (0≤firstOf f l i)=l.any f
 | [],_,_=>rfl
 | x :: l,i,hi=>by
  unfold firstOf
  cases h:f x
  ·rw [if_neg (by simp)];simp [h,firstOf_any f l (i+1) (by omega)]
  ·rw [if_pos rfl];simp [h,hi]
theorem firstOf_skip (f:Int→Bool) (l:List Int) (k:Nat) (hk:k < l.length) (h:f (l.getD k 0)=false):firstOf f (l.drop k) k=firstOf f (l.drop (k+1)) (k+1:Nat):=by
 rw [List.drop_eq_getElem_cons hk]
 conv=>lhs;unfold firstOf
 rw [if_neg]
 ·simp
 ·simp [List.getD,hk] at h;simp [h]
theorem firstOf_here (f:Int→Bool) (l:List Int) (k:Nat) (hk:k < l.length) (h:f (l.getD k 0)=true):firstOf f (l.drop k) k=k:=by
 rw [List.drop_eq_getElem_cons hk]
 unfold firstOf
 rw [if_pos]
 simp [List.getD,hk] at h;exact h

set_option maxHeartbeats 1000000 in
theorem index_odd (T S:Int) (b1 b2:Addr) (A:Option Addr) (c:Nat) (l:List Int) (w:World) (hr:Kd.C (Kd.int .i64) w A l.length l) (h1:w.cell? b1=some (.int .i64 T)) (h2:w.cell? b2=some (.int .i64 S)) :
  Calls Tryz.prog 71 #[.slice A l.length c,.func (.func 47) #[] #[.pointer (some b1),.pointer (some b2)]] w fun e w'=>e=.returned (.int .i64 (firstOf (oddB T S) l 0))∧w'=w:=by
 have HR:=jM hr
 have H1:=jM h1
 have H2:=jM h2
 have hmx:l.length≤9223372036854775807:=hr.2.1
 clear hr h1 h2
 go_enter Tryz.func71,Tryz.ntmps71
 go_wp2
 go_loopw [8] (fun v wr=>∃ k:Nat,v=.int .i64 k∧k≤l.length∧Aside0 (firstOf (oddB T S) l 0=firstOf (oddB T S) (l.drop k) k)∧Aside0 (wr=w)) (fun v _=>l.length - (intOf v).toNat)
 case atStart=>exact ⟨0,rfl,Nat.zero_le _,⟨rfl⟩,⟨rfl⟩⟩
 case round =>
  obtain ⟨k,rfl,hk,HT,⟨rfl⟩⟩:=hrel
  by_cases hlt:k < l.length
  ·have hltb:decide (k < l.length)=true:=decide_eq_true (by omega)
   obtain ⟨ad,e1,hx1⟩:=Kd.at_int HR.out (k:Int) (by omega) (by omega)
   subst e1
   rw [Int.toNat_natCast] at hx1
   obtain ⟨o,ho⟩:∃ o,oddB T S (rd l (k:Int))=o:=⟨_,rfl⟩
   have HO:=jM ho
   clear ho
   cases o
   ·go_wp2_with (go_at_call 47;refine (odd_calls T S _ _ _ _ H1.out H2.out).mono ?_;rintro e w' ⟨rfl,rfl⟩;rw [HO.out])
    exact ⟨⟨k+1,rfl,by omega,⟨HT.out.trans (firstOf_skip _ _ k hlt (by have:=HO.out;unfold rd at this;rwa [Int.toNat_natCast] at this))⟩,⟨trivial⟩⟩,by simp [intOf];omega⟩
   ·go_wp2_with (go_at_call 47;refine (odd_calls T S _ _ _ _ H1.out H2.out).mono ?_;rintro e w' ⟨rfl,rfl⟩;rw [HO.out])
    go_ret
    exact ⟨by rw [HT.out,firstOf_here _ _ k hlt (by have:=HO.out;unfold rd at this;rwa [Int.toNat_natCast] at this)];rfl,rfl⟩
  ·have hltb:decide (k < l.length)=false:=decide_eq_false (by omega)
   have hkl:Aside0 (k=l.length):=⟨by omega⟩
   go_wp2
   go_ret
   exact ⟨by rw [HT.out,hkl.out,List.drop_length];rfl,rfl⟩

theorem contains_odd (T S:Int) (b1 b2:Addr) (A:Option Addr) (c:Nat) (l:List Int) (w:World) (hr:Kd.C (Kd.int .i64) w A l.length l) (h1:w.cell? b1=some (.int .i64 T)) (h2:w.cell? b2=some (.int .i64 S)) :
  Calls Tryz.prog 48 #[.slice A l.length c,.func (.func 47) #[] #[.pointer (some b1),.pointer (some b2)]] w fun e w'=>e=.returned (.bool (l.any (oddB T S)))∧w'=w:=by
 have HR:=jM hr
 have H1:=jM h1
 have H2:=jM h2
 clear hr h1 h2
 go_enter Tryz.func48,Tryz.ntmps48
 obtain ⟨r,hf⟩:∃ r,firstOf (oddB T S) l 0=r:=⟨_,rfl⟩
 have HF:=jM hf
 clear hf
 go_wp2_with (go_at_call 71;refine (index_odd T S _ _ _ _ _ _ HR.out H1.out H2.out).mono ?_;rintro e w' ⟨rfl,rfl⟩;rw [HF.out])
 go_ret
 exact ⟨by rw [← firstOf_any _ _ 0 (Int.le_refl 0),HF.out];simp,rfl⟩
theorem same_calls (s:ByteArray) (w:World):Calls Tryz.prog 49 #[.string s] w fun e w'=>e=.returned (.string s)∧w'=w:=by
 go_enter Tryz.func49,Tryz.ntmps49
 go_wp2
 go_ret
 exact ⟨rfl,rfl⟩

theorem quiet_sum {P:Program} {f:FuncId} {args:Array Value} {w:World} {m n:Nat} {v:Value}
  (h:Calls P f args (w.drewN (m+n)) fun e w'=>e=.returned v∧w'=w.drewN (m+n)):Calls P f args (w.drewN (m+n)) fun e w''=>e=.returned v∧∃ k,w''=w.drewN (m+k) :=
 h.mono fun _ _ ⟨he,hm⟩=>⟨he,n,hm⟩

def RisesTo (f:Int→ByteArray) (k:Nat):Prop:=∀ i:Nat,0 < i→i < k→Op.bytesLess (f ((i:Int) - 1)).toList (f i).toList=true
def rises (f:Int→ByteArray) (n:Nat):Bool:=(List.range n).all fun i=>i == 0 || Op.bytesLess (f ((i:Int) - 1)).toList (f i).toList
theorem rises_all {f:Int→ByteArray} {n:Nat} (h:RisesTo f n):rises f n=true:=by
 unfold rises
 rw [List.all_eq_true]
 intro i hi
 by_cases h0:i=0
 ·subst h0;rfl
 ·rw [h i (by omega) (List.mem_range.1 hi)];simp
theorem rises_not {f:Int→ByteArray} {n:Nat} (i:Nat) (h0:0 < i) (hi:i < n) (h:Op.bytesLess (f ((i:Int) - 1)).toList (f i).toList=false):rises f n=false:=by
 unfold rises
 rw [Bool.eq_false_iff]
 intro ht
 rw [List.all_eq_true] at ht
 have:=ht i (List.mem_range.2 hi)
 rw [h] at this
 simp at this
 omega
theorem RisesTo.step {f:Int→ByteArray} {k:Nat} (h:RisesTo f k) (hs:k=0 ∨ Op.bytesLess (f ((k:Int) - 1)).toList (f k).toList=true):RisesTo f (k+1):=fun i h0 hi=>by
 by_cases e:i=k
 ·subst e
  rcases hs with h1 | h1
  ·omega
  ·exact h1
 ·exact h i h0 (by omega)

set_option maxHeartbeats 2000000 in
theorem rising_strings (A:Option Addr) (c:Nat) (l:List ByteArray) (w:World) (hr:Kd.C Kd.string w A l.length l) :
  Calls Tryz.prog 50 #[.slice A l.length c,.func (.func 49) #[] #[]] w fun e w'=>e=.returned (.bool (rises (rdOf ByteArray.empty l) l.length))∧Drawn0 w w':=by
 have HR:=jM hr
 have hmx:l.length≤9223372036854775807:=hr.2.1
 clear hr
 go_enter Tryz.func50,Tryz.ntmps50
 go_wp2
 go_loopw [8] (fun v wr=>∃ k:Nat,v=.int .i64 k∧k≤l.length∧Aside0 (RisesTo (rdOf ByteArray.empty l) k)∧Aside0 (Drawn0 w wr)) (fun v _=>l.length - (intOf v).toNat)
 case atStart=>exact ⟨0,rfl,Nat.zero_le _,⟨fun i h0 hi=>absurd hi (Nat.not_lt_zero i)⟩,⟨Drawn0.refl w⟩⟩
 case round =>
  obtain ⟨k,rfl,hk,HT,HD⟩:=hrel
  by_cases hlt:k < l.length
  ·have hltb:decide (k < l.length)=true:=decide_eq_true (by omega)
   by_cases h0:k=0
   ·subst h0
    go_wp2
    go_quiet (fail)
    go_wp2
    go_roundw
    case rel=>exact ⟨1,rfl,by omega,⟨HT.out.step (.inl rfl)⟩,⟨HD.out.step _⟩⟩
    case measure=>simp [intOf];omega
   ·obtain ⟨m,rfl⟩:=HD.out
    obtain ⟨j,hj⟩:∃ j:Int,(k:Int) - 1=j:=⟨_,rfl⟩
    obtain ⟨ad,e1,hx1⟩:=Kd.at_string HR.out j (by omega) (by omega)
    obtain ⟨ad',e2,hx2⟩:=Kd.at_string HR.out (k:Int) (by omega) (by omega)
    obtain rfl:ad=ad':=Option.some.inj (e1.symm.trans e2)
    subst e1
    clear e2
    rw [Int.toNat_natCast] at hx2
    have hg1:decide (0 < k)=true:=decide_eq_true (by omega)
    have q2:(0≤j)=True:=eq_true (by omega)
    have q3:(j < (l.length:Int))=True:=eq_true (by omega)
    have hw:IntKind.i64.wrap ((k:Int) - 1)=j:=by rw [IntWalk.i64_in _ (by omega)];exact hj
    have HJ:=jM hj
    clear hj
    cases hb:Op.bytesLess (rdOf ByteArray.empty l j).toList (rdOf ByteArray.empty l (k:Int)).toList
    ·go_wp2
     go_quiet ((go_at_call 49;exact quiet_sum (same_calls _ _)))
     go_wp2
     go_ret
     exact ⟨by rw [rises_not k (by omega) hlt (by rw [HJ.out];exact hb)];rfl,⟨_,World.drewN_drewN ..⟩⟩
    ·go_wp2
     go_quiet ((go_at_call 49;exact quiet_sum (same_calls _ _)))
     go_wp2
     go_roundw
     case rel=>exact ⟨k+1,rfl,by omega,⟨HT.out.step (.inr (by rw [HJ.out];exact hb))⟩,⟨_,rfl⟩⟩
     case measure=>simp [intOf];omega
  ·have hltb:decide (k < l.length)=false:=decide_eq_false (by omega)
   have hkl:Aside0 (k=l.length):=⟨by omega⟩
   go_wp2
   go_ret
   exact ⟨by rw [rises_all (by rw [← hkl.out];exact HT.out)];rfl,HD.out⟩
end Go.Proofs.YtclollnicbcooaaGreatDoor.P
namespace Go.Proofs.YtclollnicbcooaaGreatDoor.Base
open Go Go.RowKit
theorem wp_region_below {P:Program} {id:Nat} {Q:Exit→Act→World→Prop} {a:Act} {w:World} {l:List Oper} (hm:P.follows .mixedOrders=true) (hB:Region.lexB .any l.toArray=true)
  (h:wpQuiet P l.toArray (fun w'=>Below w.heap.size w w') (fun a'=>∀ w',Below w.heap.size w w'→Q .normal a' w') l a):(Code.region id l.toArray true).wp P Q a w :=
 wp_region_quiet (C:=fun w'=>Below w.heap.size w w') hm hB ⟨rfl,rfl,rfl,Nat.le_refl _,fun _ _=>rfl⟩ (by simpa using h)

theorem cell_below {w:World} {p:Addr} {v:Value} (h:w.cell? p=some v):∀ w',Below w.heap.size w w'→w'.cell? p=some v:=fun _ hb=>(hb.cell (World.block_lt_of_cell? w _ h)).trans h

theorem calls_below {P:Program} {f:FuncId} {args:Array Value} {B:Nat} {u w:World} {v:Value} (hb:Below B u w) (hs:B≤w.heap.size)
  (h:Calls P f args w fun e w'=>e=.returned v∧Below w.heap.size w w'):Calls P f args w fun e w'=>e=.returned v∧Below B u w' :=
 h.mono fun _ _ ⟨he,k⟩=>⟨he,hb.trans (k.mono hs)⟩
end Go.Proofs.YtclollnicbcooaaGreatDoor.Base
namespace Go.Proofs.YtclollnicbcooaaGreatDoor.P
open YtclollnicbcooaaGreatDoor.Base Go.RowKit YtclollnicbcooaaGreatDoorW.PrintWords YtclollnicbcooaaGreatDoorW.PrintLast YtclollnicbcooaaGreatDoorW.PrintMore
theorem term_name (x:S65) (w:World):Calls Tryz.prog 52 #[.agg #[.string x.f0,.string x.f1,.bool x.f2,.int .i64 x.f3]] w fun e w'=>e=.returned (.string x.f0)∧Below w.heap.size w w':=by
 go_enter Tryz.func52,Tryz.ntmps52
 go_wp2
 go_ret
 exact ⟨rfl,below_alloc (Below.refl _ _) _⟩

set_option maxHeartbeats 2000000 in
theorem rising_terms (A:Option Addr) (c:Nat) (l:List S65) (w:World) (hr:Kd.C k65 w A l.length l) :
  Calls Tryz.prog 51 #[.slice A l.length c,.func (.func 52) #[] #[]] w fun e w'=>e=.returned (.bool (rises (fun i=>(rd_T65 l i).f0) l.length))∧Below w.heap.size w w':=by
 have HR:=jM hr
 have hmx:l.length≤9223372036854775807:=hr.2.1
 clear hr
 go_enter Tryz.func51,Tryz.ntmps51
 go_wp2
 go_loopw [8] (fun v wr=>∃ k:Nat,v=.int .i64 k∧k≤l.length∧Aside0 (RisesTo (fun i=>(rd_T65 l i).f0) k)∧Aside0 (Below w.heap.size w wr)) (fun v _=>l.length - (intOf v).toNat)
 case atStart=>exact ⟨0,rfl,Nat.zero_le _,⟨fun i h0 hi=>absurd hi (Nat.not_lt_zero i)⟩,⟨Below.refl _ w⟩⟩
 case round =>
  obtain ⟨k,rfl,hk,HT,HD⟩:=hrel
  by_cases hlt:k < l.length
  ·have hltb:decide (k < l.length)=true:=decide_eq_true (by omega)
   by_cases h0:k=0
   ·subst h0
    go_wp2
    go_quiet (fail)
    go_wp2
    go_roundw
    case rel=>exact ⟨1,rfl,by omega,⟨HT.out.step (.inl rfl)⟩,⟨pw_below_drewN HD.out _⟩⟩
    case measure=>simp [intOf];omega
   ·have HR':=Kd.C_below HR.out HD.out
    obtain ⟨j,hj⟩:∃ j:Int,(k:Int) - 1=j:=⟨_,rfl⟩
    obtain ⟨ad,e1,hx1,hx1a,hx1b,hx1c⟩:=at_T65 HR' j (by omega) (by omega)
    obtain ⟨ad',e2,hx2,hx2a,hx2b,hx2c⟩:=at_T65 HR' (k:Int) (by omega) (by omega)
    obtain rfl:ad=ad':=Option.some.inj (e1.symm.trans e2)
    subst e1
    clear e2
    rw [Int.toNat_natCast] at hx2 hx2a hx2b hx2c
    replace hx1:=cell_below hx1;replace hx1a:=cell_below hx1a;replace hx1b:=cell_below hx1b;replace hx1c:=cell_below hx1c
    replace hx2:=cell_below hx2;replace hx2a:=cell_below hx2a;replace hx2b:=cell_below hx2b;replace hx2c:=cell_below hx2c
    clear HR'
    have hg1:decide (0 < k)=true:=decide_eq_true (by omega)
    have q2:(0≤j)=True:=eq_true (by omega)
    have q3:(j < (l.length:Int))=True:=eq_true (by omega)
    have hw:IntKind.i64.wrap ((k:Int) - 1)=j:=by rw [IntWalk.i64_in _ (by omega)];exact hj
    have HJ:=jM hj
    clear hj
    cases hb:Op.bytesLess (rd_T65 l j).f0.toList (rd_T65 l (k:Int)).f0.toList
    ·go_wp2
     refine wp_region_below (by kernel_rfl) (by kernel_rfl) ?_
     repeat (refine wpQuiet_step (fun K hK=>?_);go_simp;(first | (refine hK _ ?_;clear hK K) | (apply Exists.intro;refine ⟨fun wc hwc=>?_,hK _ ?_⟩;(first | exact rfl | ((go_at_call 52;exact calls_below hwc hwc.size (term_name _ _))) | (go_simp;exact rfl));clear hK K)))
     refine wpQuiet_nil ?_
     intro wq hwq
     go_wp2
     go_ret
     exact ⟨by rw [rises_not k (by omega) hlt (by rw [HJ.out];exact hb)];rfl,below_step HD.out hwq⟩
    ·go_wp2
     refine wp_region_below (by kernel_rfl) (by kernel_rfl) ?_
     repeat (refine wpQuiet_step (fun K hK=>?_);go_simp;(first | (refine hK _ ?_;clear hK K) | (apply Exists.intro;refine ⟨fun wc hwc=>?_,hK _ ?_⟩;(first | exact rfl | ((go_at_call 52;exact calls_below hwc hwc.size (term_name _ _))) | (go_simp;exact rfl));clear hK K)))
     refine wpQuiet_nil ?_
     intro wq hwq
     go_wp2
     go_roundw
     case rel=>exact ⟨k+1,rfl,by omega,⟨HT.out.step (.inr (by rw [HJ.out];exact hb))⟩,⟨below_step HD.out hwq⟩⟩
     case measure=>simp [intOf];omega
  ·have hltb:decide (k < l.length)=false:=decide_eq_false (by omega)
   have hkl:Aside0 (k=l.length):=⟨by omega⟩
   go_wp2
   go_ret
   exact ⟨by rw [rises_all (by rw [← hkl.out];exact HT.out)];rfl,HD.out⟩
theorem prod_label (x:S68) (A:Option Addr) (c:Nat) (w:World):Calls Tryz.prog 54 #[.agg #[.string x.f0,.int .i64 x.f1,.slice A x.f2.length c,.int .i64 x.f3]] w fun e w'=>e=.returned (.string x.f0)∧Below w.heap.size w w':=by
 go_enter Tryz.func54,Tryz.ntmps54
 go_wp2
 go_ret
 exact ⟨rfl,below_alloc (Below.refl _ _) _⟩

set_option maxHeartbeats 2000000 in
theorem rising_prods (A:Option Addr) (c:Nat) (l:List S68) (w:World) (hr:Kd.C k68 w A l.length l) :
  Calls Tryz.prog 53 #[.slice A l.length c,.func (.func 54) #[] #[]] w fun e w'=>e=.returned (.bool (rises (fun i=>(rd_T68 l i).f0) l.length))∧Below w.heap.size w w':=by
 have HR:=jM hr
 have hmx:l.length≤9223372036854775807:=hr.2.1
 clear hr
 go_enter Tryz.func53,Tryz.ntmps53
 go_wp2
 go_loopw [8] (fun v wr=>∃ k:Nat,v=.int .i64 k∧k≤l.length∧Aside0 (RisesTo (fun i=>(rd_T68 l i).f0) k)∧Aside0 (Below w.heap.size w wr)) (fun v _=>l.length - (intOf v).toNat)
 case atStart=>exact ⟨0,rfl,Nat.zero_le _,⟨fun i h0 hi=>absurd hi (Nat.not_lt_zero i)⟩,⟨Below.refl _ w⟩⟩
 case round =>
  obtain ⟨k,rfl,hk,HT,HD⟩:=hrel
  by_cases hlt:k < l.length
  ·have hltb:decide (k < l.length)=true:=decide_eq_true (by omega)
   by_cases h0:k=0
   ·subst h0
    go_wp2
    go_quiet (fail)
    go_wp2
    go_roundw
    case rel=>exact ⟨1,rfl,by omega,⟨HT.out.step (.inl rfl)⟩,⟨pw_below_drewN HD.out _⟩⟩
    case measure=>simp [intOf];omega
   ·have HR':=Kd.C_below HR.out HD.out
    obtain ⟨j,hj⟩:∃ j:Int,(k:Int) - 1=j:=⟨_,rfl⟩
    obtain ⟨ad,A1,c1,e1,hx1,hx1a,hx1b,hx1c, -, -⟩:=at_T68 HR' j (by omega) (by omega)
    obtain ⟨ad',A2,c2,e2,hx2,hx2a,hx2b,hx2c, -, -⟩:=at_T68 HR' (k:Int) (by omega) (by omega)
    obtain rfl:ad=ad':=Option.some.inj (e1.symm.trans e2)
    subst e1
    clear e2
    rw [Int.toNat_natCast] at hx2 hx2a hx2b hx2c
    replace hx1:=cell_below hx1;replace hx1a:=cell_below hx1a;replace hx1b:=cell_below hx1b;replace hx1c:=cell_below hx1c
    replace hx2:=cell_below hx2;replace hx2a:=cell_below hx2a;replace hx2b:=cell_below hx2b;replace hx2c:=cell_below hx2c
    clear HR'
    have hg1:decide (0 < k)=true:=decide_eq_true (by omega)
    have q2:(0≤j)=True:=eq_true (by omega)
    have q3:(j < (l.length:Int))=True:=eq_true (by omega)
    have hw:IntKind.i64.wrap ((k:Int) - 1)=j:=by rw [IntWalk.i64_in _ (by omega)];exact hj
    have HJ:=jM hj
    clear hj
    cases hb:Op.bytesLess (rd_T68 l j).f0.toList (rd_T68 l (k:Int)).f0.toList
    ·go_wp2
     refine wp_region_below (by kernel_rfl) (by kernel_rfl) ?_
     repeat (refine wpQuiet_step (fun K hK=>?_);go_simp;(first | (refine hK _ ?_;clear hK K) | (apply Exists.intro;refine ⟨fun wc hwc=>?_,hK _ ?_⟩;(first | exact rfl | ((go_at_call 54;exact calls_below hwc hwc.size (prod_label _ _ _ _))) | (go_simp;exact rfl));clear hK K)))
     refine wpQuiet_nil ?_
     intro wq hwq
     go_wp2
     go_ret
     exact ⟨by rw [rises_not k (by omega) hlt (by rw [HJ.out];exact hb)];rfl,below_step HD.out hwq⟩
    ·go_wp2
     refine wp_region_below (by kernel_rfl) (by kernel_rfl) ?_
     repeat (refine wpQuiet_step (fun K hK=>?_);go_simp;(first | (refine hK _ ?_;clear hK K) | (apply Exists.intro;refine ⟨fun wc hwc=>?_,hK _ ?_⟩;(first | exact rfl | ((go_at_call 54;exact calls_below hwc hwc.size (prod_label _ _ _ _))) | (go_simp;exact rfl));clear hK K)))
     refine wpQuiet_nil ?_
     intro wq hwq
     go_wp2
     go_roundw
     case rel=>exact ⟨k+1,rfl,by omega,⟨HT.out.step (.inr (by rw [HJ.out];exact hb))⟩,⟨below_step HD.out hwq⟩⟩
     case measure=>simp [intOf];omega
  ·have hltb:decide (k < l.length)=false:=decide_eq_false (by omega)
   have hkl:Aside0 (k=l.length):=⟨by omega⟩
   go_wp2
   go_ret
   exact ⟨by rw [rises_all (by rw [← hkl.out];exact HT.out)];rfl,HD.out⟩
end Go.Proofs.YtclollnicbcooaaGreatDoor.P
