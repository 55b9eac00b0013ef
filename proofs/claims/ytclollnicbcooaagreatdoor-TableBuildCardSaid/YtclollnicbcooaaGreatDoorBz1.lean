/- Texts of this claim put together: SValid, SVal, Q3, Range, StE, It, Cmp, Row, Ord, Lay, Ris, Beh, Beg, Stp, Cln, StM, Key, StA, Mrk, Lmm, Has, Clo, Q4, Q5, Nit, Num, Bup. -/
import Derived.Test.YtclollnicbcooaaGreatDoorBz0
import Derived.Deep.RegionHeld3
import Derived.RangeFuncBox
import Derived.RangeFuncNested
import Derived.RangeFuncCalls
import Derived.RangeFuncLeaves
import Derived.Lib.SlicesCompact
import Derived.Sort.Statements
import Derived.Shelf.SlSortCmp.InsertionK
import Derived.Lib.SliceRun
import Derived.Shelf.RegionOpenPlain
import Derived.Deep.LoopGhost
import Derived.Lib.Walk
import Derived.IntWalk
import Derived.LoopN
import Derived.Shelf.SlSortCmp.WholeK
import Derived.Shelf.Strconv.Itoa3
import Derived.Test.YtclollnicbcooaaGreatDoorProg
import Derived.Shelf.SlSortCmp.NoneTotal
import Derived.Shelf.Abstract
import Derived.Shelf.RegionOpen
import Derived.WalkKit
import Derived.OwnWalkIn
import Derived.TacticsInMore
import Derived.LoopNIn
import Derived.LoopIn
import Derived.Maps.Keyed
import Derived.Carry
import Derived.Below
import Derived.DeepKeys4
import Derived.Lib.AppendIntMem
set_option linter.unusedVariables false
set_option linter.unusedSimpArgs false
set_option linter.unusedSectionVars false
namespace Go.Proofs.YtclollnicbcooaaGreatDoor.P
open YtclollnicbcooaaGreatDoor.Base Go.RowKit YtclollnicbcooaaGreatDoorW.PrintWords YtclollnicbcooaaGreatDoorW.PrintLast YtclollnicbcooaaGreatDoorW.PrintMore
def pairB (T:Int) (x:S73):Bool:=inB x.f0 T && inB x.f1 T
def prodB (T S:Int) (p:S68):Bool:=inB p.f1 S && !decide (12 < p.f2.length) && !p.f2.any (oddB T S)
def validB (l0:List S65) (l1:List S73) (l2:List ByteArray) (l3:List S68) (st:Int):Bool :=
 !decide (60 < l0.length) && !decide (60 < l2.length) && !decide (120 < l3.length) && inB st l2.length && l1.all (pairB l0.length) && l3.all (prodB l0.length l2.length) &&
  rises (rdOf ByteArray.empty l2) l2.length && rises (fun i=>(rd_T65 l0 i).f0) l0.length && rises (fun i=>(rd_T68 l3 i).f0) l3.length

theorem all_part {α:Type} (f:α→Bool) (l:List α) (k:Nat) (hk:k < l.length):l.all f=((l.take k).all f && f l[k] && (l.drop (k+1)).all f):=by
 conv=>lhs;rw [← List.take_append_drop k l,List.drop_eq_getElem_cons hk,List.all_append,List.all_cons]
 rw [Bool.and_assoc]
theorem all_take {α:Type} (f:α→Bool) (l:List α) (k:Nat) (hk:k < l.length):(l.take (k+1)).all f=((l.take k).all f && f l[k]):=by
 rw [List.take_add_one,List.getElem?_eq_getElem hk,List.all_append]
 simp
theorem rd63_at (l:List S73) (k:Nat) (hk:k < l.length):rd_T73 l (k:Int)=l[k]:=by unfold rd_T73;simp [List.getD,hk]
theorem rd45_at (l:List S68) (k:Nat) (hk:k < l.length):rd_T68 l (k:Int)=l[k]:=by unfold rd_T68;simp [List.getD,hk]
set_option maxHeartbeats 8000000 in
set_option maxRecDepth 100000 in
theorem valid_calls (A0:Option Addr) (c0:Nat) (l0:List S65) (A1:Option Addr) (c1:Nat) (l1:List S73) (A2:Option Addr) (c2:Nat) (l2:List ByteArray) (A3:Option Addr) (c3:Nat) (l3:List S68) (st:Int) (w:World)
  (hr0:Kd.C k65 w A0 l0.length l0) (hr1:Kd.C k73 w A1 l1.length l1) (hr2:Kd.C Kd.string w A2 l2.length l2) (hr3:Kd.C k68 w A3 l3.length l3) :
  Calls Tryz.prog 27 #[.agg #[.slice A0 l0.length c0,.slice A1 l1.length c1,.slice A2 l2.length c2,.slice A3 l3.length c3,.int .i64 st]] w fun e w'=>e=.returned (.bool (validB l0 l1 l2 l3 st))∧Below w.heap.size w w':=by
 have HR0:=jM hr0
 have HR1:=jM hr1
 have HR2:=jM hr2
 have HR3:=jM hr3
 clear hr0 hr1 hr2 hr3
 have hu27:=Tryz.underlying27
 go_enter Tryz.func27,Tryz.ntmps27
 go_upto_region 1 with fail
 have hn:(w.alloc (Obj.cells #[.slice A0 l0.length c0,.slice A1 l1.length c1,.slice A2 l2.length c2,.slice A3 l3.length c3,.int .i64 st] 27)).heap.size=w.heap.size+1:=by simp
 generalize hw0:w.alloc (Obj.cells #[.slice A0 l0.length c0,.slice A1 l1.length c1,.slice A2 l2.length c2,.slice A3 l3.length c3,.int .i64 st] 27)=w0
 have f0:w0.cell? ⟨w.heap.size,0,none⟩=some (.slice A0 l0.length c0):=by subst hw0;go_simp
 have f1:w0.cell? ⟨w.heap.size,1,none⟩=some (.slice A1 l1.length c1):=by subst hw0;go_simp
 have f2:w0.cell? ⟨w.heap.size,2,none⟩=some (.slice A2 l2.length c2):=by subst hw0;go_simp
 have f3:w0.cell? ⟨w.heap.size,3,none⟩=some (.slice A3 l3.length c3):=by subst hw0;go_simp
 have f4:w0.cell? ⟨w.heap.size,4,none⟩=some (.int .i64 st):=by subst hw0;go_simp
 have hb0:Below w.heap.size w w0:=by subst hw0;exact below_alloc (Below.refl _ _) _
 replace f0:=jM f0
 replace f1:=jM f1
 replace f2:=jM f2
 replace f3:=jM f3
 replace f4:=jM f4
 replace hb0:=jM hb0
 have hg:Aside0 (w.heap.size < w0.heap.size):=by subst hw0;exact ⟨by simp⟩
 clear hw0 hn
 generalize hgg:w.heap.size=g at *
 replace hgg:=jM hgg
 go_cut [3,4] from 11 to 16 (fun s3 s4 wr=>∃ b1 b2:Nat,s3=.pointer (some ⟨b1,0,none⟩)∧s4=.pointer (some ⟨b2,0,none⟩)∧Aside0 (wr.cell? ⟨b1,0,none⟩=some (.int .i64 l0.length)∧wr.cell? ⟨b2,0,none⟩=some (.int .i64 l2.length)∧Below w0.heap.size w0 wr))
 case first =>
  have f0':=f0.out
  have f2':=f2.out
  have n0:=World.new_ne w0 _ f0'
  have n2:=World.new_ne w0 _ f2'
  go_region_held3 (fun w'=>w'.cell? ⟨g,0,none⟩=some (.slice A0 l0.length c0)∧w'.cell? ⟨g,2,none⟩=some (.slice A2 l2.length c2)) (go_keep) (fail)
  all_goals (go_wp2_with fail;go_meet;exact ⟨_,_,rfl,rfl,⟨by go_simp,by go_simp,(below_alloc (below_alloc (Below.refl _ _) _) _).drew⟩⟩)
 case rest =>
  obtain ⟨b1,b2,rfl,rfl,hq⟩:=hcut
  have B1:=hq.out.1
  have B2:=hq.out.2.1
  have HB:Aside0 (Below w0.heap.size w0 wc):=⟨hq.out.2.2⟩
  have HWK:Aside0 (Below w.heap.size w wc):=⟨by rw [hgg.out];exact hb0.out.trans (HB.out.mono (Nat.le_of_lt hg.out))⟩
  have F0:=pw_cell_below HB.out f0.out
  have F1:=pw_cell_below HB.out f1.out
  have F2:=pw_cell_below HB.out f2.out
  have F3:=pw_cell_below HB.out f3.out
  have F4:=pw_cell_below HB.out f4.out
  clear hq f0 f1 f2 f3 f4 HB hb0 hg hgg
  have HW:=HWK
  clear HWK
  by_cases h1:(60:Int) < l0.length
  ·have e1:Aside0 (60 < l0.length):=⟨by omega⟩
   go_wp2
   go_ret
   exact ⟨by simp [validB,e1.out],HW.out⟩
  have e1:Aside0 (¬ 60 < l0.length):=⟨by omega⟩
  by_cases h2:(60:Int) < l2.length
  ·have e2:Aside0 (60 < l2.length):=⟨by omega⟩
   go_wp2
   go_ret
   exact ⟨by simp [validB,e2.out],HW.out⟩
  have e2:Aside0 (¬ 60 < l2.length):=⟨by omega⟩
  by_cases h3:(120:Int) < l3.length
  ·have e3:Aside0 (120 < l3.length):=⟨by omega⟩
   go_wp2
   go_ret
   exact ⟨by simp [validB,e3.out],HW.out⟩
  have e3:Aside0 (¬ 120 < l3.length):=⟨by omega⟩
  obtain ⟨p,hp⟩:∃ p,inB st l2.length=p:=⟨_,rfl⟩
  have HP:=jM hp
  clear hp
  cases p
  ·go_wp2_with (go_at_call 46;refine (in_calls _ _ _).mono ?_;rintro e wx ⟨rfl,hwx⟩;rw [hwx,HP.out];clear hwx wx)
   go_ret
   exact ⟨by simp [validB,HP.out],HW.out⟩
  go_wp2_with (go_at_call 46;refine (in_calls _ _ _).mono ?_;rintro e wx ⟨rfl,hwx⟩;rw [hwx,HP.out];clear hwx wx)
  have C0:=jM F0
  have C1:=jM F1
  have C2:=jM F2
  have C3:=jM F3
  have D1:=jM B1
  have D2:=jM B2
  have X1:=jM (Kd.C_below HR1.out HW.out)
  have X3:=jM (Kd.C_below HR3.out HW.out)
  clear F0 F1 F2 F3 F4 B1 B2 h1 h2 h3
  go_loopw [39] (fun v wr=>∃ k:Nat,v=.int .i64 k∧k≤l1.length∧Aside0 ((l1.take k).all (pairB l0.length)=true)∧Aside0 (Below wc.heap.size wc wr)) (fun v _=>l1.length - (intOf v).toNat)
  case atStart=>exact ⟨0,rfl,Nat.zero_le _,⟨by simp⟩,⟨Below.refl _ _⟩⟩
  case round =>
   obtain ⟨k,rfl,hk,HT,HD⟩:=hrel
   have hmx:l1.length≤9223372036854775807:=HR1.out.2.1
   by_cases hlt:k < l1.length
   ·have hltb:decide (k < l1.length)=true:=decide_eq_true (by omega)
    obtain ⟨ad,e1,hx1,hx2⟩:=at_T73 (Kd.C_below X1.out HD.out) (k:Int) (by omega) (by omega)
    rw [Int.toNat_natCast] at hx1 hx2
    have B1:=pw_cell_below HD.out D1.out
    obtain ⟨p,hp⟩:∃ p,inB (rd_T73 l1 k).f0 l0.length=p:=⟨_,rfl⟩
    obtain ⟨q,hq⟩:∃ q,inB (rd_T73 l1 k).f1 l0.length=q:=⟨_,rfl⟩
    have HP1:=jM hp
    have HQ1:=jM hq
    clear hp hq
    subst e1
    have hpq:pairB l0.length l1[k]=(p && q):=by rw [← HP1.out,← HQ1.out,rd63_at l1 k hlt];rfl
    have hall:Aside0 (l1.all (pairB l0.length)=((l1.take k).all (pairB l0.length) && (p && q) && (l1.drop (k+1)).all (pairB l0.length))):=⟨by rw [all_part _ l1 k hlt,hpq]⟩
    have htk:Aside0 ((l1.take (k+1)).all (pairB l0.length)=((l1.take k).all (pairB l0.length) && (p && q))):=⟨by rw [all_take _ l1 k hlt,hpq]⟩
    clear hpq
    go_upto_region 7 with fail
    have HZ:Aside0 (Below wr.heap.size wr (wr.alloc (Obj.cells #[.int .i64 (rd_T73 l1 k).f0,.int .i64 (rd_T73 l1 k).f1] 73))):=⟨below_alloc (Below.refl _ _) _⟩
    have G0:(wr.alloc (Obj.cells #[.int .i64 (rd_T73 l1 k).f0,.int .i64 (rd_T73 l1 k).f1] 73)).cell? ⟨wr.heap.size,0,none⟩=some (.int .i64 (rd_T73 l1 k).f0):=by go_simp
    have G1:(wr.alloc (Obj.cells #[.int .i64 (rd_T73 l1 k).f0,.int .i64 (rd_T73 l1 k).f1] 73)).cell? ⟨wr.heap.size,1,none⟩=some (.int .i64 (rd_T73 l1 k).f1):=by go_simp
    generalize wr.alloc (Obj.cells #[.int .i64 (rd_T73 l1 k).f0,.int .i64 (rd_T73 l1 k).f1] 73)=wy at *
    replace B1:=pw_cell_below HZ.out B1
    replace HZ:Aside0 (Below wc.heap.size wc wy):=⟨below_step HD.out HZ.out⟩
    clear hx1 hx2
    generalize wr.heap.size=gy at *
    cases p
    ·go_wp2_with (go_at_call 46;refine (in_calls _ _ _).mono ?_;rintro e wx ⟨rfl,hwx⟩;rw [hwx,HP1.out];clear hwx wx)
     go_ret
     exact ⟨by simp [validB,hall.out],below_step HW.out HZ.out⟩
    ·cases q
     ·go_wp2_with (go_at_call 46;refine (in_calls _ _ _).mono ?_;rintro e wx ⟨rfl,hwx⟩;first | (rw [hwx,HP1.out];clear hwx wx) | (rw [hwx,HQ1.out];clear hwx wx))
      go_ret
      exact ⟨by simp [validB,hall.out],below_step HW.out HZ.out⟩
     ·go_wp2_with (go_at_call 46;refine (in_calls _ _ _).mono ?_;rintro e wx ⟨rfl,hwx⟩;first | (rw [hwx,HP1.out];clear hwx wx) | (rw [hwx,HQ1.out];clear hwx wx))
      exact ⟨⟨k+1,rfl,by omega,⟨by rw [htk.out,HT.out];rfl⟩,HZ⟩,by simp [intOf];omega⟩
   ·have hltb:decide (k < l1.length)=false:=decide_eq_false (by omega)
    have HA:Aside0 (l1.all (pairB l0.length)=true):=⟨by have:=HT.out;rwa [List.take_of_length_le (by omega)] at this⟩
    have F0:=pw_cell_below HD.out C0.out
    have F2:=pw_cell_below HD.out C2.out
    have F3:=pw_cell_below HD.out C3.out
    have B1:=pw_cell_below HD.out D1.out
    have B2:=pw_cell_below HD.out D2.out
    have Y3:=jM (Kd.C_below X3.out HD.out)
    have Y0:=jM (Kd.C_below (Kd.C_below HR0.out HW.out) HD.out)
    have Y2:=jM (Kd.C_below (Kd.C_below HR2.out HW.out) HD.out)
    have HV:Aside0 (Below w.heap.size w wr):=⟨below_step HW.out HD.out⟩
    clear HT HD HW X1 X3 C0 C1 C2 C3 D1 D2 HR1 HR0 HR2 HR3
    go_wp2
    clear hltb
    have C0:=jM F0
    have C2:=jM F2
    have C3:=jM F3
    have D1:=jM B1
    have D2:=jM B2
    clear F0 F2 F3 B1 B2
    obtain ⟨wv,rfl⟩:∃ wv,wv=wr:=⟨_,rfl⟩
    have hmf:∀ (fn:Fn) (first cap:Array Value) (w:World),(Instr.makeFunc fn first cap).run Tryz.prog w=.ok (.func fn first cap) w:=fun _ _ _ _=>rfl
    go_loopw [59] (fun v wr=>∃ k:Nat,v=.int .i64 k∧k≤l3.length∧Aside0 ((l3.take k).all (prodB l0.length l2.length)=true)∧Aside0 (Below wv.heap.size wv wr)) (fun v _=>l3.length - (intOf v).toNat)
    case atStart=>exact ⟨0,rfl,Nat.zero_le _,⟨by simp⟩,⟨Below.refl _ _⟩⟩
    case round =>
     obtain ⟨k,rfl,hk,HT,HD⟩:=hrel
     have hmx:l3.length≤9223372036854775807:=Y3.out.2.1
     by_cases hlt:k < l3.length
     ·have hltb:decide (k < l3.length)=true:=decide_eq_true (by omega)
      obtain ⟨ad,A4,c4,e4,hx1,hx2,hx3,hx4,hcap,hr4⟩:=at_T68 (Kd.C_below Y3.out HD.out) (k:Int) (by omega) (by omega)
      rw [Int.toNat_natCast] at hx1 hx2 hx3 hx4
      have B1:=pw_cell_below HD.out D1.out
      have B2:=pw_cell_below HD.out D2.out
      have HR4:=jM hr4
      clear hr4 hcap
      obtain ⟨p,hp⟩:∃ p,inB (rd_T68 l3 k).f1 l2.length=p:=⟨_,rfl⟩
      obtain ⟨o,ho⟩:∃ o,(rd_T68 l3 k).f2.any (oddB l0.length l2.length)=o:=⟨_,rfl⟩
      have HP1:=jM hp
      have HO1:=jM ho
      clear hp ho
      subst e4
      have hpq:prodB l0.length l2.length l3[k]=(p && !decide (12 < (rd_T68 l3 k).f2.length) && !o):=by rw [← HP1.out,← HO1.out,rd45_at l3 k hlt];rfl
      have hall:Aside0 (l3.all (prodB l0.length l2.length)=((l3.take k).all (prodB l0.length l2.length) && (p && !decide (12 < (rd_T68 l3 k).f2.length) && !o) && (l3.drop (k+1)).all (prodB l0.length l2.length))):=⟨by rw [all_part _ l3 k hlt,hpq]⟩
      have htk:Aside0 ((l3.take (k+1)).all (prodB l0.length l2.length)=((l3.take k).all (prodB l0.length l2.length) && (p && !decide (12 < (rd_T68 l3 k).f2.length) && !o))):=⟨by rw [all_take _ l3 k hlt,hpq]⟩
      clear hpq
      obtain ⟨n4,hn4⟩:∃ n4,(rd_T68 l3 k).f2.length=n4:=⟨_,rfl⟩
      have HN4:=jM hn4
      rw [hn4] at hx3
      clear hn4
      go_upto_region 14 with fail
      have HZ:Aside0 (Below wr.heap.size wr (wr.alloc (Obj.cells #[.string (rd_T68 l3 k).f0,.int .i64 (rd_T68 l3 k).f1,.slice A4 n4 c4,.int .i64 (rd_T68 l3 k).f3] 68))):=⟨below_alloc (Below.refl _ _) _⟩
      have G1:(wr.alloc (Obj.cells #[.string (rd_T68 l3 k).f0,.int .i64 (rd_T68 l3 k).f1,.slice A4 n4 c4,.int .i64 (rd_T68 l3 k).f3] 68)).cell? ⟨wr.heap.size,1,none⟩=some (.int .i64 (rd_T68 l3 k).f1):=by go_simp
      have G2:(wr.alloc (Obj.cells #[.string (rd_T68 l3 k).f0,.int .i64 (rd_T68 l3 k).f1,.slice A4 n4 c4,.int .i64 (rd_T68 l3 k).f3] 68)).cell? ⟨wr.heap.size,2,none⟩=some (.slice A4 n4 c4):=by go_simp
      generalize wr.alloc (Obj.cells #[.string (rd_T68 l3 k).f0,.int .i64 (rd_T68 l3 k).f1,.slice A4 n4 c4,.int .i64 (rd_T68 l3 k).f3] 68)=wy at *
      replace B1:=pw_cell_below HZ.out B1
      replace B2:=pw_cell_below HZ.out B2
      replace HR4:=jM (Kd.C_below HR4.out HZ.out)
      replace HZ:Aside0 (Below wv.heap.size wv wy):=⟨below_step HD.out HZ.out⟩
      have K1:=jM B1
      have K2:=jM B2
      clear hx1 hx2 hx3 hx4
      generalize wr.heap.size=gy at *
      cases p
      ·go_wp2_with (go_at_call 46;refine (in_calls _ _ _).mono ?_;rintro e wx ⟨rfl,hwx⟩;rw [hwx,HP1.out];clear hwx wx)
       go_ret
       exact ⟨by simp [validB,hall.out],below_step HV.out HZ.out⟩
      ·by_cases h12:(12:Int) < n4
       ·have h12':12 < (rd_T68 l3 k).f2.length:=by rw [HN4.out];omega
        replace h12':=jM h12'
        go_wp2_with (go_at_call 46;refine (in_calls _ _ _).mono ?_;rintro e wx ⟨rfl,hwx⟩;rw [hwx,HP1.out];clear hwx wx)
        go_ret
        exact ⟨by simp [validB,hall.out,h12'.out],below_step HV.out HZ.out⟩
       ·have h12':¬ 12 < (rd_T68 l3 k).f2.length:=by rw [HN4.out];omega
        replace h12':=jM h12'
        have hcont:Aside0 (Calls Tryz.prog 48 #[.slice A4 n4 c4,.func (.func 47) #[] #[.pointer (some ⟨b1,0,none⟩),.pointer (some ⟨b2,0,none⟩)]] wy fun e w'=>e=.returned (.bool o)∧w'=wy):=⟨by have:=contains_odd _ _ _ _ _ c4 _ _ HR4.out K1.out K2.out;rwa [HN4.out,HO1.out] at this⟩
        cases o
        ·go_wp2_with (first | (go_at_call 46;refine (in_calls _ _ _).mono ?_;rintro e wx ⟨rfl,hwx⟩;rw [hwx,HP1.out];clear hwx wx) | (go_at_call 48;refine hcont.out.mono ?_;rintro e wx ⟨rfl,hwx⟩;rw [hwx];clear hwx wx))
         exact ⟨⟨k+1,rfl,by omega,⟨by rw [htk.out,HT.out];simp [h12'.out]⟩,HZ⟩,by simp [intOf];omega⟩
        ·go_wp2_with (first | (go_at_call 46;refine (in_calls _ _ _).mono ?_;rintro e wx ⟨rfl,hwx⟩;rw [hwx,HP1.out];clear hwx wx) | (go_at_call 48;refine hcont.out.mono ?_;rintro e wx ⟨rfl,hwx⟩;rw [hwx];clear hwx wx))
         go_ret
         exact ⟨by simp [validB,hall.out],below_step HV.out HZ.out⟩
     ·have hltb:decide (k < l3.length)=false:=decide_eq_false (by omega)
      have HB3:Aside0 (l3.all (prodB l0.length l2.length)=true):=⟨by have:=HT.out;rwa [List.take_of_length_le (by omega)] at this⟩
      obtain ⟨r1,hr1⟩:∃ r,rises (rdOf ByteArray.empty l2) l2.length=r:=⟨_,rfl⟩
      obtain ⟨r2,hr2⟩:∃ r,rises (fun i=>(rd_T65 l0 i).f0) l0.length=r:=⟨_,rfl⟩
      obtain ⟨r3,hr3⟩:∃ r,rises (fun i=>(rd_T68 l3 i).f0) l3.length=r:=⟨_,rfl⟩
      replace hr1:=jM hr1
      replace hr2:=jM hr2
      replace hr3:=jM hr3
      have F0:=pw_cell_below HD.out C0.out
      have F2:=pw_cell_below HD.out C2.out
      have F3:=pw_cell_below HD.out C3.out
      have Z0:=jM (Kd.C_below Y0.out HD.out)
      have Z2:=jM (Kd.C_below Y2.out HD.out)
      have Z3:=jM (Kd.C_below Y3.out HD.out)
      replace HV:Aside0 (Below w.heap.size w wr):=⟨below_step HV.out HD.out⟩
      clear HD HT C0 C2 C3 D1 D2 Y0 Y2 Y3
      have Q0:=jM F0
      have Q3:=jM F3
      have hv:Aside0 (validB l0 l1 l2 l3 st=(r1 && r2 && r3)):=⟨by simp [validB,e1.out,e2.out,e3.out,HP.out,HA.out,HB3.out,hr1.out,hr2.out,hr3.out,Bool.and_assoc]⟩
      cases r1
      ·go_wp2_with (go_at_call 50;refine (rising_strings _ _ _ _ Z2.out).mono ?_;rintro e wx ⟨rfl,m,rfl⟩;rw [hr1.out])
       go_ret
       exact ⟨by rw [hv.out];rfl,pw_below_drewN HV.out _⟩
      ·cases r2
       ·go_wp2_with (first | (go_at_call 50;refine (rising_strings _ _ _ _ Z2.out).mono ?_;rintro e wx ⟨rfl,m,rfl⟩;rw [hr1.out]) | (go_at_call 51;refine (rising_terms _ _ _ _ (Kd.C_below Z0.out (pw_below_drewN (Below.refl _ _) _))).mono ?_;rintro e wy ⟨rfl,hwy⟩;rw [hr2.out];replace hwy:=jM hwy))
        go_ret
        exact ⟨by rw [hv.out];rfl,below_step (pw_below_drewN HV.out _) hwy.out⟩
       ·go_wp2_with (first | (go_at_call 50;refine (rising_strings _ _ _ _ Z2.out).mono ?_;rintro e wx ⟨rfl,m,rfl⟩;rw [hr1.out]) | (go_at_call 51;refine (rising_terms _ _ _ _ (Kd.C_below Z0.out (pw_below_drewN (Below.refl _ _) _))).mono ?_;rintro e wy ⟨rfl,hwy⟩;rw [hr2.out];have F3:=pw_cell_below hwy (pw_cell_below (pw_below_drewN (Below.refl _ _) _) Q3.out);replace hwy:=jM hwy) | (go_at_call 53;refine (rising_prods _ _ _ _ (Kd.C_below (Kd.C_below Z3.out (pw_below_drewN (Below.refl _ _) _)) hwy.out)).mono ?_;rintro e wu ⟨rfl,hwu⟩;rw [hr3.out];replace hwu:=jM hwu))
        go_ret
        exact ⟨by rw [hv.out];simp,below_step (below_step (pw_below_drewN HV.out _) hwy.out) hwu.out⟩
end Go.Proofs.YtclollnicbcooaaGreatDoor.P
namespace Go.Proofs.YtclollnicbcooaaGreatDoor.P
open Go.RowKit YtclollnicbcooaaGreatDoorW.PrintWords
def inst_Valid.f (l0:List S65) (l1:List S73) (l2:List ByteArray) (l3:List S68) (st:Int):Option Bool:=some (validB l0 l1 l2 l3 st)
theorem inst_Valid.calls (A0:Option Addr) (c0:Nat) (l0:List S65) (A1:Option Addr) (c1:Nat) (l1:List S73) (A2:Option Addr) (c2:Nat) (l2:List ByteArray) (A3:Option Addr) (c3:Nat) (l3:List S68) (st:Int) (r:Bool) (w:World)
  (hr0:Kd.C k65 w A0 l0.length l0) (_:l0.length≤c0) (hr1:Kd.C k73 w A1 l1.length l1) (_:l1.length≤c1) (hr2:Kd.C Kd.string w A2 l2.length l2) (_:l2.length≤c2) (hr3:Kd.C k68 w A3 l3.length l3) (_:l3.length≤c3) (h:inst_Valid.f l0 l1 l2 l3 st=some r) :
  Calls Tryz.prog 27 #[.agg #[.slice A0 l0.length c0,.slice A1 l1.length c1,.slice A2 l2.length c2,.slice A3 l3.length c3,.int .i64 st]] w fun e w'=>e=.returned (.bool r)∧Below w.heap.size w w':=by
 have e:validB l0 l1 l2 l3 st=r:=by unfold inst_Valid.f at h;exact Option.some.inj h
 rw [← e]
 exact valid_calls A0 c0 l0 A1 c1 l1 A2 c2 l2 A3 c3 l3 st w hr0 hr1 hr2 hr3
end Go.Proofs.YtclollnicbcooaaGreatDoor.P
namespace Go.Proofs.YtclollnicbcooaaGreatDoor.P
open Go.RowKit YtclollnicbcooaaGreatDoorW.PrintWords YtclollnicbcooaaGreatDoorW.PrintLast YtclollnicbcooaaGreatDoorW.PrintMore
section
attribute [local go_sem] max2_int min2_int max_two min_two max_three min_three max_four min_four

/-! ### inst_in: function 55 -/
def inst_in.f (a0:Int) (a1:Int):Option (Bool):=if a0 ≥ 0 then (some (decide (a0 < a1))) else (some false)
/-! ### states_right: function 64 -/
def states_right.f (l0_0:List (S65)) (l0_1:List (S73)) (l0_2:List ByteArray) (l0_3:List (S68)) (a0_4:Int) (a1:Int):Option (List Int × Bool):=if a1=(-1) then (some ((([wrap64 ((-1) - a0_4)]:List Int)),true)) else (if a1 < 0 then (some (([]:List Int),false)) else (if a1 ≥ (l0_3.length:Int) then (some (([]:List Int),false)) else (if 0≤a1 then (if a1 < (l0_3.length:Int) then (some ((rd_T68 l0_3 a1).f2,true)) else (none)) else (none))))
set_option maxHeartbeats 8000000 in
set_option maxRecDepth 100000 in
theorem states_right.calls (A0_0:Option Addr) (c0_0:Nat) (l0_0:List (S65)) (A0_1:Option Addr) (c0_1:Nat) (l0_1:List (S73)) (A0_2:Option Addr) (c0_2:Nat) (l0_2:List ByteArray) (P0_3_:Nat→Prop) (A0_3:Option Addr) (c0_3:Nat) (l0_3:List (S68)) (a0_4:Int) (a1:Int) (r1:List Int) (r2:Bool) (w:World) (hr0_0:Kd.C k65 w A0_0 l0_0.length l0_0) (hc0_0:l0_0.length≤c0_0) (hr0_1:Kd.C k73 w A0_1 l0_1.length l0_1) (hc0_1:l0_1.length≤c0_1) (hr0_2:Kd.C Kd.string w A0_2 l0_2.length l0_2) (hc0_2:l0_2.length≤c0_2) (hs0_3:Kd.V k68 68 w w.heap.size (fun k_=>P0_3_ k_) (.slice A0_3 l0_3.length c0_3) l0_3) (h:states_right.f l0_0 l0_1 l0_2 l0_3 a0_4 a1=some (r1,r2)) :
  Calls Tryz.prog 73 #[.agg #[.slice A0_0 l0_0.length c0_0,.slice A0_1 l0_1.length c0_1,.slice A0_2 l0_2.length c0_2,.slice A0_3 l0_3.length c0_3,.int .i64 a0_4],.int .i64 a1] w fun e w'=>∃ v0_:Value,e=.returned (.tuple #[v0_,.bool r2])∧Kd.V (Kd.int .i64) 56 w' w.heap.size (fun k_=>(P0_3_ k_ ∨ w.heap.size≤k_)) v0_ r1∧Below w.heap.size w w':=by
 have hu27:=Tryz.underlying27
 have HR0_0:=jM hr0_0
 have HC0_0:=jM hc0_0
 clear hr0_0 hc0_0
 have HR0_1:=jM hr0_1
 have HC0_1:=jM hc0_1
 clear hr0_1 hc0_1
 have HR0_2:=jM hr0_2
 have HC0_2:=jM hc0_2
 clear hr0_2 hc0_2
 have HO0_3:=jM (show Kd.V k68 68 w w.heap.size (fun k_=>(P0_3_ k_ ∨ w.heap.size≤k_)) (.slice A0_3 l0_3.length c0_3) l0_3 from Kd.V_mono hs0_3 (fun k_ hk=>.inl hk))
 have HB:=jM (Below.refl w.heap.size w)
 have H:(if a1=(-1) then (some ((([wrap64 ((-1) - a0_4)]:List Int)),true)) else (if a1 < 0 then (some (([]:List Int),false)) else (if a1 ≥ (l0_3.length:Int) then (some (([]:List Int),false)) else (if 0≤a1 then (if a1 < (l0_3.length:Int) then (some ((rd_T68 l0_3 a1).f2,true)) else (none)) else (none)))))=some (r1,r2):=h
 clear h
 by_cases c3:a1=(-1)
 ·rw [if_pos c3] at H
  have c3b0:(a1 == (-1))=true:=beq_iff_eq.mpr c3
  have c3b1:(a1 != (-1))=false:=bne_eq_false_iff_eq.mpr c3
  clear c3
  obtain ⟨y102,hy102⟩:∃ y_:List Int,y_=(([wrap64 ((-1) - a0_4)]:List Int)):=⟨_,rfl⟩
  replace H:(some (y102,true))=some (r1,r2):=by first | (rw [hy102];with_reducible exact H) | (have H2_:=(Option.bind_some _ _).symm.trans H;rw [hy102];with_reducible exact H2_) | (have H2_:=(Option.bind_some _ _).symm.trans H;with_reducible exact H2_) | with_reducible exact H | (rw [hy102];exact H) | exact H
  have Ny102:=jM hy102
  clear hy102
  simp only [Option.some.injEq,Prod.mk.injEq] at H
  obtain ⟨rfl,rfl⟩:=H
  go_enter Tryz.func73,Tryz.ntmps73
  go_wp2_with (first | ((with_reducible refine gate_dst (N:=2) rfl ?_);(try (refine gate_guard (by rfl) ?_;dsimp only));refine box_event ?hg (N:=2) ?hd (cs:=#[.slice A0_0 l0_0.length c0_0,.slice A0_1 l0_1.length c0_1,.slice A0_2 l0_2.length c0_2,.slice A0_3 l0_3.length c0_3,.int .i64 a0_4]) (t:=27) ?hr ?_;(case hd=>rfl);(case hg=>rfl);(case hr=>first | (go_simp;done) | (go_simp;rfl));intro gb101 hg w4 hbox hb;have n0_:=jM (Kd.V_below (Kd.V_elderB (by (with_reducible repeat (first | apply jt | apply ju | apply jv));exact HO0_3.out) gb101 (Nat.le_of_eq hg.symm)) hb);have n1_:=jM (jT (tB HB.out) hb);have n2_:=jM (hbox);have n3_:=jM ((by rw [hg];exact (below_size (tB HB.out)):w.heap.size≤gb101));have n4_:=jM ((by rw [hg];exact (below_size (tB HB.out)):w.heap.size≤gb101));clear HO0_3 HB;have HO0_3:=n0_;have HB:=n1_;have BK101:=n2_;have GW101:=n3_;have GE101:=n4_;clear n0_ n1_ n2_ n3_ n4_;clear hb hbox hg;obtain ⟨hcz5_0,hcz5_1,hcz5_2,hcz5_3,hcz5_4⟩:=jC5 BK101.out;have hfz5_0:=jF BK101.out 0;have hfz5_1:=jF BK101.out 1;have hfz5_2:=jF BK101.out 2;have hfz5_3:=jF BK101.out 3;have hfz5_4:=jF BK101.out 4) | ((with_reducible refine gate_dst (N:=12) rfl ?_);(try (refine gate_guard (by rfl) ?_;dsimp only));refine Kd.R_lit (Kd.int .i64) _ 56 ?hg (N:=12) ?hd (xs:=([wrap64 ((-1) - a0_4)]:List Int)) (inner:=[.int .i64 (wrap64 ((-1) - a0_4))]) (ok:=fun _=>True) (okp:=fun _=>True) ?hr ?hp (fun _ hk=>hk) trivial (Below.refl _ _) (Nat.le_refl _) (by simp) ?_;(case hd=>rfl);(case hg=>rfl);(case hr=>first | (go_simp;done) | (go_simp;rfl));(case hp=>exact (Reps.one (show Kd.M (Kd.int .i64) _ _ _ (wrap64 ((-1) - a0_4)) [.int .i64 (wrap64 ((-1) - a0_4))] from rfl) (Reps.none _ _)));intro v103 w6 ho7 hb hg_ hnew_;clear hg_ hnew_;(first | rw [← Ny102.out] at ho7 | (simp only [Int.reduceToNat] at ho7;rw [← Ny102.out] at ho7));replace HO0_3:=jM (Kd.V_elder' (by (with_reducible repeat (first | apply jt | apply ju | apply jv));exact HO0_3.out) (Kd.R_base ho7) hb);have HO104:=jM (Kd.R_lower (Kd.R_newM (M:=fun k_=>(w.heap.size≤k_)) ho7 (below_size (tE HB.out)) (fun k_ h_=>h_)) (below_size (tE HB.out)));replace BK101:=jM (jW (g:=gb101) (o:=.cells #[.slice A0_0 l0_0.length c0_0,.slice A0_1 l0_1.length c0_1,.slice A0_2 l0_2.length c0_2,.slice A0_3 l0_3.length c0_3,.int .i64 a0_4] 27 (0,0)) (tK BK101.out) hb);replace HB:=jM (jT (tE HB.out) hb);clear hb ho7))
  go_ret2
  exact ⟨_,by first | rfl | (simp [errW_none,errW_some] <;> rfl) | (simp [*,errW_none,errW_some] <;> rfl),Kd.V_mono (Kd.R_V (by (with_reducible repeat (first | apply Kd.R_alloc | apply Kd.R_drewN | apply Kd.R_drew));exact Kd.R_mono HO104.out (fun _ hk=>hk.1))) (fun k_ hk=>by first | exact ⟨(.inr (hk.1)),hk.2⟩ | exact (.inr (hk))),tE HB.out⟩
 ·rw [if_neg c3] at H
  have c3b0:(a1 == (-1))=false:=beq_eq_false_iff_ne.mpr c3
  have c3b1:(a1 != (-1))=true:=bne_iff_ne.mpr c3
  by_cases c8:a1 < 0
  ·rw [if_pos c8] at H
   have c8b0:decide (a1 < 0)=true:=decide_eq_true c8
   clear c8
   simp only [Option.some.injEq,Prod.mk.injEq] at H
   obtain ⟨rfl,rfl⟩:=H
   go_enter Tryz.func73,Tryz.ntmps73
   go_wp2_with (first | ((with_reducible refine gate_dst (N:=2) rfl ?_);(try (refine gate_guard (by rfl) ?_;dsimp only));refine box_event ?hg (N:=2) ?hd (cs:=#[.slice A0_0 l0_0.length c0_0,.slice A0_1 l0_1.length c0_1,.slice A0_2 l0_2.length c0_2,.slice A0_3 l0_3.length c0_3,.int .i64 a0_4]) (t:=27) ?hr ?_;(case hd=>rfl);(case hg=>rfl);(case hr=>first | (go_simp;done) | (go_simp;rfl));intro gb101 hg w9 hbox hb;have n0_:=jM (Kd.V_below (Kd.V_elderB (by (with_reducible repeat (first | apply jt | apply ju | apply jv));exact HO0_3.out) gb101 (Nat.le_of_eq hg.symm)) hb);have n1_:=jM (jT (tB HB.out) hb);have n2_:=jM (hbox);have n3_:=jM ((by rw [hg];exact (below_size (tB HB.out)):w.heap.size≤gb101));have n4_:=jM ((by rw [hg];exact (below_size (tB HB.out)):w.heap.size≤gb101));clear HO0_3 HB;have HO0_3:=n0_;have HB:=n1_;have BK101:=n2_;have GW101:=n3_;have GE101:=n4_;clear n0_ n1_ n2_ n3_ n4_;clear hb hbox hg))
   go_ret2
   exact ⟨_,by first | rfl | (simp [errW_none,errW_some] <;> rfl) | (simp [*,errW_none,errW_some] <;> rfl),Kd.V_mono (Kd.R_V (show Kd.R (Kd.int .i64) 56 _ w.heap.size (fun k_=>w.heap.size≤k_) (.slice none 0 0) [] from Kd.R_nil _ _ _ _ _)) (fun k_ hk=>by first | exact ⟨(.inr (hk.1)),hk.2⟩ | exact (.inr (hk))),tE HB.out⟩
  ·rw [if_neg c8] at H
   have c8b0:decide (a1 < 0)=false:=decide_eq_false c8
   clear c8
   by_cases c10:a1 ≥ (l0_3.length:Int)
   ·rw [if_pos c10] at H
    have c10b0:decide ((l0_3.length:Int)≤a1)=true:=decide_eq_true c10
    clear c10
    simp only [Option.some.injEq,Prod.mk.injEq] at H
    obtain ⟨rfl,rfl⟩:=H
    go_enter Tryz.func73,Tryz.ntmps73
    go_wp2_with (first | ((with_reducible refine gate_dst (N:=2) rfl ?_);(try (refine gate_guard (by rfl) ?_;dsimp only));refine box_event ?hg (N:=2) ?hd (cs:=#[.slice A0_0 l0_0.length c0_0,.slice A0_1 l0_1.length c0_1,.slice A0_2 l0_2.length c0_2,.slice A0_3 l0_3.length c0_3,.int .i64 a0_4]) (t:=27) ?hr ?_;(case hd=>rfl);(case hg=>rfl);(case hr=>first | (go_simp;done) | (go_simp;rfl));intro gb101 hg w11 hbox hb;have n0_:=jM (Kd.V_below (Kd.V_elderB (by (with_reducible repeat (first | apply jt | apply ju | apply jv));exact HO0_3.out) gb101 (Nat.le_of_eq hg.symm)) hb);have n1_:=jM (jT (tB HB.out) hb);have n2_:=jM (hbox);have n3_:=jM ((by rw [hg];exact (below_size (tB HB.out)):w.heap.size≤gb101));have n4_:=jM ((by rw [hg];exact (below_size (tB HB.out)):w.heap.size≤gb101));clear HO0_3 HB;have HO0_3:=n0_;have HB:=n1_;have BK101:=n2_;have GW101:=n3_;have GE101:=n4_;clear n0_ n1_ n2_ n3_ n4_;clear hb hbox hg;obtain ⟨hcz12_0,hcz12_1,hcz12_2,hcz12_3,hcz12_4⟩:=jC5 BK101.out;have hfz12_0:=jF BK101.out 0;have hfz12_1:=jF BK101.out 1;have hfz12_2:=jF BK101.out 2;have hfz12_3:=jF BK101.out 3;have hfz12_4:=jF BK101.out 4))
    go_ret2
    exact ⟨_,by first | rfl | (simp [errW_none,errW_some] <;> rfl) | (simp [*,errW_none,errW_some] <;> rfl),Kd.V_mono (Kd.R_V (show Kd.R (Kd.int .i64) 56 _ w.heap.size (fun k_=>w.heap.size≤k_) (.slice none 0 0) [] from Kd.R_nil _ _ _ _ _)) (fun k_ hk=>by first | exact ⟨(.inr (hk.1)),hk.2⟩ | exact (.inr (hk))),tE HB.out⟩
   ·rw [if_neg c10] at H
    have c10b0:decide ((l0_3.length:Int)≤a1)=false:=decide_eq_false c10
    clear c10
    by_cases c13:0≤a1
    ·rw [if_pos c13] at H
     have c13b0:decide (0≤a1)=true:=decide_eq_true c13
     clear c13
     by_cases c14:a1 < (l0_3.length:Int)
     ·rw [if_pos c14] at H
      have c14b0:decide (a1 < (l0_3.length:Int))=true:=decide_eq_true c14
      clear c14
      simp only [Option.some.injEq,Prod.mk.injEq] at H
      obtain ⟨rfl,rfl⟩:=H
      go_enter Tryz.func73,Tryz.ntmps73
      go_wp2_with (first | ((with_reducible refine gate_dst (N:=2) rfl ?_);(try (refine gate_guard (by rfl) ?_;dsimp only));refine box_event ?hg (N:=2) ?hd (cs:=#[.slice A0_0 l0_0.length c0_0,.slice A0_1 l0_1.length c0_1,.slice A0_2 l0_2.length c0_2,.slice A0_3 l0_3.length c0_3,.int .i64 a0_4]) (t:=27) ?hr ?_;(case hd=>rfl);(case hg=>rfl);(case hr=>first | (go_simp;done) | (go_simp;rfl));intro gb101 hg w15 hbox hb;have n0_:=jM (Kd.V_below (Kd.V_elderB (by (with_reducible repeat (first | apply jt | apply ju | apply jv));exact HO0_3.out) gb101 (Nat.le_of_eq hg.symm)) hb);have n1_:=jM (jT (tB HB.out) hb);have n2_:=jM (hbox);have n3_:=jM ((by rw [hg];exact (below_size (tB HB.out)):w.heap.size≤gb101));have n4_:=jM ((by rw [hg];exact (below_size (tB HB.out)):w.heap.size≤gb101));clear HO0_3 HB;have HO0_3:=n0_;have HB:=n1_;have BK101:=n2_;have GW101:=n3_;have GE101:=n4_;clear n0_ n1_ n2_ n3_ n4_;clear hb hbox hg;obtain ⟨hcz16_0,hcz16_1,hcz16_2,hcz16_3,hcz16_4⟩:=jC5 BK101.out;have hfz16_0:=jF BK101.out 0;have hfz16_1:=jF BK101.out 1;have hfz16_2:=jF BK101.out 2;have hfz16_3:=jF BK101.out 3;have hfz16_4:=jF BK101.out 4;have p105:0≤(a1:Int):=of_decide_eq_true tD;have q105:a1 < (l0_3.length:Int):=of_decide_eq_true tD;obtain ⟨ad105,A105_2,c105_2,e105,hx105_0,hx105_1,hx105_2,hx105_3,hl105_2,hi105_2⟩:=at_T68 (Kd.V_reads' HO0_3.out).2.2 a1 p105 q105;cases e105;obtain ⟨ce105,hce105,hMe105,hcc105⟩:=Kd.V_get HO0_3.out z68 a1 p105 (by first | exact q105 | exact of_decide_eq_true tD | (have e_:=(Kd.V_reads' HO0_3.out).1;omega));obtain ⟨ua105_2,uc105_2,rfl,ul105_2,ge105_2⟩:=k68_openF hMe105;have hv105_2:=hcc105 2 _ rfl;rw [add_field _ _ 2 (by omega)] at hv105_2;replace hv105_2:=Option.some.inj (hv105_2.symm.trans hx105_2);injection hv105_2 with hva_ hvn_ hvc_;rw [hva_] at ge105_2;rw [hvc_] at ul105_2;have HL105_2:=jM (show Kd.V (Kd.int .i64) 56 _ w.heap.size _ _ ((rd_T68 l0_3 a1).f2) from Kd.V_mk ul105_2 ge105_2);clear hva_ hvn_ hvc_ ge105_2 ul105_2;clear hcc105 hce105;have HR105_2:=jM hi105_2;have HC105_2:=jM hl105_2;clear hi105_2 hl105_2;replace p105:=eq_true p105;replace q105:=eq_true q105))
      go_ret2
      exact ⟨_,by first | rfl | (simp [errW_none,errW_some] <;> rfl) | (simp [*,errW_none,errW_some] <;> rfl),by (with_reducible repeat (first | apply jt | apply ju | apply jv));exact Kd.V_mono HL105_2.out (fun _ hk=>hk.1),tE HB.out⟩
     ·rw [if_neg c14] at H
      exact absurd H (by simp)
    ·rw [if_neg c13] at H
     exact absurd H (by simp)

/-! ### states_is: function 65 -/
def states_is.f (l0_0:List (S65)) (l0_1:List (S73)) (l0_2:List ByteArray) (l0_3:List (S68)) (a0_4:Int) (a1_0:Int) (a1_1:Int):Option (Bool):=(states_right.f l0_0 l0_1 l0_2 l0_3 a0_4 a1_0).bind fun bt108=>(if bt108.2=true then (if a1_1 ≥ 0 then (some (decide (a1_1≤(bt108.1.length:Int)))) else (some false)) else (some false))
def states_behind.f (l0_0:List (S65)) (l0_1:List (S73)) (l0_2:List ByteArray) (l0_3:List (S68)) (a0_4:Int) (a1_0:Int) (a1_1:Int):Option (Int × Bool):=(states_right.f l0_0 l0_1 l0_2 l0_3 a0_4 a1_0).bind fun bt114=>((states_is.f l0_0 l0_1 l0_2 l0_3 a0_4 a1_0 a1_1).bind fun t118=>(if t118=true then (if a1_1=(bt114.1.length:Int) then (some (0,false)) else (if 0≤a1_1 then (if a1_1 < (bt114.1.length:Int) then (some (rd bt114.1 a1_1,true)) else (none)) else (none))) else (some (0,false))))
def states_Behind.f (l0_0:List (S65)) (l0_1:List (S73)) (l0_2:List ByteArray) (l0_3:List (S68)) (a0_4:Int) (a1_0:Int) (a1_1:Int):Option (Int × Bool):=(inst_Valid.f l0_0 l0_1 l0_2 l0_3 a0_4).bind fun t122=>(if t122=true then ((states_behind.f l0_0 l0_1 l0_2 l0_3 a0_4 a1_0 a1_1).bind fun bt123=>(some (bt123.1,bt123.2))) else (some (0,false)))
theorem fiv5 {w:World} {g:Nat} {u0 u1 u2 u3 u4:Value} {t:TypeId} (h:w.heap[g]? = some (.cells #[u0,u1,u2,u3,u4] t (0,0))) :
  w.cell? ⟨g,0,none⟩=some u0∧w.cell? ⟨g,1,none⟩=some u1∧w.cell? ⟨g,2,none⟩=some u2∧w.cell? ⟨g,3,none⟩=some u3∧w.cell? ⟨g,4,none⟩=some u4 :=
 ⟨jC h 0,jC h 1,jC h 2,jC h 3,jC h 4⟩
theorem box2 (w:World) (G I:Array Value) (t:Nat):((w.alloc (Obj.cells G 27)).alloc (Obj.cells I t)).heap[w.heap.size]? = some (.cells G 27 (0,0))∧((w.alloc (Obj.cells G 27)).alloc (Obj.cells I t)).heap[w.heap.size+1]? = some (.cells I t (0,0))∧Below w.heap.size w ((w.alloc (Obj.cells G 27)).alloc (Obj.cells I t)):=by
 refine ⟨jX (blk_new w _) _, ?_,jA (jA (Below.refl _ _) _) _⟩
 have h:=blk_new (w.alloc (Obj.cells G 27)) (Obj.cells I t)
 rw [World.size_alloc] at h
 exact h
section
variable (A0:Option Addr) (c0:Nat) (l0:List S65) (A1:Option Addr) (c1:Nat) (l1:List S73) (A2:Option Addr) (c2:Nat) (l2:List ByteArray) (A3:Option Addr) (c3:Nat) (l3:List S68) (st:Int) (a b:Int) (w:World)
  (hr0:Kd.C k65 w A0 l0.length l0) (hc0:l0.length≤c0) (hr1:Kd.C k73 w A1 l1.length l1) (hc1:l1.length≤c1) (hr2:Kd.C Kd.string w A2 l2.length l2) (hc2:l2.length≤c2) (hr3:Kd.C k68 w A3 l3.length l3) (hc3:l3.length≤c3)
include hr0 hc0 hr1 hc1 hr2 hc2 hr3 hc3
theorem right_c (r1:List Int) (r2:Bool) (h:states_right.f l0 l1 l2 l3 st a=some (r1,r2)):Calls Tryz.prog 73 #[.agg #[.slice A0 l0.length c0,.slice A1 l1.length c1,.slice A2 l2.length c2,.slice A3 l3.length c3,.int .i64 st],.int .i64 a] w fun e w'=>∃ A c,e=.returned (.tuple #[.slice A r1.length c,.bool r2])∧Kd.C (Kd.int .i64) w' A r1.length r1∧Below w.heap.size w w':=by
 refine (states_right.calls A0 c0 l0 A1 c1 l1 A2 c2 l2 (fun k_=>k_ < w.heap.size) A3 c3 l3 st a r1 r2 w hr0 hc0 hr1 hc1 hr2 hc2 (Kd.V_mk hc3 (Kd.C_F k68_heap hr3)) h).mono ?_
 rintro e w' ⟨v,rfl,hV,hb⟩
 obtain ⟨A,c,rfl⟩:=Kd.V_slice hV
 exact ⟨A,c,rfl,(Kd.V_reads' hV).2.2,hb⟩
set_option maxHeartbeats 4000000 in
set_option maxRecDepth 100000 in
theorem is_walk (r:Bool) (h:states_is.f l0 l1 l2 l3 st a b=some r) :
  Calls Tryz.prog 56 #[.agg #[.slice A0 l0.length c0,.slice A1 l1.length c1,.slice A2 l2.length c2,.slice A3 l3.length c3,.int .i64 st],.agg #[.int .i64 a,.int .i64 b]] w fun e w'=>e=.returned (.bool r)∧Below w.heap.size w w':=by
 have hu27:=Tryz.underlying27
 have hu77:=Tryz.underlying77
 unfold states_is.f at h
 obtain ⟨⟨r1,r2⟩,hr,h⟩:=Option.bind_eq_some_iff.1 h
 have HR:=jM fun (W:World) (hb:Below w.heap.size w W)=>right_c A0 c0 l0 A1 c1 l1 A2 c2 l2 A3 c3 l3 st a W (jB hr0 hb) hc0 (jB hr1 hb) hc1 (jB hr2 hb) hc2 (jB hr3 hb) hc3 r1 r2 hr
 have HH:=jM h
 clear hr0 hc0 hr1 hc1 hr2 hc2 hr3 hc3 h hr
 go_enter Tryz.func56,Tryz.ntmps56
 go_upto_region 1 with fail
 obtain ⟨b0,b1,hb⟩:=box2 w #[.slice A0 l0.length c0,.slice A1 l1.length c1,.slice A2 l2.length c2,.slice A3 l3.length c3,.int .i64 st] #[.int .i64 a,.int .i64 b] 77
 generalize (w.alloc (Obj.cells #[.slice A0 l0.length c0,.slice A1 l1.length c1,.slice A2 l2.length c2,.slice A3 l3.length c3,.int .i64 st] 27)).alloc (Obj.cells #[.int .i64 a,.int .i64 b] 77)=w1 at *
 obtain ⟨y0,y1,y2,y3,y4⟩:=fiv5 b0
 have z0:w1.cell? ⟨w.heap.size+1,0,none⟩=some (.int .i64 a):=jC b1 0
 have B1:=jM b1
 have HB:=jM hb
 clear b0 b1 hb
 go_upto_region 2 with (go_at_call 73;(with_reducible refine (HR.out w1 HB.out).mono ?_);rintro e w2 ⟨A,c,rfl, -,hb2⟩;have HB2:=jM (jT HB.out hb2);have B2:=jM (jW B1.out hb2);clear hb2)
 clear y0 y1 y2 y3 y4 z0
 have z1:w2.cell? ⟨w.heap.size+1,1,none⟩=some (.int .i64 b):=jC B2.out 1
 have h:=HH.out
 clear HH
 cases r2 with
 | false =>
  rw [if_neg (by decide)] at h
  obtain rfl:=Option.some.inj h
  go_wp2_with fail
  go_ret
  exact ⟨rfl,HB2.out⟩
 | true =>
  rw [if_pos rfl] at h
  by_cases k:b ≥ 0
  ·rw [if_pos k] at h
   obtain rfl:=Option.some.inj h
   have f1:decide (0≤b)=true:=decide_eq_true k
   clear k
   go_wp2_with fail
   go_ret
   exact ⟨rfl,HB2.out⟩
  ·rw [if_neg k] at h
   obtain rfl:=Option.some.inj h
   have f1:decide (0≤b)=false:=decide_eq_false k
   clear k
   go_wp2_with fail
   go_ret
   exact ⟨rfl,HB2.out⟩
set_option maxHeartbeats 4000000 in
set_option maxRecDepth 100000 in
theorem behind_walk (q1:Int) (q2:Bool) (h:states_behind.f l0 l1 l2 l3 st a b=some (q1,q2)) :
  Calls Tryz.prog 57 #[.agg #[.slice A0 l0.length c0,.slice A1 l1.length c1,.slice A2 l2.length c2,.slice A3 l3.length c3,.int .i64 st],.agg #[.int .i64 a,.int .i64 b]] w fun e w'=>e=.returned (.tuple #[.int .i64 q1,.bool q2])∧Below w.heap.size w w':=by
 have hu27:=Tryz.underlying27
 have hu77:=Tryz.underlying77
 unfold states_behind.f at h
 obtain ⟨⟨r1,r2⟩,hr,h⟩:=Option.bind_eq_some_iff.1 h
 obtain ⟨t,ht,h⟩:=Option.bind_eq_some_iff.1 h
 have HR:=jM fun (W:World) (hb:Below w.heap.size w W)=>right_c A0 c0 l0 A1 c1 l1 A2 c2 l2 A3 c3 l3 st a W (jB hr0 hb) hc0 (jB hr1 hb) hc1 (jB hr2 hb) hc2 (jB hr3 hb) hc3 r1 r2 hr
 have HI:=jM fun (W:World) (hb:Below w.heap.size w W)=>is_walk A0 c0 l0 A1 c1 l1 A2 c2 l2 A3 c3 l3 st a b W (jB hr0 hb) hc0 (jB hr1 hb) hc1 (jB hr2 hb) hc2 (jB hr3 hb) hc3 t ht
 have HH:=jM h
 clear hr0 hc0 hr1 hc1 hr2 hc2 hr3 hc3 h hr ht
 go_enter Tryz.func57,Tryz.ntmps57
 go_upto_region 1 with fail
 obtain ⟨b0,b1,hb⟩:=box2 w #[.slice A0 l0.length c0,.slice A1 l1.length c1,.slice A2 l2.length c2,.slice A3 l3.length c3,.int .i64 st] #[.int .i64 a,.int .i64 b] 77
 generalize (w.alloc (Obj.cells #[.slice A0 l0.length c0,.slice A1 l1.length c1,.slice A2 l2.length c2,.slice A3 l3.length c3,.int .i64 st] 27)).alloc (Obj.cells #[.int .i64 a,.int .i64 b] 77)=w1 at *
 obtain ⟨y0,y1,y2,y3,y4⟩:=fiv5 b0
 have z0:w1.cell? ⟨w.heap.size+1,0,none⟩=some (.int .i64 a):=jC b1 0
 have B0:=jM b0
 have B1:=jM b1
 have HB:=jM hb
 clear b0 b1 hb
 go_upto_region 2 with (go_at_call 73;(with_reducible refine (HR.out w1 HB.out).mono ?_);rintro e w2 ⟨A,c,rfl,hA,hb2⟩;have HA:=jM hA;have HB2:=jM (jT HB.out hb2);have B02:=jM (jW B0.out hb2);have B12:=jM (jW B1.out hb2);clear hA hb2)
 clear y0 y1 y2 y3 y4 z0
 obtain ⟨y0,y1,y2,y3,y4⟩:=fiv5 B02.out
 have z0:w2.cell? ⟨w.heap.size+1,0,none⟩=some (.int .i64 a):=jC B12.out 0
 have z1:w2.cell? ⟨w.heap.size+1,1,none⟩=some (.int .i64 b):=jC B12.out 1
 have h:=HH.out
 clear HH
 cases t with
 | false =>
  rw [if_neg (by decide)] at h
  obtain ⟨rfl,rfl⟩:=Prod.mk.inj (Option.some.inj h)
  go_wp2_with (go_at_call 56;(with_reducible refine (HI.out w2 HB2.out).mono ?_);rintro e w3 ⟨rfl,hb3⟩;have HB3:=jM (jT HB2.out hb3);clear hb3)
  go_ret2
  exact ⟨rfl,HB3.out⟩
 | true =>
  rw [if_pos rfl] at h
  by_cases k:b=(r1.length:Int)
  ·rw [if_pos k] at h
   obtain ⟨rfl,rfl⟩:=Prod.mk.inj (Option.some.inj h)
   have f1:(b == (r1.length:Int))=true:=beq_iff_eq.2 k
   have HK:=jM k
   clear k
   go_wp2_with (go_at_call 56;(with_reducible refine (HI.out w2 HB2.out).mono ?_);rintro e w3 ⟨rfl,hb3⟩;have HB3:=jM (jT HB2.out hb3);have w1':w3.cell? ⟨w.heap.size+1,1,none⟩=some (.int .i64 b):=jC (jW B12.out hb3) 1;clear hb3)
   go_ret2
   exact ⟨rfl,HB3.out⟩
  ·rw [if_neg k] at h
   have f1:(b == (r1.length:Int))=false:=beq_eq_false_iff_ne.2 k
   clear k
   split at h
   ·rename_i p0
    split at h
    ·rename_i p1
     obtain ⟨rfl,rfl⟩:=Prod.mk.inj (Option.some.inj h)
     obtain ⟨ad,rfl,hx⟩:=Kd.at_int HA.out b p0 p1
     have HX:=jM hx
     have HLT:=jM (jL _ _ hx)
     clear hx
     go_wp2_with (go_at_call 56;(with_reducible refine (HI.out w2 HB2.out).mono ?_);rintro e w3 ⟨rfl,hb3⟩;have HB3:=jM (jT HB2.out hb3);have w1':w3.cell? ⟨w.heap.size+1,1,none⟩=some (.int .i64 b):=jC (jW B12.out hb3) 1;have hx:=(Below.cell hb3 HLT.out).trans HX.out;clear hb3)
     go_ret2
     exact ⟨rfl,HB3.out⟩
    ·cases h
   ·cases h
set_option maxHeartbeats 4000000 in
set_option maxRecDepth 100000 in
theorem Behind_walk (hv:∀ (W:World) (hb:Below w.heap.size w W) (v:Bool),inst_Valid.f l0 l1 l2 l3 st=some v→Calls Tryz.prog 27 #[.agg #[.slice A0 l0.length c0,.slice A1 l1.length c1,.slice A2 l2.length c2,.slice A3 l3.length c3,.int .i64 st]] W fun e w'=>e=.returned (.bool v)∧Below W.heap.size W w') (q1:Int) (q2:Bool) (h:states_Behind.f l0 l1 l2 l3 st a b=some (q1,q2)) :
  Calls Tryz.prog 79 #[.agg #[.slice A0 l0.length c0,.slice A1 l1.length c1,.slice A2 l2.length c2,.slice A3 l3.length c3,.int .i64 st],.agg #[.int .i64 a,.int .i64 b]] w fun e w'=>e=.returned (.tuple #[.int .i64 q1,.bool q2])∧Below w.heap.size w w':=by
 have hu27:=Tryz.underlying27
 have hu77:=Tryz.underlying77
 unfold states_Behind.f at h
 obtain ⟨t,ht,h⟩:=Option.bind_eq_some_iff.1 h
 have HV:=jM fun (W:World) (hb:Below w.heap.size w W)=>hv W hb t ht
 have HI:=jM fun (W:World) (hb:Below w.heap.size w W)=>behind_walk A0 c0 l0 A1 c1 l1 A2 c2 l2 A3 c3 l3 st a b W (jB hr0 hb) hc0 (jB hr1 hb) hc1 (jB hr2 hb) hc2 (jB hr3 hb) hc3
 have HH:=jM h
 clear hr0 hc0 hr1 hc1 hr2 hc2 hr3 hc3 h ht hv
 go_enter Tryz.func79,Tryz.ntmps79
 go_upto_region 1 with fail
 obtain ⟨b0,b1,hb⟩:=box2 w #[.slice A0 l0.length c0,.slice A1 l1.length c1,.slice A2 l2.length c2,.slice A3 l3.length c3,.int .i64 st] #[.int .i64 a,.int .i64 b] 77
 generalize (w.alloc (Obj.cells #[.slice A0 l0.length c0,.slice A1 l1.length c1,.slice A2 l2.length c2,.slice A3 l3.length c3,.int .i64 st] 27)).alloc (Obj.cells #[.int .i64 a,.int .i64 b] 77)=w1 at *
 obtain ⟨y0,y1,y2,y3,y4⟩:=fiv5 b0
 have B0:=jM b0
 have B1:=jM b1
 have HB:=jM hb
 clear b0 b1 hb
 have h:=HH.out
 clear HH
 cases t with
 | false =>
  rw [if_neg (by decide)] at h
  obtain ⟨rfl,rfl⟩:=Prod.mk.inj (Option.some.inj h)
  go_wp2_with (go_at_call 27;(with_reducible refine (HV.out w1 HB.out).mono ?_);rintro e w3 ⟨rfl,hb3⟩;have HB3:=jM (jT HB.out hb3);clear hb3)
  go_ret2
  exact ⟨rfl,HB3.out⟩
 | true =>
  rw [if_pos rfl] at h
  obtain ⟨⟨p1,p2⟩,hp,h⟩:=Option.bind_eq_some_iff.1 h
  obtain ⟨rfl,rfl⟩:=Prod.mk.inj (Option.some.inj h)
  have HP:=jM hp
  clear hp h
  go_upto_region 3 with (go_at_call 27;(with_reducible refine (HV.out w1 HB.out).mono ?_);rintro e w3 ⟨rfl,hb3⟩;have HB3:=jM (jT HB.out hb3);have B03:=jM (jW B0.out hb3);have B13:=jM (jW B1.out hb3);clear hb3)
  clear y0 y1 y2 y3 y4
  obtain ⟨y0,y1,y2,y3,y4⟩:=fiv5 B03.out
  have z0:w3.cell? ⟨w.heap.size+1,0,none⟩=some (.int .i64 a):=jC B13.out 0
  have z1:w3.cell? ⟨w.heap.size+1,1,none⟩=some (.int .i64 b):=jC B13.out 1
  go_wp2_with (go_at_call 57;(with_reducible refine (HI.out w3 HB3.out _ _ HP.out).mono ?_);rintro e w4 ⟨rfl,hb4⟩;have HB4:=jM (jT HB3.out hb4);clear hb4)
  go_ret2
  exact ⟨rfl,HB4.out⟩
end
theorem states_is.calls (A0_0:Option Addr) (c0_0:Nat) (l0_0:List (S65)) (A0_1:Option Addr) (c0_1:Nat) (l0_1:List (S73)) (A0_2:Option Addr) (c0_2:Nat) (l0_2:List ByteArray) (A0_3:Option Addr) (c0_3:Nat) (l0_3:List (S68)) (a0_4:Int) (a1_0:Int) (a1_1:Int) (r:Bool) (w:World) (hr0_0:Kd.C k65 w A0_0 l0_0.length l0_0) (hc0_0:l0_0.length≤c0_0) (hr0_1:Kd.C k73 w A0_1 l0_1.length l0_1) (hc0_1:l0_1.length≤c0_1) (hr0_2:Kd.C Kd.string w A0_2 l0_2.length l0_2) (hc0_2:l0_2.length≤c0_2) (hr0_3:Kd.C k68 w A0_3 l0_3.length l0_3) (hc0_3:l0_3.length≤c0_3) (h:states_is.f l0_0 l0_1 l0_2 l0_3 a0_4 a1_0 a1_1=some r) :
  Calls Tryz.prog 56 #[.agg #[.slice A0_0 l0_0.length c0_0,.slice A0_1 l0_1.length c0_1,.slice A0_2 l0_2.length c0_2,.slice A0_3 l0_3.length c0_3,.int .i64 a0_4],.agg #[.int .i64 a1_0,.int .i64 a1_1]] w fun e w'=>e=.returned (.bool r)∧Below w.heap.size w w' :=
 is_walk A0_0 c0_0 l0_0 A0_1 c0_1 l0_1 A0_2 c0_2 l0_2 A0_3 c0_3 l0_3 a0_4 a1_0 a1_1 w hr0_0 hc0_0 hr0_1 hc0_1 hr0_2 hc0_2 hr0_3 hc0_3 r h
theorem states_behind.calls (A0_0:Option Addr) (c0_0:Nat) (l0_0:List (S65)) (A0_1:Option Addr) (c0_1:Nat) (l0_1:List (S73)) (A0_2:Option Addr) (c0_2:Nat) (l0_2:List ByteArray) (A0_3:Option Addr) (c0_3:Nat) (l0_3:List (S68)) (a0_4:Int) (a1_0:Int) (a1_1:Int) (r1:Int) (r2:Bool) (w:World) (hr0_0:Kd.C k65 w A0_0 l0_0.length l0_0) (hc0_0:l0_0.length≤c0_0) (hr0_1:Kd.C k73 w A0_1 l0_1.length l0_1) (hc0_1:l0_1.length≤c0_1) (hr0_2:Kd.C Kd.string w A0_2 l0_2.length l0_2) (hc0_2:l0_2.length≤c0_2) (hr0_3:Kd.C k68 w A0_3 l0_3.length l0_3) (hc0_3:l0_3.length≤c0_3) (h:states_behind.f l0_0 l0_1 l0_2 l0_3 a0_4 a1_0 a1_1=some (r1,r2)) :
  Calls Tryz.prog 57 #[.agg #[.slice A0_0 l0_0.length c0_0,.slice A0_1 l0_1.length c0_1,.slice A0_2 l0_2.length c0_2,.slice A0_3 l0_3.length c0_3,.int .i64 a0_4],.agg #[.int .i64 a1_0,.int .i64 a1_1]] w fun e w'=>e=.returned (.tuple #[.int .i64 r1,.bool r2])∧Below w.heap.size w w' :=
 behind_walk A0_0 c0_0 l0_0 A0_1 c0_1 l0_1 A0_2 c0_2 l0_2 A0_3 c0_3 l0_3 a0_4 a1_0 a1_1 w hr0_0 hc0_0 hr0_1 hc0_1 hr0_2 hc0_2 hr0_3 hc0_3 r1 r2 h
theorem states_Behind.calls (A0_0:Option Addr) (c0_0:Nat) (l0_0:List (S65)) (A0_1:Option Addr) (c0_1:Nat) (l0_1:List (S73)) (A0_2:Option Addr) (c0_2:Nat) (l0_2:List ByteArray) (A0_3:Option Addr) (c0_3:Nat) (l0_3:List (S68)) (a0_4:Int) (a1_0:Int) (a1_1:Int) (r1:Int) (r2:Bool) (w:World) (hr0_0:Kd.C k65 w A0_0 l0_0.length l0_0) (hc0_0:l0_0.length≤c0_0) (hr0_1:Kd.C k73 w A0_1 l0_1.length l0_1) (hc0_1:l0_1.length≤c0_1) (hr0_2:Kd.C Kd.string w A0_2 l0_2.length l0_2) (hc0_2:l0_2.length≤c0_2) (hr0_3:Kd.C k68 w A0_3 l0_3.length l0_3) (hc0_3:l0_3.length≤c0_3) (h:states_Behind.f l0_0 l0_1 l0_2 l0_3 a0_4 a1_0 a1_1=some (r1,r2)) :
  Calls Tryz.prog 79 #[.agg #[.slice A0_0 l0_0.length c0_0,.slice A0_1 l0_1.length c0_1,.slice A0_2 l0_2.length c0_2,.slice A0_3 l0_3.length c0_3,.int .i64 a0_4],.agg #[.int .i64 a1_0,.int .i64 a1_1]] w fun e w'=>e=.returned (.tuple #[.int .i64 r1,.bool r2])∧Below w.heap.size w w' :=
 Behind_walk A0_0 c0_0 l0_0 A0_1 c0_1 l0_1 A0_2 c0_2 l0_2 A0_3 c0_3 l0_3 a0_4 a1_0 a1_1 w hr0_0 hc0_0 hr0_1 hc0_1 hr0_2 hc0_2 hr0_3 hc0_3 (fun W hb v hv=>inst_Valid.calls A0_0 c0_0 l0_0 A0_1 c0_1 l0_1 A0_2 c0_2 l0_2 A0_3 c0_3 l0_3 a0_4 v W (jB hr0_0 hb) hc0_0 (jB hr0_1 hb) hc0_1 (jB hr0_2 hb) hc0_2 (jB hr0_3 hb) hc0_3 hv) r1 r2 h
end
end Go.Proofs.YtclollnicbcooaaGreatDoor.P
namespace Go.Proofs.YtclollnicbcooaaGreatDoor
open Go Go.RowKit
section
def Bears {β:Type} (B b:Nat) (I:β→World→Prop):Prop :=
 ∀ s W W' row,I s W→W.grownBy W' row→(∀ r,row=some r→r=b ∨ (B≤r∧∃ o:Obj,W.heap[r]? = some o∧o.isCells=false))→I s W'

def GivesCell {α:Type} (F:Fence) (n:Nat) (P:Program) (g:Nat) (lb:Array Value) (encs:α→Array Value) (b:Nat) (t:TypeId) (xs:List α) (G:World→Prop) (w:World):Prop :=
 ∀ (l:Nat) (J:List α→World→Prop),(∀ s W W',J s W→W.grownBy W' (some b)→J s W')→(∀ s W,J s W→G W) →
  (∀ pre x W1 v,J pre W1→pre.length < xs.length→Boxed W1 b t v→YieldAt F (n - 1) P l (encs x) W1 fun e W'=>e=.returned (.bool true)∧J (pre ++ [x]) W'∧Boxed W' b t v) →
  ∀ W:World,J [] W→Below w.heap.size w W →
  CallsIn F n P g (#[.func (.yield l) #[] #[]] ++ lb) W fun e W'=>(∃ v,e=.returned v)∧J xs W'

variable {F:Fence} {n:Nat} {P:Program}

theorem range_box {α:Type} {g:Operand} {ps:Array Tmp} {assign body:Code} {Q:Exit→Act→World→Prop} {a:Act} {w:World}
  (hro:F.round=none) (h1:1≤n) {gf:Nat} {lb:Array Value} (hg:a.eval g=.func (.func gf) #[] lb) (hFg:F.fn gf) (eg:∀ args w,(callFunc gf args).run P w=.ok (.enter gf args) w)
  {encs:α→Array Value} {b:Nat} {t:TypeId} {xs:List α} {G:World→Prop} (hb:b < w.heap.size) (hseq:GivesCell F (n - 1) P gf lb encs b t xs G w) (hps:∀ x,(encs x).size=ps.size)
  (I:List α→World→Prop) (hI:Bears w.heap.size b I) (hIG:∀ s W,I s W→G W) (h0:I [] w) (a₁:α→Nat→Act) (ob:α→Obj) (hob:∀ x,(ob x).isCells=true)
  (hassign:∀ (l:Nat) (x:α) (W:World) (K:Act→World→Prop),K (a₁ x W.heap.size) (W.alloc (ob x)) →
   assign.wpIn (F.inRound l) (n - 1 - 1) P (Exit.then K (fun _ _ _=>False)) { tmps:=(ps.zip (encs x)).foldl (fun t (p,v)=>t.setIfInBounds p v) a.tmps,defers:=[] } W)
  (hbody:∀ (l:Nat) (pre:List α) (x:α) (W:World) (g:Nat),I pre W→w.heap.size≤g→W.heap[g]? = some (ob x)→pre.length < xs.length→(∃ v,Boxed W b t v) →
   body.wpIn (F.inRound l) (n - 1 - 1) P (Exit.then (fun _ W'=>KeepsFrom w.heap.size W W'∧(∀ v,Boxed W b t v→Boxed W' b t v)∧I (pre ++ [x]) W') (fun _ _ _=>False)) (a₁ x g) W)
  (hdone:∀ (D:Nat) (W:World),w.heap.size≤D→I xs W→W.heap[D]? = some (.deferred (some []))→Q .normal { a with defers:={ target:=.collected D,args:=#[] } :: a.defers } W) :
  (Code.rangeFunc g ps assign body).wpIn F n P Q a w:=by
 refine wpIn_rangeFunc fun fn hfn=>?_
 rw [hro]
 -- the loop's record, by its state and its pending jump
 let rec_:LoopState→Option Code→Loop:=fun st pe=>{ state:=st,pending:=pe,fn,tmps:=a.tmps,params:=ps,assign,body,defers:=w.heap.size }
 let wD:=w.alloc (.deferred (some []))
 let wL:=wD.alloc (.loop (rec_ .ready none))
 have sD:wD.heap.size=w.heap.size+1:=World.size_alloc _ _
 have lL:wL.heap[w.heap.size+1]? = some (.loop (rec_ .ready none)):=by rw [← sD];exact World.alloc_heap_new wD _
 have lD:wL.heap[w.heap.size]? = some (.deferred (some [])):=(Below.heap_alloc wD _ _ (by rw [sD];omega)).trans (World.alloc_heap_new w _)
 have iL:I [] wL:=by
  have i1:I [] wD:=hI _ _ _ none h0 (World.grownBy_alloc w _ none) (by simp)
  exact hI _ _ _ none i1 (World.grownBy_alloc wD _ none) (by simp)
 have belowL:Below w.heap.size w wL:=((Below.refl _ w).alloc (Nat.le_refl _) _).alloc (by simp) _
 -- what holds between two rounds
 let J:List α→World→Prop:=fun pre W=>I pre W∧W.heap[w.heap.size+1]? = some (.loop (rec_ .ready none))∧W.heap[w.heap.size]? = some (.deferred (some []))
 have turn:∀ {pre W} (r:Nat) (o o':Obj),w.heap.size≤r→W.heap[r]? = some o→o.isCells=false→I pre W→I pre (W.putObj r o'):=fun r o o' hr ho hc hi =>
  hI _ _ _ (some r) hi (grownBy_putObj' _ _ _) (fun r' e=>by cases e;exact .inr ⟨hr,o,ho,hc⟩)
 have box:∀ {W v} (r:Nat) (o o':Obj),W.heap[r]? = some o→o.isCells=false→Boxed W b t v→Boxed (W.putObj r o') b t v:=fun r o o' ho hc hv =>
  hv.kept (grownBy_putObj' _ r o') (fun e=>by
   injection e with e
   subst e
   have h2:=ho.symm.trans hv
   injection h2 with h2
   subst h2
   cases hc)
 refine ⟨w.heap.size+1,[{ target:=.collected w.heap.size,args:=#[] }],wL,{ target:=.fn (.func gf) lb,args:=#[.func (.yield (w.heap.size+1)) #[] #[]] },wL,gf,
  #[.func (.yield (w.heap.size+1)) #[] #[]] ++ lb,wL,run_enterLoop_outer _ _ _ _ _, ?_, ?_, ?_,fun _=>h1, ?_⟩
 ·simp only [resolve,hg]
  simp [go_sem]
 ·intro f' hf'
  simp [Target.leads] at hf'
  exact hf' ▸ hFg
 ·simp [invoke,go_sem,eg]
 refine (hseq (w.heap.size+1) J ?_ (fun s W h=>hIG s W h.1) ?_ wL ⟨iL,lL,lD⟩ belowL).mono ?_
 ·-- the iterator's store into its own cell
  rintro s W W' ⟨hi,hl,hk⟩ hg'
  refine ⟨hI _ _ _ (some b) hi hg' (fun r e=>by cases e;exact .inl rfl), ?_, ?_⟩
  ·exact (hg'.block _ (Array.getElem?_eq_some_iff.1 hl).1 (fun e=>by injection e with e;omega)).trans hl
  ·exact (hg'.block _ (Array.getElem?_eq_some_iff.1 hk).1 (fun e=>by injection e with e;omega)).trans hk
 ·-- a round
  rintro pre x W v ⟨hi,hl,hk⟩ hlen hv
  have hlt:w.heap.size+1 < W.heap.size:=(Array.getElem?_eq_some_iff.1 hl).1
  have hiA:I pre (W.alloc (ob x)):=hI _ _ _ none hi (World.grownBy_alloc W _ none) (by simp)
  have hlA:(W.alloc (ob x)).heap[w.heap.size+1]? = some (.loop (rec_ .ready none)):=(Below.heap_alloc W _ _ hlt).trans hl
  have hkA:(W.alloc (ob x)).heap[w.heap.size]? = some (.deferred (some [])):=(Below.heap_alloc W _ _ (by omega)).trans hk
  have hvA:Boxed (W.alloc (ob x)) b t v:=hv.alloc _
  have hgA:(W.alloc (ob x)).heap[W.heap.size]? = some (ob x):=World.alloc_heap_new W _
  have hltA:w.heap.size+1 < (W.alloc (ob x)).heap.size:=(Array.getElem?_eq_some_iff.1 hlA).1
  refine ⟨fn,_,assign,body,run_yield (P:=P) (args:=encs x) hl (hps x),roundIn_of_wpIn hfn (hassign _ x W _ ⟨_,run_beginRound hlA rfl, ?_⟩)⟩
  let Wb:=(W.alloc (ob x)).putObj (w.heap.size+1) (.loop { rec_ .ready none with state:=.busy })
  have lb2:Wb.heap[w.heap.size+1]? = some (.loop { rec_ .ready none with state:=.busy }):=World.putObj_heap_same hltA
  have kb2:Wb.heap[w.heap.size]? = some (.deferred (some [])):=(World.putObj_heap_other (by omega)).trans hkA
  have gb2:Wb.heap[W.heap.size]? = some (ob x):=(World.putObj_heap_other (by omega)).trans hgA
  refine wpIn_mono (hbody _ pre x Wb W.heap.size (turn _ _ _ (by omega) hlA rfl hiA) (by omega) gb2 hlen ⟨v,box _ _ _ hlA rfl hvA⟩) ?_
  rintro e a3 W3 hp
  cases e with
  | normal =>
   obtain ⟨hk3,hb3,hi3⟩:=hp
   have l3:W3.heap[w.heap.size+1]? = some (.loop { rec_ .ready none with state:=.busy }):=hk3.same _ _ (by omega) lb2 rfl
   have k3:W3.heap[w.heap.size]? = some (.deferred (some [])):=hk3.same _ _ (Nat.le_refl _) kb2 rfl
   refine ⟨_,_,run_endRound none l3,rfl,⟨turn _ _ _ (by omega) l3 rfl hi3,World.putObj_heap_same (Array.getElem?_eq_some_iff.1 l3).1,(World.putObj_heap_other (by omega)).trans k3⟩, ?_⟩
   exact box _ _ _ l3 rfl (hb3 v (box _ _ _ hlA rfl hvA))
  | _=>exact hp.elim
 ·-- behind the iterator
  rintro e W2 ⟨⟨v,rfl⟩,hi,hl,hk⟩
  refine ⟨none,_,run_endLoop (P:=P) hl (by simp [rec_]),hdone _ _ (Nat.le_refl _) (turn _ _ _ (by omega) hl rfl hi) ((World.putObj_heap_other (by omega)).trans hk)⟩
end
end Go.Proofs.YtclollnicbcooaaGreatDoor
namespace Go.Proofs.YtclollnicbcooaaGreatDoor.St
open Go.Lib Go.Sort
def cfI (x y:Itm):Int:=if compareInt x.1 y.1=0 then compareInt x.2 y.2 else compareInt x.1 y.1
theorem cfI_lt (x y:Itm):ltOf cfI x y=true ↔ lt x y:=by
 unfold ltOf cfI compareInt lt
 by_cases h1:x.1 < y.1
 ·simp [h1]
 ·by_cases h2:y.1 < x.1
  ·simp [h1,h2];omega
  ·have e:x.1=y.1:=by omega
   by_cases h3:x.2 < y.2
   ·simp [h1,h2,h3,e]
   ·by_cases h4:y.2 < x.2 <;> simp [h1,h2,h3,h4,e]
theorem cfI_not (x y:Itm):ltOf cfI x y=false ↔ ¬ lt x y:=by
 rw [← cfI_lt];simp
theorem cfI_swo:SWO (ltOf cfI) where
 irrefl x:=(cfI_not x x).2 (lt_irr x)
 trans x y z h1 h2:=(cfI_lt x z).2 (lt_trans ((cfI_lt x y).1 h1) ((cfI_lt y z).1 h2))
 ntrans x y z h1 h2:=(cfI_not x z).2 (by
  have a:=(cfI_not x y).1 h1
  have b:=(cfI_not y z).1 h2
  unfold lt at *;omega)

theorem compact_rise (d:Array Itm) (hs:∀ i j,i < j→j < d.size→le d[i]! d[j]!):Rising (compactUpTo d d.size) (· ∈ d.toList) where
 up:=by
  unfold compactUpTo
  rw [List.pairwise_map,List.pairwise_filter]
  refine List.Pairwise.imp_of_mem (R:=fun i j=>i < j) (fun {i j} hi hj hij ki kj=>?_) List.pairwise_lt_range
  have hj:=List.mem_range.1 hj
  have hne:d[j]! ≠ d[j - 1]!:=by
   have:=of_decide_eq_true kj
   rcases this with h | h
   ·omega
   ·exact h
  have h1:lt d[j - 1]! d[j]!:=le_ne (hs (j - 1) j (by omega) hj) (Ne.symm hne)
  rcases Nat.lt_or_ge i (j - 1) with h | h
  ·exact le_lt (hs i (j - 1) h (by omega)) h1
  ·obtain rfl:i=j - 1:=by omega
   exact h1
 mem:=fun x=>by
  unfold compactUpTo
  rw [List.mem_map]
  constructor
  ·rintro ⟨i,hi,rfl⟩
   have hi:=List.mem_range.1 (List.mem_filter.1 hi).1
   rw [getElem!_pos d i hi]
   exact Array.getElem_mem_toList hi
  ·intro hx
   obtain ⟨i,hi,hx⟩:∃ i,i < d.size∧d[i]! = x:=by
    obtain ⟨i,hi,hx⟩:=List.getElem_of_mem hx
    rw [Array.length_toList] at hi
    exact ⟨i,hi,by rw [getElem!_pos d i hi];simpa using hx⟩
   induction i with
   | zero=>exact ⟨0,List.mem_filter.2 ⟨List.mem_range.2 hi,by simp [keeps]⟩,hx⟩
   | succ i ih =>
    by_cases h:d[i]! = x
    ·exact ih (by omega) h
    ·exact ⟨i+1,List.mem_filter.2 ⟨List.mem_range.2 hi,by
      unfold keeps
      refine decide_eq_true (.inr ?_)
      rw [hx]
      exact fun e=>h e.symm⟩,hx⟩

theorem sorted_rise (d d':Array Itm) (hp:PermIn 0 d.size d d') (hs:SortedIn (ltOf cfI) 0 d.size d'):Rising (compactUpTo d' d'.size) (· ∈ d.toList):=by
 obtain ⟨h1, -,h3⟩:=hp
 have h:=compact_rise d' fun i j hij hj=>(cfI_not _ _).1 (hs i j (Nat.zero_le _) hij (by omega))
 refine ⟨h.up,fun x=>(h.mem x).trans ?_⟩
 have e1:d'.extract 0 d.size=d':=by rw [← h1];simp
 have e2:d.extract 0 d.size=d:=by simp
 rw [e1,e2] at h3
 exact h3.mem_iff
end Go.Proofs.YtclollnicbcooaaGreatDoor.St
namespace Go.Proofs.YtclollnicbcooaaGreatDoor.P
open Go.RowKit Go.Lib Go.Sort YtclollnicbcooaaGreatDoorW.PrintWords YtclollnicbcooaaGreatDoorW.PrintLast YtclollnicbcooaaGreatDoorW.PrintMore St
structure Turned (w W:World) (b:Nat):Prop where
 grown:w.grownBy W (some b)
 same:∀ cur t,w.heap[b]? = some (.cells cur t (0,0))→∃ cur',W.heap[b]? = some (.cells cur' t (0,0))∧cur'.size=cur.size
theorem Turned.refl (w:World) (b:Nat):Turned w w b:=⟨⟨rfl,rfl,rfl,Nat.le_refl _,fun _ _ _=>rfl⟩,fun cur t h=>⟨cur,h,rfl⟩⟩
theorem Turned.trans {u v w:World} {b:Nat} (h:Turned u v b) (k:Turned v w b):Turned u w b where
 grown:=⟨k.grown.os.trans h.grown.os,k.grown.tape.trans h.grown.tape,k.grown.output.trans h.grown.output,Nat.le_trans h.grown.size k.grown.size,fun i hi hn=>(k.grown.block i (Nat.lt_of_lt_of_le hi h.grown.size) hn).trans (h.grown.block i hi hn)⟩
 same:=fun cur t e=>by
  obtain ⟨c1,e1,s1⟩:=h.same cur t e
  obtain ⟨c2,e2,s2⟩:=k.same c1 t e1
  exact ⟨c2,e2,s2.trans s1⟩
theorem Turned.drew {w W:World} {b:Nat} (h:Turned w W b):Turned w W.drew b:=⟨⟨h.grown.os,h.grown.tape,h.grown.output,h.grown.size,h.grown.block⟩,h.same⟩
theorem Turned.set {w W:World} {b:Nat} (h:Turned w W b) (i:Nat) (v:Value):Turned w (W.setCell ⟨b,i,none⟩ v) b where
 grown:=⟨h.grown.os,h.grown.tape,h.grown.output,by rw [World.size_setCell];exact h.grown.size,fun k hk hn=>(Below.heap_setCell W ⟨b,i,none⟩ v k (fun e=>hn (congrArg some e))).trans (h.grown.block k hk hn)⟩
 same:=fun cur t e=>by
  obtain ⟨c1,e1,s1⟩:=h.same cur t e
  exact ⟨_,blk_set e1 i v,by simp [s1]⟩
theorem Turned.sets {w:World} {b:Nat}:∀ (vs:List Value) (o:Nat) (W:World),Turned w W b→Turned w (W.setCells b o vs) b
 | [],_,_,h=>h
 | v :: r,o,W,h=>Turned.sets r (o+1) _ (h.set o v)

def encI (x:Itm):List Value:=[.int .i64 x.1,.int .i64 x.2]
abbrev HI (w:World) (b o:Nat) (d:Array Itm):Prop:=HoldsK encI 2 w b o d
theorem setMany_flat (d:Array Itm) (i:Nat) (hi:i < d.size) (x:Itm):setMany (flatK encI 2 d) (i * 2) (encI x)=flatK encI 2 (d.setIfInBounds i x):=by
 refine ext_get! (by simp) fun t ht=>?_
 have ht':t < d.size * 2:=by simpa using ht
 rw [get_setMany _ _ _ t (by simpa using ht'),get_flatK _ _ _ t ht',get_flatK _ _ _ t (by simpa using ht')]
 have hl:(encI x).length=2:=rfl
 rw [hl]
 by_cases h:t / 2=i
 ·rw [if_pos (by omega),h,getElem!_set_same d i x hi]
  congr 1
  omega
 ·rw [if_neg (by omega),getElem!_set_other d i (t / 2) x h]
theorem HI.set {W:World} {b o:Nat} {d:Array Itm} (h:HI W b o d) (i:Nat) (hi:i < d.size) (x:Itm) :
  HI ((W.setCell ⟨b,o+i * 2,none⟩ (.int .i64 x.1)).setCell ⟨b,o+i * 2+1,none⟩ (.int .i64 x.2)) b o (d.setIfInBounds i x):=by
 have h1:=holds_setCells_c h (i * 2) (encI x) (by simp [encI];omega)
 rw [setMany_flat d i hi x] at h1
 exact h1
theorem HI.drew {W:World} {b o:Nat} {d:Array Itm} (h:HI W b o d):HI W.drew b o d:=h
theorem HI.cells {W:World} {b o:Nat} {d:Array Itm} (h:HI W b o d) (i:Nat) (hi:i < d.size) :
  W.cell? ⟨b,o+i * 2,none⟩=some (.int .i64 d[i]!.1)∧W.cell? ⟨b,o+i * 2+1,none⟩=some (.int .i64 d[i]!.2)∧W.frozen? ⟨b,o+i * 2,none⟩=false∧W.frozen? ⟨b,o+i * 2+1,none⟩=false :=
 have h0:=HoldsK.cell h hi (c:=0) (by omega)
 have h1:=HoldsK.cell h hi (c:=1) (by omega)
 ⟨h0.1,h1.1,h0.2,h1.2⟩
theorem HI.of {W:World} {b o:Nat} {d:Array Itm} (h:∀ i,i < d.size→W.cell? ⟨b,o+i * 2,none⟩=some (.int .i64 d[i]!.1)∧W.cell? ⟨b,o+i * 2+1,none⟩=some (.int .i64 d[i]!.2)∧W.frozen? ⟨b,o+i * 2,none⟩=false∧W.frozen? ⟨b,o+i * 2+1,none⟩=false):HI W b o d:=fun t ht=>by
 have ht':t < d.size * 2:=by simpa using ht
 rw [get_flatK _ _ _ t ht']
 obtain ⟨a,c,e,f⟩:=h (t / 2) (by omega)
 rcases Nat.mod_two_eq_zero_or_one t with hm | hm
 ·rw [hm,show o+t=o+t / 2 * 2 by omega];exact ⟨a,e⟩
 ·rw [hm,show o+t=o+t / 2 * 2+1 by omega];exact ⟨c,f⟩
theorem HI.head {W:World} {b o:Nat} {d c:Array Itm} (h:HI W b o d) (hs:c.size≤d.size) (hc:∀ j,j < c.size→c[j]! = d[j]!) (vs:List Value):HI (W.setCells b (o+c.size * 2) vs) b o c :=
 HI.of fun i hi=>by
  obtain ⟨h1,h2,h3,h4⟩:=h.cells i (by omega)
  rw [hc i hi]
  refine ⟨?_, ?_, ?_, ?_⟩
  ·rw [World.cell?_setCells_out b vs _ W _ (fun _ _=>.inl (by show o+i * 2 < o+c.size * 2;omega))];exact h1
  ·rw [World.cell?_setCells_out b vs _ W _ (fun _ _=>.inl (by show o+i * 2+1 < o+c.size * 2;omega))];exact h2
  ·rw [World.frozen?_setCells];exact h3
  ·rw [World.frozen?_setCells];exact h4

theorem eqI (d:Nat) (w:World) (x0 y0:Int) (x1 y1:Int) :
  (Op.equalIn (d+2) 77 (.agg #[.int .i64 x0,.int .i64 x1]) (.agg #[.int .i64 y0,.int .i64 y1])).run Tryz.prog w=.ok (x0 == y0 && (x1 == y1)) w:=by
 refine eqA_of Tryz.underlying77 (by kernel_rfl) ?_
 refine eqf_cons (by rfl) (by go_simp;rfl) (by go_simp;rfl) (by go_simp) ?_
 exact eqf_last (by rfl) (by go_simp;rfl) (by go_simp;rfl) (by go_simp)
theorem eqIs (w:World) (x y:Itm):(binOp .eql 77 (.agg #[.int .i64 x.1,.int .i64 x.2]) (.agg #[.int .i64 y.1,.int .i64 y.2])).run Tryz.prog w=.ok (.bool (decide (x=y))) w:=by
 have h:=eqI 9998 w x.1 y.1 x.2 y.2
 have e:(x.1 == y.1 && (x.2 == y.2))=decide (x=y):=by
  rw [Bool.eq_iff_iff];simp [Prod.ext_iff]
 rw [e] at h
 simp only [binOp]
 simp [Op.equal,Op.maxDepth,h]
theorem neIs (w:World) (x y:Itm):(binOp .neq 77 (.agg #[.int .i64 x.1,.int .i64 x.2]) (.agg #[.int .i64 y.1,.int .i64 y.2])).run Tryz.prog w=.ok (.bool !(decide (x=y))) w:=by
 have h:=eqI 9998 w x.1 y.1 x.2 y.2
 have e:(x.1 == y.1 && (x.2 == y.2))=decide (x=y):=by
  rw [Bool.eq_iff_iff];simp [Prod.ext_iff]
 rw [e] at h
 simp only [binOp]
 simp [Op.equal,Op.maxDepth,h]

theorem zero77 (w:World):(zeroValue 77).run Tryz.prog w=.ok (.agg #[.int .i64 0,.int .i64 0]) w:=by
 have h:(Tryz.prog.info? 77).map (fun i=>i.zero)=some (some (.agg #[.int .i64 0,.int .i64 0])):=by kernel_rfl
 obtain ⟨i,hi,hz⟩:=Option.map_eq_some_iff.1 h
 simp [zeroValue,typeInfo,hi,hz,Result.andThen]
theorem clear_items (w:World) (ty:TypeId) (b o n c:Nat) (hn:0 < n) (hc:∀ j,j < n * 2→(w.cell? ⟨b,o+j,none⟩).isSome=true∧w.frozen? ⟨b,o+j,none⟩=false) :
  (Builtin.clear_ #[75] ty #[.slice (some ⟨b,o,none⟩) n c]).run Tryz.prog w=.ok (.tuple #[]) (w.setCells b o (List.replicate (n * 2) (.int .i64 0))):=by
 have hzc:(Builtin.zeroCells (Value.agg #[.int .i64 0,.int .i64 0]).cells n).toList=List.replicate (n * 2) (.int .i64 0):=by
  apply List.ext_getElem
  ·simp [Builtin.zeroCells,Value.cells]
  ·intro i h1 h2
   simp only [Builtin.zeroCells,Value.cells,Array.toList_map,Array.toList_range,List.getElem_map,List.getElem_range,List.getElem_replicate]
   rcases Nat.mod_two_eq_zero_or_one i with hm | hm
   ·rw [show (#[Value.int .i64 0,Value.int .i64 0]:Array Value).size=2 from rfl,hm];rfl
   ·rw [show (#[Value.int .i64 0,Value.int .i64 0]:Array Value).size=2 from rfl,hm];rfl
 have hst:=run_storeCells_cells (P:=Tryz.prog) b o (List.replicate (n * 2) (.int .i64 0)) 0 w (fun j hj=>by rw [Nat.add_zero];exact (hc j (by simpa using hj)).1) (fun j hj=>by rw [Nat.add_zero];exact (hc j (by simpa using hj)).2) (by intro v hv';rw [List.eq_of_mem_replicate hv'];rfl)
 simp only [Nat.add_zero] at hst
 obtain ⟨m,rfl⟩:∃ m,n=m+1:=⟨n - 1,by omega⟩
 simp [Builtin.clear_,run_underlying Tryz.underlying75,zero77,hzc,hst,Result.andThen]
set_option maxHeartbeats 8000000 in
set_option maxRecDepth 100000 in
theorem compact_calls (blk off cap:Nat) (d:Array Itm) (w:World) (hH:HI w blk off d) (hsz:d.size≤4611686018427387904) (hcap:d.size≤cap) (h0:0 < d.size) :
  Calls Tryz.prog 77 #[.slice (some ⟨blk,off,none⟩) d.size cap] w fun e w'=>e=.returned (.slice (some ⟨blk,off,none⟩) (compactUpTo d d.size).length cap)∧Turned w w' blk∧HI w' blk off (compactUpTo d d.size).toArray:=by
 have hu75:=Tryz.underlying75
 have hu77:=Tryz.underlying77
 have mixed:Tryz.prog.follows .mixedOrders=true:=by kernel_rfl
 have same:(∀ j,j < d.size→keeps d j=true)→compactUpTo d d.size=d.toList:=fun hall=>by rw [compactUpTo_all d _ hall,range_map_get]
 have HS:=jM same
 clear same
 by_cases h2:d.size < 2
 ·have HH:=jM hH
  clear hH
  go_enter Tryz.func77,Tryz.ntmps77
  go_wp2
  go_ret
  have e:=HS.out (fun j hj=>keeps_lt_one d j (by omega))
  rw [e]
  exact ⟨by simp,Turned.refl _ _,by simpa using HH.out⟩
 ·go_enter Tryz.func77,Tryz.ntmps77
  go_wp2
  go_loopg [3] d.size (fun g s3 wr=>∃ k:Nat,1≤k∧k≤d.size∧d.size - k≤g∧s3=.int .i64 k∧Aside0 (Turned w wr blk)∧Aside0 (HI wr blk off d)∧Aside0 (∀ j,j < k→keeps d j=true))
  case atStart=>exact ⟨1,Nat.le_refl _,by omega,by omega,rfl,⟨Turned.refl _ _⟩,⟨hH⟩,⟨keeps_lt_one d⟩⟩
  case round =>
   obtain ⟨k,hk1,hk,hg,rfl,HT,HH,A⟩:=hrel
   by_cases hlt:k < d.size
   ·obtain ⟨c1,c1', -, -⟩:=HH.out.cells k hlt
    obtain ⟨c0,c0', -, -⟩:=HH.out.cells (k - 1) (by omega)
    generalize hx:d[k]! = x at c1 c1'
    generalize hy:d[k - 1]! = y at c0 c0'
    have hw1:IntKind.i64.wrap ((k:Int) - 1)=((k - 1:Nat):Int):=by rw [IntWalk.i64_in _ (by omega)];omega
    have hk0:k - 1 < d.size:=by omega
    have B:=jM (show d[k]! = x∧d[k - 1]! = y from ⟨hx,hy⟩)
    clear hx hy hH
    by_cases hdup:x=y
    ·have heq:∀ w,(binOp .eql 77 (.agg #[.int .i64 x.1,.int .i64 x.2]) (.agg #[.int .i64 y.1,.int .i64 y.2])).run Tryz.prog w=.ok (.bool true) w:=fun w=>by rw [eqIs w x y,decide_eq_true hdup]
     go_wp2_with fail
     go_region_o
     clear c0 c0' c1 c1' heq
     have HT1:Aside0 (Turned w wr.drew blk):=⟨HT.out.drew⟩
     have HH1:Aside0 (HI wr.drew blk off d):=⟨HH.out⟩
     generalize wr.drew=w1 at *
     clear HT HH
     go_wp2
     go_loopg [3,5] d.size (fun g s3 s5 wr=>∃ (kk k2:Nat) (dk:Array Itm),s3=.int .i64 kk∧s5=.int .i64 k2∧1≤k2∧k+k2≤d.size∧d.size - (k+k2)≤g∧Aside0 (Turned w wr blk)∧Aside0 (HI wr blk off dk)∧Aside0 (CompInv d (k+k2) kk dk))
     case atStart=>exact ⟨k,1,d,rfl,rfl,Nat.le_refl _,by omega,by omega,HT1,HH1,⟨CompInv.start A.out (keeps_neg (by omega) (by rw [B.out.1,B.out.2];exact hdup))⟩⟩
     case round =>
      obtain ⟨kk,k2,dk,rfl,rfl,h1,hle,hg2,HT2,HH2,HI2⟩:=hrel
      have hkk:=HI2.out.lt
      have hds:=HI2.out.size
      by_cases hlt2:k+k2 < d.size
      ·obtain ⟨cm,cm', -, -⟩:=HH2.out.cells (k+k2) (by omega)
       obtain ⟨cp,cp', -, -⟩:=HH2.out.cells (k+k2 - 1) (by omega)
       obtain ⟨ck,ck',fk,fk'⟩:=HH2.out.cells kk (by omega)
       rw [HI2.out.high (k+k2) (by omega),show off+(k+k2) * 2=off+k * 2+k2 * 2 by omega] at cm cm'
       rw [HI2.out.high (k+k2 - 1) (by omega),show off+(k+k2 - 1) * 2=off+k * 2+(k2 - 1) * 2 by omega] at cp cp'
       generalize hu:d[k+k2]! = u at cm cm'
       generalize hv:d[k+k2 - 1]! = v at cp cp'
       generalize dk[kk]! = old at ck ck'
       have C:=jM (show d[k+k2]! = u∧d[k+k2 - 1]! = v from ⟨hu,hv⟩)
       clear hu hv
       have hw2:IntKind.i64.wrap ((k2:Int) - 1)=((k2 - 1:Nat):Int):=by rw [IntWalk.i64_in _ (by omega)];omega
       have hk20:k2 - 1 < d.size - k:=by omega
       have hk21:k2 < d.size - k:=by omega
       by_cases huv:u=v
       ·have hne:∀ w,(binOp .neq 77 (.agg #[.int .i64 u.1,.int .i64 u.2]) (.agg #[.int .i64 v.1,.int .i64 v.2])).run Tryz.prog w=.ok (.bool false) w:=fun w=>by rw [neIs w u v,decide_eq_true huv];rfl
        go_wp2_with fail
        go_region_o
        go_wp2
        go_roundg (d.size - (k+(k2+1)))
        case measure=>omega
        case rel=>exact ⟨kk,k2+1,dk,rfl,by go_num,by omega,by omega,Nat.le_refl _,⟨HT2.out.drew⟩,⟨HH2.out⟩,⟨HI2.out.skip (keeps_neg (by omega) (by rw [C.out.1,C.out.2];exact huv))⟩⟩
       ·have hne:∀ w,(binOp .neq 77 (.agg #[.int .i64 u.1,.int .i64 u.2]) (.agg #[.int .i64 v.1,.int .i64 v.2])).run Tryz.prog w=.ok (.bool true) w:=fun w=>by rw [neIs w u v,decide_eq_false huv];rfl
        go_wp2_with fail
        go_region_o
        go_wp2
        go_roundg (d.size - (k+(k2+1)))
        case measure=>omega
        case rel=>exact ⟨kk+1,k2+1,dk.setIfInBounds kk u,by go_num,by go_num,by omega,by omega,Nat.le_refl _,⟨(HT2.out.drew.set _ _).set _ _⟩,⟨HI.set (HI.drew HH2.out) kk (by omega) u⟩,⟨by have:=HI2.out.keep hlt2 (keeps_pos (by rw [C.out.1,C.out.2];exact huv));rwa [C.out.1] at this⟩⟩
      ·have hend:k+k2=d.size:=by omega
       have hcl:∀ ty,(Builtin.clear_ #[75] ty #[.slice (some ⟨blk,off+kk * 2,none⟩) (d.size - kk) (cap - kk)]).run Tryz.prog wr=.ok (.tuple #[]) (wr.setCells blk (off+kk * 2) (List.replicate ((d.size - kk) * 2) (.int .i64 0))) :=
        fun ty=>clear_items wr ty blk (off+kk * 2) (d.size - kk) (cap - kk) (by omega) fun j hj=>by
         have:=HH2.out (kk * 2+j) (by simp;omega)
         rw [← Nat.add_assoc] at this
         exact ⟨by rw [this.1];rfl,this.2⟩
       go_wp2
       go_ret
       have hI:=HI2.out
       rw [hend] at hI
       refine ⟨by rw [hI.len];rfl,Turned.sets _ _ _ HT2.out, ?_⟩
       have hsz':(compactUpTo d d.size).toArray.size=kk:=by simp [hI.len]
       have hh:=HI.head (c:=(compactUpTo d d.size).toArray) HH2.out (by rw [hsz'];omega) (fun j hj=>by
        rw [hsz'] at hj
        have:=hI.low j hj
        rw [getElem!_pos _ j (by rw [hsz'];exact hj)]
        rw [List.getElem?_eq_getElem (by rw [hI.len];exact hj)] at this
        simpa using this) (List.replicate ((d.size - kk) * 2) (.int .i64 0))
       rw [hsz'] at hh
       exact hh
    ·have heq:∀ w,(binOp .eql 77 (.agg #[.int .i64 x.1,.int .i64 x.2]) (.agg #[.int .i64 y.1,.int .i64 y.2])).run Tryz.prog w=.ok (.bool false) w:=fun w=>by rw [eqIs w x y,decide_eq_false hdup]
     go_wp2_with fail
     go_region_o
     go_wp2
     go_roundg (d.size - (k+1))
     case measure=>omega
     case rel =>
      refine ⟨k+1,by omega,by omega,Nat.le_refl _,by go_num,⟨HT.out.drew⟩,⟨HH.out⟩,⟨fun j hj=>?_⟩⟩
      by_cases e:j=k
      ·subst e
       exact keeps_pos (by rw [B.out.1,B.out.2];exact hdup)
      ·exact A.out j (by omega)
   ·have hkd:k=d.size:=by omega
    subst hkd
    clear hH
    go_wp2
    go_ret
    have e:=HS.out A.out
    rw [e]
    exact ⟨by simp,HT.out,by simpa using HH.out⟩
def toI (x:S77):Itm:=(x.f0,x.f1)
def ofI (x:Itm):S77:=⟨x.1,x.2⟩
theorem toI_ofI (x:Itm):toI (ofI x)=x:=rfl
theorem map_ofI_toI (xs:List S77):(xs.map toI).map ofI=xs:=by rw [List.map_map];exact List.map_id'' (fun x=>rfl) xs
theorem map_toI_ofI (xs:List Itm):(xs.map ofI).map toI=xs:=by rw [List.map_map];exact List.map_id'' (fun x=>rfl) xs

theorem turned_sort (w:World) (g m:Nat) (d:Array Itm) (os:Array Obj):Turned w (sortWorldK encI 2 w g 0 m d os) g:=by
 unfold sortWorldK putRowK putRow mapBlock grow
 refine ⟨⟨rfl,rfl,rfl,by simp [Sort.ahead],fun k hk hn=>?_⟩,fun cur t h=>?_⟩
 ·have hne:g≠k:=fun e=>hn (by rw [e])
  have hk':k < (Sort.ahead w m).heap.size:=hk
  simp only [Array.getElem?_append,Array.size_modify,hk',if_true,Array.getElem?_modify,if_neg hne]
  rfl
 ·have hlt:g < w.heap.size:=(Array.getElem?_eq_some_iff.1 h).1
  have hk':g < (Sort.ahead w m).heap.size:=hlt
  have h':(Sort.ahead w m).heap[g]? = some (.cells cur t (0,0)):=h
  refine ⟨putCells id 0 (flatK encI 2 d) cur, ?_,by simp [putCells]⟩
  simp only [Array.getElem?_append,Array.size_modify,hk',if_true,Array.getElem?_modify,h',Option.map_some,onCells]

theorem R_items {w:World} {base:Nat} {ok:Nat→Prop} {v:Value} {xs:List S77} (h:Kd.R k77 77 w base ok v xs) (hp:0 < xs.length) :
  ∃ g cap cur,v=.slice (some ⟨g,0,none⟩) xs.length cap∧base≤g∧ok g∧w.heap[g]? = some (.cells cur 77 (0,0))∧xs.length≤cap∧cap≤maxLen∧cur.size=cap * 2∧HI w g 0 (xs.map toI).toArray:=by
 obtain ⟨hok,inner,ho,hr⟩:=h
 rcases ho.2 with ⟨-,hn⟩ | ⟨g,cap,cur,rfl,hb,hg,hc1,hc2,hsz,ht⟩
 ·omega
 ·refine ⟨g,cap,cur,rfl,hb,hok g rfl,hg,hc1,hc2,hsz,HI.of fun i hi=>?_⟩
  have hi':i < xs.length:=by simpa using hi
  have hx:=hr.2 i xs[i] (List.getElem?_eq_getElem hi')
  have hcs:=k77_openM hx
  have hd:(List.map toI xs).toArray[i]! = toI xs[i]:=by
   rw [getElem!_pos _ i (by simpa using hi')];simp
  have hcell:∀ c,c < 2→w.cell? ⟨g,0+i * 2+c,none⟩=((inner.drop (i * 2)).take 2)[c]?:=fun c hc=>by
   rw [Nat.zero_add,blk_cell hg,← ht,List.getElem?_take_of_lt hc,List.getElem?_drop,List.getElem?_take_of_lt (by have:k77.sz=2:=rfl;rw [this];omega),Array.getElem?_toList]
  have h0:=hcell 0 (by omega)
  have h1:=hcell 1 (by omega)
  have hs2:k77.sz=2:=rfl
  rw [hs2] at hcs
  rw [hcs] at h0 h1
  rw [hd]
  exact ⟨h0,h1,blk_frozen hg _,blk_frozen hg _⟩
theorem R_of_items {w:World} {base g cap:Nat} {ok:Nat→Prop} {cur:Array Value} {d:Array Itm} (hb:base≤g) (hok:ok g) (hg:w.heap[g]? = some (.cells cur 77 (0,0))) (hc1:d.size≤cap) (hc2:cap≤maxLen) (hsz:cur.size=cap * 2) (hH:HI w g 0 d) :
  Kd.R k77 77 w base ok (.slice (some ⟨g,0,none⟩) d.size cap) (d.toList.map ofI):=by
 have hs2:k77.sz=2:=rfl
 have hl:(d.toList.map ofI).length=d.size:=by simp
 refine ⟨fun k hk=>?_,cur.toList.take (d.size * 2),⟨?_, ?_⟩, ?_, ?_⟩
 ·have:g=k:=by simpa [Value.ownBlock] using hk
  exact this ▸ hok
 ·rw [hl,hs2,List.length_take,Array.length_toList,hsz];omega
 ·exact .inr ⟨g,cap,cur,by rw [hl],hb,hg,by rw [hl];exact hc1,hc2,by rw [hs2];exact hsz,by rw [hl,hs2]⟩
 ·rw [hl,hs2,List.length_take,Array.length_toList,hsz];omega
 ·intro i p hp
  have hi:i < d.size:=by
   obtain ⟨h, -⟩:=List.getElem?_eq_some_iff.1 hp
   simpa using h
  have hpe:p=ofI d[i]!:=by
   rw [List.getElem?_map,Array.getElem?_toList,Array.getElem?_eq_getElem hi] at hp
   rw [getElem!_pos d i hi]
   exact (Option.some.inj hp).symm
  obtain ⟨h0,h1, -, -⟩:=HI.cells hH i hi
  rw [blk_cell hg] at h0 h1
  have hcs:((cur.toList.take (d.size * 2)).drop (i * 2)).take 2=[.int .i64 d[i]!.1,.int .i64 d[i]!.2]:=by
   apply List.ext_getElem?
   intro c
   match c with
   | 0=>rw [List.getElem?_take_of_lt (by omega),List.getElem?_drop,List.getElem?_take_of_lt (by omega),Array.getElem?_toList];simpa using h0
   | 1=>rw [List.getElem?_take_of_lt (by omega),List.getElem?_drop,List.getElem?_take_of_lt (by omega),Array.getElem?_toList];simpa using h1
   | c+2=>rw [List.getElem?_eq_none (by simp;omega),List.getElem?_eq_none (by simp)]
  rw [hs2,hcs,hpe]
  exact k77_mkM _ _ _ _
theorem nan_calls (x:Int) (w:World):Calls Tryz.prog 107 #[.int .i64 x] w fun e w'=>e=.returned (.bool false)∧w'=w:=by
 go_enter Tryz.func107,Tryz.ntmps107
 go_wp2
 go_ret
 exact ⟨by simp,rfl⟩
theorem compare_calls (x y:Int) (w:World):Calls Tryz.prog 90 #[.int .i64 x,.int .i64 y] w fun e w'=>e=.returned (.int .i64 (compareInt x y))∧w'=w:=by
 have hc:compareInt x y=if x < y then -1 else if y < x then 1 else 0:=rfl
 by_cases h1:x < y
 ·rw [hc,if_pos h1]
  have e1:decide (x < y)=true:=decide_eq_true h1
  go_enter Tryz.func90,Tryz.ntmps90
  go_wp2_with (go_at_call 107;refine (nan_calls _ _).mono ?_;rintro e w' ⟨rfl,rfl⟩)
  go_ret
  exact ⟨rfl,rfl⟩
 ·by_cases h2:y < x
  ·rw [hc,if_neg h1,if_pos h2]
   have e1:decide (x < y)=false:=decide_eq_false h1
   have e2:decide (y < x)=true:=decide_eq_true h2
   go_enter Tryz.func90,Tryz.ntmps90
   go_wp2_with (go_at_call 107;refine (nan_calls _ _).mono ?_;rintro e w' ⟨rfl,rfl⟩)
   go_ret
   exact ⟨rfl,rfl⟩
  ·rw [hc,if_neg h1,if_neg h2]
   have e1:decide (x < y)=false:=decide_eq_false h1
   have e2:decide (y < x)=false:=decide_eq_false h2
   go_enter Tryz.func90,Tryz.ntmps90
   go_wp2_with (go_at_call 107;refine (nan_calls _ _).mono ?_;rintro e w' ⟨rfl,rfl⟩)
   go_ret
   exact ⟨rfl,rfl⟩
theorem or_calls (g cap:Nat) (a b:Int) (w:World) (h0:w.cell? ⟨g,0,none⟩=some (.int .i64 a)) (h1:w.cell? ⟨g,1,none⟩=some (.int .i64 b)) :
  Calls Tryz.prog 89 #[.slice (some ⟨g,0,none⟩) 2 cap] w fun e w'=>e=.returned (.int .i64 (if a=0 then b else a))∧w'=w:=by
 by_cases ha:a=0
 ·subst ha
  rw [if_pos rfl]
  by_cases hb:b=0
  ·subst hb
   go_enter Tryz.func89,Tryz.ntmps89
   go_wp2
   refine wp_loop_rounds 3 ?_
   rw [rounds_succ];go_wp2
   rw [rounds_succ];go_wp2
   rw [rounds_succ];go_wp2
   go_ret
   exact ⟨rfl,rfl⟩
  ·have e1:(b != 0)=true:=by simpa using hb
   go_enter Tryz.func89,Tryz.ntmps89
   go_wp2
   refine wp_loop_rounds 3 ?_
   rw [rounds_succ];go_wp2
   rw [rounds_succ];go_wp2
   go_ret
   exact ⟨rfl,rfl⟩
 ·rw [if_neg ha]
  have e1:(a != 0)=true:=by simpa using ha
  go_enter Tryz.func89,Tryz.ntmps89
  go_wp2
  refine wp_loop_rounds 3 ?_
  rw [rounds_succ];go_wp2
  go_ret
  exact ⟨rfl,rfl⟩

def GW (W w':World):Prop:=∃ (q:Nat) (os:Array Obj),w'=grow (W.drewN q) os
theorem GW.refl (W:World):GW W W:=⟨0,#[],by rw [grow_empty];rfl⟩
theorem GW.alloc {W w':World} (h:GW W w') (o:Obj):GW W (w'.alloc o):=by
 obtain ⟨q,os,rfl⟩:=h
 exact ⟨q,os ++ #[o],by rw [alloc_eq_grow,grow_grow]⟩
theorem GW.drew {W w':World} (h:GW W w'):GW W w'.drew:=by
 obtain ⟨q,os,rfl⟩:=h
 exact ⟨q+1,os,rfl⟩
theorem gw_join (W:World) (q1 q2:Nat) (o1 o2:Array Obj):grow ((grow (W.drewN q1) o1).drewN q2) o2=grow (W.drewN (q1+q2)) (o1 ++ o2):=by
 simp [grow,World.drewN,Array.append_assoc,Nat.add_assoc]
theorem GW.cell {W w':World} (h:GW W w') {p:Addr} {v:Value} (hc:W.cell? p=some v):w'.cell? p=some v:=by
 obtain ⟨q,os,rfl⟩:=h
 have hlt:=World.block_lt_of_cell? W p hc
 rw [← hc]
 unfold World.cell? grow
 have hlt':p.block < (W.drewN q).heap.size:=hlt
 simp only [Array.getElem?_append,hlt',if_true]
 rfl

def order_T1:Bool × List (List Nat × List Nat):=(true,[([],[]),([0],[0]),([],[]),([2],[2]),([1,3],[1,3]),([],[]),([5],[5]),([],[]),([7],[7]),([6,8,4],[6,8]),([4,9],[4,9]),([10,9],[10]),([11,11,0,1,2,3,4,5,6,7,8,9,10,11],[11])])
def order_B1:List Nat:=[0,1,0,4,15,0,32,0,128,511,1023,2047,4095]
theorem order_tab1:rtab .any (opsOf Tryz.f76 1)=order_T1:=by kernel_rfl
theorem order_bits1:waitsOk order_T1.2 order_B1=true:=by kernel_rfl

set_option maxHeartbeats 4000000 in
set_option maxRecDepth 100000 in
theorem order_calls (x y:Itm) (W:World):Calls Tryz.prog 76 #[.agg #[.int .i64 x.1,.int .i64 x.2],.agg #[.int .i64 y.1,.int .i64 y.2]] W fun e w'=>e=.returned (.int .i64 (cfI x y))∧GW W w':=by
 have hu77:=Tryz.underlying77
 have hu50:=Tryz.underlying50
 obtain ⟨x1,x2⟩:=x
 obtain ⟨y1,y2⟩:=y
 simp only
 have C1:=jM (fun W=>compare_calls x1 y1 W)
 have C2:=jM (fun W=>compare_calls x2 y2 W)
 unfold cfI
 simp only
 generalize compareInt x1 y1=a at *
 generalize compareInt x2 y2=b at *
 have O1:=jM (fun g cap w h0 h1=>or_calls g cap a b w h0 h1)
 generalize (if a=0 then b else a)=c at *
 go_enter Tryz.func76,Tryz.ntmps76
 go_upto_region 1 with fail
 have hG:GW W ((W.alloc (Obj.cells #[.int .i64 x1,.int .i64 x2] 77)).alloc (Obj.cells #[.int .i64 y1,.int .i64 y2] 77)):=((GW.refl W).alloc _).alloc _
 have BX:((W.alloc (Obj.cells #[.int .i64 x1,.int .i64 x2] 77)).alloc (Obj.cells #[.int .i64 y1,.int .i64 y2] 77)).heap[W.heap.size]? = some (.cells #[.int .i64 x1,.int .i64 x2] 77 (0,0)):=blk_alloc (blk_new W _) _
 have BY:((W.alloc (Obj.cells #[.int .i64 x1,.int .i64 x2] 77)).alloc (Obj.cells #[.int .i64 y1,.int .i64 y2] 77)).heap[W.heap.size+1]? = some (.cells #[.int .i64 y1,.int .i64 y2] 77 (0,0)):=by
  have h:=blk_new (W.alloc (Obj.cells #[.int .i64 x1,.int .i64 x2] 77)) (Obj.cells #[.int .i64 y1,.int .i64 y2] 77)
  rwa [World.size_alloc] at h
 generalize (W.alloc (Obj.cells #[.int .i64 x1,.int .i64 x2] 77)).alloc (Obj.cells #[.int .i64 y1,.int .i64 y2] 77)=w1 at *
 have X0:Aside0 (∀ w',GW w1 w'→w'.cell? ⟨W.heap.size,0,none⟩=some (.int .i64 x1)):=⟨fun w' h=>h.cell (blk_cell BX 0)⟩
 have X1:Aside0 (∀ w',GW w1 w'→w'.cell? ⟨W.heap.size,1,none⟩=some (.int .i64 x2)):=⟨fun w' h=>h.cell (blk_cell BX 1)⟩
 have Y0:Aside0 (∀ w',GW w1 w'→w'.cell? ⟨W.heap.size+1,0,none⟩=some (.int .i64 y1)):=⟨fun w' h=>h.cell (blk_cell BY 0)⟩
 have Y1:Aside0 (∀ w',GW w1 w'→w'.cell? ⟨W.heap.size+1,1,none⟩=some (.int .i64 y2)):=⟨fun w' h=>h.cell (blk_cell BY 1)⟩
 have HG:=jM hG
 clear BX BY hG
 refine start_ (n:=13) (S:=fun w'=>GW w1 w') (ds:=[]) #[false,false,false,false,false,false,false,false,false,false,false,false,false] (by kernel_rfl) rfl rfl (GW.refl w1).drew (fun hHeld=>?_);refine with_tabW order_tab1 order_bits1 (fun HT_ HW_=>?_)
 generalize w1.drew=w2 at hHeld ⊢
 refine pure_ (i:=0) (N:=some 5) (v:=?_) (a':=?_) #[true,false,false,false,false,false,false,false,false,false,false,false,false] rfl rfl (any_of HT_.out (by kernel_rfl)) (fun _ _ _ h=>h) (Or.inl ⟨by rfl, ?_⟩) ?_ ?_
 rotate_left
 ·intro w'
  go_simp
  with_reducible rfl
 rotate_left
 ·simp only [Act.put,List.setIfInBounds_toArray,List.set_cons_zero,List.set_cons_succ,i64_w,i32_w]
  rfl
 refine pure_ (i:=2) (N:=some 7) (v:=?_) (a':=?_) #[true,false,true,false,false,false,false,false,false,false,false,false,false] rfl rfl (any_of HT_.out (by kernel_rfl)) (fun _ _ _ h=>h) (Or.inl ⟨by rfl, ?_⟩) ?_ ?_
 rotate_left
 ·intro w'
  go_simp
  with_reducible rfl
 rotate_left
 ·simp only [Act.put,List.setIfInBounds_toArray,List.set_cons_zero,List.set_cons_succ,i64_w,i32_w]
  rfl
 refine pure_ (i:=5) (N:=some 10) (v:=?_) (a':=?_) #[true,false,true,false,false,true,false,false,false,false,false,false,false] rfl rfl (any_of HT_.out (by kernel_rfl)) (fun _ _ _ h=>h) (Or.inl ⟨by rfl, ?_⟩) ?_ ?_
 rotate_left
 ·intro w'
  go_simp
  with_reducible rfl
 rotate_left
 ·simp only [Act.put,List.setIfInBounds_toArray,List.set_cons_zero,List.set_cons_succ,i64_w,i32_w]
  rfl
 refine pure_ (i:=7) (N:=some 12) (v:=?_) (a':=?_) #[true,false,true,false,false,true,false,true,false,false,false,false,false] rfl rfl (any_of HT_.out (by kernel_rfl)) (fun _ _ _ h=>h) (Or.inl ⟨by rfl, ?_⟩) ?_ ?_
 rotate_left
 ·intro w'
  go_simp
  with_reducible rfl
 rotate_left
 ·simp only [Act.put,List.setIfInBounds_toArray,List.set_cons_zero,List.set_cons_succ,i64_w,i32_w]
  rfl
 refine take_ (i:=1) (N:=some 6) (v:=?_) (a':=?_) #[true,true,true,false,false,true,false,true,false,false,false,false,false] rfl rfl (take_ofW HT_.out HW_.out (by kernel_rfl)) (fun _ _ _ h=>h) (Or.inl ⟨by rfl, ?_⟩) hHeld ?_ ?_
 rotate_left
 ·intro w' hw'
  have s0:=X0.out w' hw'
  go_simp
  with_reducible rfl
 rotate_left
 ·simp only [Act.put,List.setIfInBounds_toArray,List.set_cons_zero,List.set_cons_succ,i64_w,i32_w]
  rfl
 refine take_ (i:=3) (N:=some 8) (v:=?_) (a':=?_) #[true,true,true,true,false,true,false,true,false,false,false,false,false] rfl rfl (take_ofW HT_.out HW_.out (by kernel_rfl)) (fun _ _ _ h=>h) (Or.inl ⟨by rfl, ?_⟩) hHeld ?_ ?_
 rotate_left
 ·intro w' hw'
  have s0:=Y0.out w' hw'
  go_simp
  with_reducible rfl
 rotate_left
 ·simp only [Act.put,List.setIfInBounds_toArray,List.set_cons_zero,List.set_cons_succ,i64_w,i32_w]
  rfl
 refine take_ (i:=6) (N:=some 11) (v:=?_) (a':=?_) #[true,true,true,true,false,true,true,true,false,false,false,false,false] rfl rfl (take_ofW HT_.out HW_.out (by kernel_rfl)) (fun _ _ _ h=>h) (Or.inl ⟨by rfl, ?_⟩) hHeld ?_ ?_
 rotate_left
 ·intro w' hw'
  have s0:=X1.out w' hw'
  go_simp
  with_reducible rfl
 rotate_left
 ·simp only [Act.put,List.setIfInBounds_toArray,List.set_cons_zero,List.set_cons_succ,i64_w,i32_w]
  rfl
 refine take_ (i:=8) (N:=some 13) (v:=?_) (a':=?_) #[true,true,true,true,false,true,true,true,true,false,false,false,false] rfl rfl (take_ofW HT_.out HW_.out (by kernel_rfl)) (fun _ _ _ h=>h) (Or.inl ⟨by rfl, ?_⟩) hHeld ?_ ?_
 rotate_left
 ·intro w' hw'
  have s0:=Y1.out w' hw'
  go_simp
  with_reducible rfl
 rotate_left
 ·simp only [Act.put,List.setIfInBounds_toArray,List.set_cons_zero,List.set_cons_succ,i64_w,i32_w]
  rfl
 refine one_ (i:=4) (N:=some 9) #[true,true,true,true,true,true,true,true,true,false,false,false,false] rfl rfl (one_of HT_.out (by kernel_rfl)) (by decide) (fun K hK=>?_)
 refine goes_ Tryz.func90 (by kernel_rfl) rfl #[.int .i64 x1,.int .i64 y1] (by rfl) rfl rfl (by (try simp only [List.map_toArray,List.map_cons,List.map_nil]);rfl) ?_
 with_reducible refine (C1.out _).mono ?_
 rintro e w' ⟨he,hw'⟩
 rw [he,hw']
 clear he hw' w'
 refine ⟨_,rfl, ?_⟩
 refine hK.out _ _ (hHeld) (fun hHeld=>?_)
 clear hK K
 refine norm_ (a':=?_) ?_ ?_
 rotate_left
 ·show Act.put _ (some 9) _=_
  simp only [Act.put,List.setIfInBounds_toArray,List.set_cons_zero,List.set_cons_succ,i64_w,i32_w]
  rfl
 refine one_ (i:=9) (N:=some 14) #[true,true,true,true,true,true,true,true,true,true,false,false,false] rfl rfl (one_of HT_.out (by kernel_rfl)) (by decide) (fun K hK=>?_)
 refine goes_ Tryz.func90 (by kernel_rfl) rfl #[.int .i64 x2,.int .i64 y2] (by rfl) rfl rfl (by (try simp only [List.map_toArray,List.map_cons,List.map_nil]);rfl) ?_
 with_reducible refine (C2.out _).mono ?_
 rintro e w' ⟨he,hw'⟩
 rw [he,hw']
 clear he hw' w'
 refine ⟨_,rfl, ?_⟩
 refine hK.out _ _ (hHeld) (fun hHeld=>?_)
 clear hK K
 refine norm_ (a':=?_) ?_ ?_
 rotate_left
 ·show Act.put _ (some 14) _=_
  simp only [Act.put,List.setIfInBounds_toArray,List.set_cons_zero,List.set_cons_succ,i64_w,i32_w]
  rfl
 refine one_ (i:=10) (N:=some 15) #[true,true,true,true,true,true,true,true,true,true,true,false,false] rfl rfl (one_of HT_.out (by kernel_rfl)) (by decide) (fun K hK=>?_)
 refine value_ (w1:=?_) (v:=?_) (by rfl) rfl ?_ ?_
 rotate_left 2
 ·go_simp
  constructor
  ·rfl
  ·rfl
 have bA:=blk_new w2 (Obj.cells #[.int .i64 a,.int .i64 b] 3)
 refine hK.out _ _ (hHeld.alloc _) (fun hHeld=>?_)
 clear hK K
 refine norm_ (a':=?_) ?_ ?_
 rotate_left
 ·show Act.put _ (some 15) _=_
  simp only [Act.put,List.setIfInBounds_toArray,List.set_cons_zero,List.set_cons_succ,i64_w,i32_w]
  rfl
 have a0:=blk_cell bA 0
 have a1:=blk_cell bA 1
 generalize w2.alloc (Obj.cells #[.int .i64 a,.int .i64 b] 3)=w3 at *
 generalize w2.heap.size=gg at *
 refine one_ (i:=11) (N:=some 16) #[true,true,true,true,true,true,true,true,true,true,true,true,false] rfl rfl (one_of HT_.out (by kernel_rfl)) (by decide) (fun K hK=>?_)
 refine goes_ Tryz.func89 (by kernel_rfl) rfl #[.slice (some ⟨gg,0,none⟩) 2 2] (by rfl) rfl rfl (by (try simp only [List.map_toArray,List.map_cons,List.map_nil]);rfl) ?_
 with_reducible refine (O1.out _ _ _ a0 a1).mono ?_
 rintro e w' ⟨he,hw'⟩
 rw [he,hw']
 clear he hw' w'
 refine ⟨_,rfl, ?_⟩
 refine hK.out _ _ (hHeld) (fun hHeld=>?_)
 clear hK K
 refine norm_ (a':=?_) ?_ ?_
 rotate_left
 ·show Act.put _ (some 16) _=_
  simp only [Act.put,List.setIfInBounds_toArray,List.set_cons_zero,List.set_cons_succ,i64_w,i32_w]
  rfl
 refine pure_ (i:=12) (N:=some 4) (v:=?_) (a':=?_) #[true,true,true,true,true,true,true,true,true,true,true,true,true] rfl rfl (any_of HT_.out (by kernel_rfl)) (fun _ _ _ h=>h) (Or.inl ⟨by rfl, ?_⟩) ?_ ?_
 rotate_left
 ·intro w'
  go_simp
  with_reducible rfl
 rotate_left
 ·simp only [Act.put,List.setIfInBounds_toArray,List.set_cons_zero,List.set_cons_succ,i64_w,i32_w]
  rfl
 refine done_ (done_of HT_.out (by kernel_rfl)) ?_
 go_wp2
 go_ret
 obtain ⟨q1,o1,h1⟩:=HG.out
 obtain ⟨q2,o2,h2⟩:=hHeld
 exact ⟨rfl,by rw [h2,h1];exact ⟨q1+q2,o1 ++ o2,gw_join W q1 q2 o1 o2⟩⟩
end Go.Proofs.YtclollnicbcooaaGreatDoor.P
namespace Go.Proofs
open Go.Shelf
def Tryz.sortL_ren:Go.Shelf.Ren:=⟨fun | 6=>75 | 15=>88 | 14=>87 | 28=>106 | 29=>94 | 20=>98 | 21=>99 | 22=>100 | 23=>101 | 24=>102 | 25=>103 | 26=>104 | 27=>105 | 46=>110 | 47=>111 | 48=>112 | 49=>113 | 50=>114 | 57=>115 | n=>n,fun | 22=>75 | 24=>77 | 25=>138 | 3=>3 | 39=>152 | 0=>0 | 53=>162 | 55=>47 | 4=>4 | 46=>167 | 45=>166 | 50=>79 | 5=>5 | 9=>9 | 66=>174 | 70=>178 | 76=>182 | 77=>183 | n=>n,fun | n=>n⟩
theorem Tryz.sortL:Go.Proofs.SlLaysF0.n6 Tryz.prog Tryz.sortL_ren:={
 mixed:=by kernel_rfl
 f6:=⟨Tryz.f75.name,by decide,Tryz.func75.trans (congrArg some (by kernel_rfl))⟩
 f14:=⟨Tryz.f87.name,by decide,Tryz.func87.trans (congrArg some (by kernel_rfl))⟩
 f15:=Tryz.func88.trans (congrArg some (by kernel_rfl))
 f20:=⟨Tryz.f98.name,by decide,Tryz.func98.trans (congrArg some (by kernel_rfl))⟩
 f21:=⟨Tryz.f99.name,by decide,Tryz.func99.trans (congrArg some (by kernel_rfl))⟩
 f22:=⟨Tryz.f100.name,by decide,Tryz.func100.trans (congrArg some (by kernel_rfl))⟩
 f23:=⟨Tryz.f101.name,by decide,Tryz.func101.trans (congrArg some (by kernel_rfl))⟩
 f24:=⟨Tryz.f102.name,by decide,Tryz.func102.trans (congrArg some (by kernel_rfl))⟩
 f25:=⟨Tryz.f103.name,by decide,Tryz.func103.trans (congrArg some (by kernel_rfl))⟩
 f26:=⟨Tryz.f104.name,by decide,Tryz.func104.trans (congrArg some (by kernel_rfl))⟩
 f27:=⟨Tryz.f105.name,by decide,Tryz.func105.trans (congrArg some (by kernel_rfl))⟩
 f28:=Tryz.func106.trans (congrArg some (by kernel_rfl))
 f29:=Tryz.func94.trans (congrArg some (by kernel_rfl))
 f46:=⟨Tryz.f110.name,by decide,Tryz.func110.trans (congrArg some (by kernel_rfl))⟩
 f47:=Tryz.func111.trans (congrArg some (by kernel_rfl))
 f48:=Tryz.func112.trans (congrArg some (by kernel_rfl))
 f49:=⟨Tryz.f113.name,by decide,Tryz.func113.trans (congrArg some (by kernel_rfl))⟩
 f50:=⟨Tryz.f114.name,by decide,Tryz.func114.trans (congrArg some (by kernel_rfl))⟩
 f57:=⟨Tryz.f115.name,by decide,Tryz.func115.trans (congrArg some (by kernel_rfl))⟩
 t0:=Tryz.underlying0
 a0:=Tryz.isAgg0
 z0:=Tryz.sizeOf0
 v0:=Tryz.zeroValue0
 t3:=Tryz.underlying3
 a3:=Tryz.isAgg3
 z3:=Tryz.sizeOf3
 v3:=Tryz.zeroValue3
 t4:=Tryz.underlying4
 a4:=Tryz.isAgg4
 z4:=Tryz.sizeOf4
 v4:=Tryz.zeroValue4
 t5:=Tryz.underlying5
 a5:=Tryz.isAgg5
 z5:=Tryz.sizeOf5
 v5:=Tryz.zeroValue5
 t9:=Tryz.underlying9
 a9:=Tryz.isAgg9
 z9:=Tryz.sizeOf9
 v9:=Tryz.zeroValue9
 t22:=Tryz.underlying75
 a22:=Tryz.isAgg75
 z22:=Tryz.sizeOf75
 v22:=Tryz.zeroValue75
 t25:=Tryz.underlying138
 a25:=Tryz.isAgg138
 z25:=Tryz.sizeOf138
 v25:=Tryz.zeroValue138
 t39:=Tryz.underlying152
 a39:=Tryz.isAgg152
 z39:=Tryz.sizeOf152
 v39:=Tryz.zeroValue152
 t45:=Tryz.underlying166
 a45:=Tryz.isAgg166
 z45:=Tryz.sizeOf166
 v45:=Tryz.zeroValue166
 t46:=Tryz.underlying167
 a46:=Tryz.isAgg167
 z46:=Tryz.sizeOf167
 v46:=Tryz.zeroValue167
 t50:=Tryz.underlying79
 a50:=Tryz.isAgg79
 z50:=Tryz.sizeOf79
 v50:=Tryz.zeroValue79
 t53:=Tryz.underlying162
 a53:=Tryz.isAgg162
 z53:=Tryz.sizeOf162
 v53:=Tryz.zeroValue162
 t55:=Tryz.underlying47
 a55:=Tryz.isAgg47
 z55:=Tryz.sizeOf47
 v55:=Tryz.zeroValue47
 t66:=Tryz.underlying174
 a66:=Tryz.isAgg174
 z66:=Tryz.sizeOf174
 v66:=Tryz.zeroValue174
 t70:=Tryz.underlying178
 a70:=Tryz.isAgg178
 z70:=Tryz.sizeOf178
 v70:=Tryz.zeroValue178
 t76:=Tryz.underlying182
 a76:=Tryz.isAgg182
 z76:=Tryz.sizeOf182
 v76:=Tryz.zeroValue182
 t77:=Tryz.underlying183
 a77:=Tryz.isAgg183
 z77:=Tryz.sizeOf183
 v77:=Tryz.zeroValue183 }
def Tryz.itoaL_ren:Go.Shelf.Ren:=⟨fun | 171=>29 | 243=>55 | 246=>72 | 283=>83 | 284=>84 | 285=>85 | 286=>86 | 129=>94 | 317=>93 | 318=>95 | 319=>96 | 320=>97 | 337=>108 | 338=>109 | n=>n,fun | 3=>3 | 9=>9 | 2=>2 | 4=>4 | 171=>144 | 0=>0 | 53=>47 | 37=>147 | 5=>5 | 173=>148 | 212=>161 | 51=>162 | 20=>20 | 213=>163 | 46=>152 | 232=>180 | 233=>181 | n=>n,fun | 17=>0 | 18=>1 | 19=>2 | n=>n⟩
theorem Tryz.itoaL:Go.Proofs.LaysM.n171 Tryz.prog Tryz.itoaL_ren:={
 mixed:=by kernel_rfl
 f129:=Tryz.func94.trans (congrArg some (by kernel_rfl))
 f171:=Tryz.func29.trans (congrArg some (by kernel_rfl))
 f243:=Tryz.func55.trans (congrArg some (by kernel_rfl))
 f246:=Tryz.func72.trans (congrArg some (by kernel_rfl))
 f283:=Tryz.func83.trans (congrArg some (by kernel_rfl))
 f284:=Tryz.func84.trans (congrArg some (by kernel_rfl))
 f285:=Tryz.func85.trans (congrArg some (by kernel_rfl))
 f286:=Tryz.func86.trans (congrArg some (by kernel_rfl))
 f317:=Tryz.func93.trans (congrArg some (by kernel_rfl))
 f318:=Tryz.func95.trans (congrArg some (by kernel_rfl))
 f319:=Tryz.func96.trans (congrArg some (by kernel_rfl))
 f320:=Tryz.func97.trans (congrArg some (by kernel_rfl))
 f337:=Tryz.func108.trans (congrArg some (by kernel_rfl))
 f338:=Tryz.func109.trans (congrArg some (by kernel_rfl))
 t0:=Tryz.underlying0
 a0:=Tryz.isAgg0
 z0:=Tryz.sizeOf0
 v0:=Tryz.zeroValue0
 t2:=Tryz.underlying2
 a2:=Tryz.isAgg2
 z2:=Tryz.sizeOf2
 v2:=Tryz.zeroValue2
 t3:=Tryz.underlying3
 a3:=Tryz.isAgg3
 z3:=Tryz.sizeOf3
 v3:=Tryz.zeroValue3
 t4:=Tryz.underlying4
 a4:=Tryz.isAgg4
 z4:=Tryz.sizeOf4
 v4:=Tryz.zeroValue4
 t5:=Tryz.underlying5
 a5:=Tryz.isAgg5
 z5:=Tryz.sizeOf5
 v5:=Tryz.zeroValue5
 t9:=Tryz.underlying9
 a9:=Tryz.isAgg9
 z9:=Tryz.sizeOf9
 v9:=Tryz.zeroValue9
 t20:=Tryz.underlying20
 a20:=Tryz.isAgg20
 z20:=Tryz.sizeOf20
 v20:=Tryz.zeroValue20
 t37:=Tryz.underlying147
 a37:=Tryz.isAgg147
 z37:=Tryz.sizeOf147
 v37:=Tryz.zeroValue147
 t46:=Tryz.underlying152
 a46:=Tryz.isAgg152
 z46:=Tryz.sizeOf152
 v46:=Tryz.zeroValue152
 t51:=Tryz.underlying162
 a51:=Tryz.isAgg162
 z51:=Tryz.sizeOf162
 v51:=Tryz.zeroValue162
 t53:=Tryz.underlying47
 a53:=Tryz.isAgg47
 z53:=Tryz.sizeOf47
 v53:=Tryz.zeroValue47
 t171:=Tryz.underlying144
 a171:=Tryz.isAgg144
 z171:=Tryz.sizeOf144
 v171:=Tryz.zeroValue144
 t173:=Tryz.underlying148
 a173:=Tryz.isAgg148
 z173:=Tryz.sizeOf148
 v173:=Tryz.zeroValue148
 t212:=Tryz.underlying161
 a212:=Tryz.isAgg161
 z212:=Tryz.sizeOf161
 v212:=Tryz.zeroValue161
 t213:=Tryz.underlying163
 a213:=Tryz.isAgg163
 z213:=Tryz.sizeOf163
 t232:=Tryz.underlying180
 a232:=Tryz.isAgg180
 z232:=Tryz.sizeOf180
 v232:=Tryz.zeroValue180
 t233:=Tryz.underlying181
 a233:=Tryz.isAgg181
 z233:=Tryz.sizeOf181
 v233:=Tryz.zeroValue181
 g17:=by kernel_rfl
 g18:=by kernel_rfl
 g19:=by kernel_rfl
 i0:=by kernel_rfl
 i2:=by kernel_rfl
 i3:=by kernel_rfl
 i4:=by kernel_rfl
 i5:=by kernel_rfl
 i9:=by kernel_rfl
 i20:=by kernel_rfl
 i37:=by kernel_rfl
 i46:=by kernel_rfl
 i51:=by kernel_rfl
 i53:=by kernel_rfl
 i171:=by kernel_rfl
 i173:=by kernel_rfl
 i212:=by kernel_rfl
 i232:=by kernel_rfl
 i233:=by kernel_rfl
 m17:=by kernel_rfl
 m18:=by kernel_rfl
 m19:=by kernel_rfl }
end Go.Proofs
namespace Go.Proofs.YtclollnicbcooaaGreatDoor.P
open Go.RowKit Go.Lib Go.Sort YtclollnicbcooaaGreatDoorW.PrintWords YtclollnicbcooaaGreatDoorW.PrintLast YtclollnicbcooaaGreatDoorW.PrintMore St
instance:Inhabited Itm:=⟨(0,0)⟩
set_option maxHeartbeats 1000000 in
theorem sort_calls (g cap:Nat) (d:Array Itm) (w:World) (hH:HI w g 0 d) (hg:g < w.heap.size) (hsz:d.size < 4611686018427387904) :
  Calls Tryz.prog 75 #[.slice (some ⟨g,0,none⟩) d.size cap,.func (.func 76) #[] #[]] w fun e w'=>e=.returned (.tuple #[])∧∃ d',PermIn 0 d.size d d'∧SortedIn (ltOf cfI) 0 d.size d'∧Turned w w' g∧HI w' g 0 d':=by
 have eg:∀ args w,(callFunc 76 args).run Tryz.prog w=.ok (.enter 76 args) w:=enters_of Tryz.func76 (by kernel_rfl) rfl
 have hcmp:CmpLays Tryz.prog 76 #[] encI 2 cfI g 0 d.size w:=fun _ _ _ _ x y=>order_calls x y _
 have h:=AnyQ.slices_SortFunc Tryz.sortL 2 Tryz.isAgg77 Tryz.sizeOf77 encI (fun _=>rfl) (fun x v hv=>by simp [encI] at hv;rcases hv with rfl | rfl <;> rfl) cfI cfI_swo 76 #[] g 0 cap d w eg hcmp hH hg hsz
 change Calls Tryz.prog 75 _ _ _ at h
 refine h.mono ?_
 rintro e w' ⟨he,d',n,os,hp,hs,rfl⟩
 exact ⟨he,d',hp,hs,turned_sort w g n d' os,holdsK_sortWorldK encI 2 w g 0 n d d' os hg hH hp.1⟩
theorem sort_none (p:Option Addr) (cap:Nat) (w:World):Calls Tryz.prog 75 #[.slice p 0 cap,.func (.func 76) #[] #[]] w fun e w'=>e=.returned (.tuple #[])∧w'=w:=by
 have h:=AnyF.slices_SortFunc_none (P:=Tryz.prog) (ρ:=Tryz.sortL_ren) { Tryz.sortL with } p cap (.func (.func 76) #[] #[]) w
 change Calls Tryz.prog 75 _ _ _ at h
 exact h
theorem compact_none (p:Option Addr) (cap:Nat) (w:World):Calls Tryz.prog 77 #[.slice p 0 cap] w fun e w'=>e=.returned (.slice p 0 cap)∧w'=w:=by
 go_enter Tryz.func77,Tryz.ntmps77
 go_wp2
 go_ret
 exact ⟨rfl,rfl⟩

def risen (l:List Itm):List Itm:=compL (l.mergeSort fun a b=>!(ltOf cfI b a))
theorem risen_is (l:List Itm):Rising (risen l) (· ∈ l) :=
 Rising.of l _ (fun x=>List.mem_mergeSort) (by
  refine (List.pairwise_mergeSort (le:=fun a b=>!(ltOf cfI b a)) (fun a b c h1 h2=>?_) (fun a b=>?_) l).imp fun {a b} h=>?_
  ·simp only [Bool.not_eq_true',cfI_not] at *
   unfold lt at *;omega
  ·simp only [Bool.or_eq_true,Bool.not_eq_true',cfI_not]
   unfold lt;omega
  ·simp only [Bool.not_eq_true',cfI_not] at h
   exact h)
theorem risen_one {l r:List Itm} (h:Rising r (· ∈ l)):r=risen l:=h.one (risen_is l) fun _=>Iff.rfl
def risenS (xs:List S77):List S77:=(risen (xs.map toI)).map ofI

set_option maxHeartbeats 1000000 in
theorem rising_calls (v:Value) (xs:List S77) (base:Nat) (ok:Nat→Prop) (w:World) (h:Kd.R k77 77 w base ok v xs) (hsz:xs.length < 4611686018427387904) :
  Calls Tryz.prog 60 #[v] w fun e w'=>∃ v',e=.returned v'∧Kd.R k77 77 w' base ok v' (risenS xs)∧w.grownBy w' v.ownBlock∧v'.ownBlock=v.ownBlock:=by
 have hu75:=Tryz.underlying75
 by_cases hp:0 < xs.length
 ·obtain ⟨g,cap,cur,rfl,hb,hok,hg,hc1,hc2,hcs,hH⟩:=R_items h hp
  have hglt:=blk_lt hg
  have hds:(xs.map toI).toArray.size=xs.length:=by simp
  have HS:=sort_calls g cap (xs.map toI).toArray w hH hglt (by rw [hds];exact hsz)
  rw [hds] at HS
  replace HS:=jM HS
  have HX:=jM (show base≤g∧ok g∧w.heap[g]? = some (.cells cur 77 (0,0))∧xs.length≤cap∧cap≤maxLen∧cur.size=cap * 2 from ⟨hb,hok,hg,hc1,hc2,hcs⟩)
  clear h hb hok hg hc1 hc2 hcs hH hglt
  go_enter Tryz.func60,Tryz.ntmps60
  go_upto_region 2 with (go_at_call 75;refine HS.out.mono ?_;rintro e w1 ⟨rfl,d',hpm,hst,ht,hh⟩;have HP:=jM hpm;have HT:=jM hst;have HU:=jM ht;have HH:=jM hh;clear hpm hst ht hh)
  have hd's:d'.size=xs.length:=HP.out.1.trans hds
  have HC:=compact_calls g 0 cap d' w1 HH.out (by rw [hd's];omega) (by rw [hd's];exact HX.out.2.2.2.1) (by rw [hd's];exact hp)
  rw [hd's] at HC
  replace HC:=jM HC
  have hr:compactUpTo d' d'.size=risen (xs.map toI):=risen_one (by
   have:=sorted_rise (xs.map toI).toArray d' (by rw [hds];rw [hds] at *;exact HP.out) (by rw [hds];exact HT.out)
   simpa using this)
  rw [hd's] at hr
  have HR:=jM hr
  clear hr
  go_wp2_with (go_at_call 77;refine HC.out.mono ?_;rintro e w2 ⟨rfl,ht2,hh2⟩;have HU2:=jM ht2;have HH2:=jM hh2;clear ht2 hh2)
  go_ret
  obtain ⟨cur',e1,s1⟩:=(HU.out.trans HU2.out).same cur 77 HX.out.2.2.1
  have hl:(compactUpTo d' xs.length).length≤xs.length:=by
   unfold compactUpTo
   rw [List.length_map]
   exact Nat.le_trans (List.length_filter_le _ _) (by simp)
  have hres:=R_of_items (w:=w2) (base:=base) (ok:=ok) (cap:=cap) HX.out.1 HX.out.2.1 e1 (d:=(compactUpTo d' xs.length).toArray) (by simp only [List.size_toArray];exact Nat.le_trans hl HX.out.2.2.2.1) HX.out.2.2.2.2.1 (s1.trans HX.out.2.2.2.2.2) HH2.out
  refine ⟨_,rfl, ?_,(HU.out.trans HU2.out).grown,rfl⟩
  have e2:((compactUpTo d' xs.length).toArray.toList.map ofI)=risenS xs:=by rw [HR.out];rfl
  rw [e2] at hres
  exact hres
 ·have hx:xs=[]:=List.eq_nil_of_length_eq_zero (by omega)
  subst hx
  obtain ⟨A,c,rfl⟩:=Kd.R_slice h
  have HX:=jM h
  clear h
  have hr:risenS []=[]:=by
   have:=risen_one (l:=[]) (r:=[]) ⟨List.Pairwise.nil,fun x=>Iff.rfl⟩
   unfold risenS;rw [List.map_nil,← this];rfl
  rw [hr]
  simp only [List.length_nil] at *
  go_enter Tryz.func60,Tryz.ntmps60
  go_wp2_with (first | (go_at_call 75;refine (sort_none _ _ _).mono ?_;rintro e w' ⟨rfl,rfl⟩) | (go_at_call 77;refine (compact_none _ _ _).mono ?_;rintro e w' ⟨rfl,rfl⟩))
  go_ret
  exact ⟨_,rfl,HX.out,⟨rfl,rfl,rfl,Nat.le_refl _,fun _ _ _=>rfl⟩,rfl⟩
section
def gr (st:Int) (l3:List S68):Gr:=⟨st,l3.map fun p=>(p.f1,p.f2)⟩
theorem gr_len (st:Int) (l3:List S68):(gr st l3).ps.length=l3.length:=by simp [gr]
theorem gr_at (st:Int) (l3:List S68) (a:Int) (h0:0≤a) (h1:a < l3.length):(gr st l3).ps.getD a.toNat (0,[])=((rd_T68 l3 a).f1,(rd_T68 l3 a).f2):=by
 have h:a.toNat < l3.length:=by omega
 unfold gr rd_T68
 simp [List.getD,h]
structure Fits (l2:List ByteArray) (l3:List S68) (st:Int):Prop where
 lo:0≤st
 hi:st < l2.length
 sorts:l2.length≤60
 few:l3.length≤120
 short:∀ p ∈ l3,p.f2.length≤12
theorem fits_of {l0:List S65} {l1:List S73} {l2:List ByteArray} {l3:List S68} {st:Int} (h:validB l0 l1 l2 l3 st=true):Fits l2 l3 st:=by
 unfold validB at h
 simp only [Bool.and_eq_true,Bool.not_eq_true',decide_eq_false_iff_not,inB,decide_eq_true_eq] at h
 refine ⟨?_, ?_, ?_, ?_,fun p hp=>?_⟩
 ·omega
 ·omega
 ·omega
 ·omega
 ·have:=List.all_eq_true.1 h.1.1.1.2 p hp
  unfold prodB at this
  simp only [Bool.and_eq_true,Bool.not_eq_true',decide_eq_false_iff_not] at this
  omega
section
variable {l0:List S65} {l1:List S73} {l2:List ByteArray} {l3:List S68} {st:Int} (h:Fits l2 l3 st)
include h
theorem wrap_start:wrap64 ((-1) - st)=-1 - st:=by
 have:=h.lo;have:=h.hi;have:=h.sorts
 exact IntWalk.wrap64_in _ (by omega)
theorem right_is (a:Int):states_right.f l0 l1 l2 l3 st a=some (match rightL (gr st l3) a with | some r=>(r,true) | none=>([],false)):=by
 unfold states_right.f rightL
 rw [gr_len,wrap_start h]
 by_cases h1:a=-1
 ·rw [if_pos h1,if_pos h1];rfl
 ·rw [if_neg h1,if_neg h1]
  by_cases h2:a < 0
  ·rw [if_pos h2,if_neg (by omega)]
  ·rw [if_neg h2]
   by_cases h3:a ≥ (l3.length:Int)
   ·rw [if_pos h3,if_neg (by omega)]
   ·rw [if_neg h3,if_pos (by omega),if_pos (by omega),if_pos (by omega),gr_at st l3 a (by omega) (by omega)]
theorem is_is (a b:Int):states_is.f l0 l1 l2 l3 st a b=some (isI (gr st l3) (a,b)):=by
 unfold states_is.f isI
 rw [right_is h,Option.bind_some]
 cases hr:rightL (gr st l3) a with
 | none=>simp
 | some r =>
  simp only [if_true]
  by_cases h1:b ≥ 0
  ·rw [if_pos h1];simp [h1]
  ·rw [if_neg h1];simp [h1]
theorem behind_is (a b:Int):states_behind.f l0 l1 l2 l3 st a b=some (match behindL (gr st l3) (a,b) with | some s=>(s,true) | none=>(0,false)):=by
 unfold states_behind.f
 rw [right_is h,Option.bind_some,is_is h,Option.bind_some]
 unfold isI behindL
 cases hr:rightL (gr st l3) a with
 | none=>simp
 | some r =>
  simp only
  by_cases h1:0≤b∧b≤r.length
  ·rw [if_pos (decide_eq_true h1)]
   by_cases h2:b=(r.length:Int)
   ·rw [if_pos h2,if_neg (by omega)]
   ·rw [if_neg h2,if_pos h1.1,if_pos (by omega),if_pos (by omega)]
    rfl
  ·rw [if_neg (by simpa using h1),if_neg (by omega)]
theorem behind_short {x:Itm} {s:Int} (hb:behindL (gr st l3) x=some s):0≤x.2∧x.2 < 13:=by
 unfold behindL at hb
 cases hr:rightL (gr st l3) x.1 with
 | none=>rw [hr] at hb;cases hb
 | some r =>
  rw [hr] at hb
  simp only at hb
  split at hb
  ·rename_i hx
   have hl:r.length≤12:=by
    unfold rightL at hr
    rw [gr_len] at hr
    split at hr
    ·cases hr;simp
    ·split at hr
     ·rename_i h1 h2
      rw [gr_at st l3 x.1 h2.1 h2.2] at hr
      injection hr with hr
      rw [← hr]
      refine h.short _ ?_
      unfold rd_T68
      have:x.1.toNat < l3.length:=by omega
      rw [List.getD_eq_getElem?_getD,List.getElem?_eq_getElem this]
      exact List.getElem_mem this
     ·cases hr
   omega
  ·cases hb
end
def stepL (g:Gr) (l:List Itm) (s:Int):List Itm:=l.filterMap fun x=>if behindL g x=some s then some (x.1,x.2+1) else none
theorem stepL_mem (g:Gr) (l:List Itm) (s:Int) (y:Itm):y ∈ stepL g l s ↔ Sp g (· ∈ l) s y:=by
 unfold stepL Sp
 rw [List.mem_filterMap]
 constructor
 ·rintro ⟨x,hx,h⟩
  split at h
  ·rename_i hb
   exact ⟨x,hx,hb,(Option.some.inj h).symm⟩
  ·cases h
 ·rintro ⟨x,hx,hb,rfl⟩
  exact ⟨x,hx,by rw [if_pos hb]⟩
theorem stepL_snoc (g:Gr) (l:List Itm) (x:Itm) (s:Int):stepL g (l ++ [x]) s=stepL g l s ++ (if behindL g x=some s then [(x.1,x.2+1)] else []):=by
 unfold stepL
 rw [List.filterMap_append]
 congr 1
 by_cases h:behindL g x=some s <;> simp [h]
end
section
attribute [local go_sem] Oper.semAt_some

def ofSort (g:Gr) (s:Int) (n:Nat):List Itm:=(List.range n).filterMap fun p=>if (g.ps.getD p (0,[])).1=s then some ((p:Int),0) else none
theorem ofSort_succ (g:Gr) (s:Int) (n:Nat):ofSort g s (n+1)=ofSort g s n ++ (if (g.ps.getD n (0,[])).1=s then [((n:Int),0)] else []):=by
 unfold ofSort
 rw [List.range_succ,List.filterMap_append]
 congr 1
 by_cases h:(g.ps.getD n (0,[])).1=s
 ·rw [if_pos h];simp only [List.filterMap_cons,List.filterMap_nil,if_pos h]
 ·rw [if_neg h]
  simp only [List.filterMap_cons,List.filterMap_nil,if_neg h]
theorem ofSort_mono (g:Gr) (s:Int) (n m:Nat) (h:n≤m):(ofSort g s n).length≤(ofSort g s m).length:=by
 induction m with
 | zero =>
  have:n=0:=by omega
  subst this;exact Nat.le_refl _
 | succ m ih =>
  by_cases e:n=m+1
  ·subst e;exact Nat.le_refl _
  ·have:=ih (by omega)
   rw [ofSort_succ,List.length_append];omega
theorem ofSort_lt (g:Gr) (s:Int) (n m:Nat) (h:n < m) (hs:(g.ps.getD n (0,[])).1=s):(ofSort g s n).length < (ofSort g s m).length:=by
 have:=ofSort_mono g s (n+1) m h
 rw [ofSort_succ,if_pos hs,List.length_append] at this
 simp at this;omega

def encY (x:Itm):Array Value:=#[.agg #[.int .i64 x.1,.int .i64 x.2]]
def GG (A0:Option Addr) (c0 n0:Nat) (A1:Option Addr) (c1 n1:Nat) (A2:Option Addr) (c2 n2:Nat) (A3:Option Addr) (c3:Nat) (l3:List S68) (st:Int) (gb:Nat) (W:World):Prop :=
 W.heap[gb]? = some (.cells #[.slice A0 n0 c0,.slice A1 n1 c1,.slice A2 n2 c2,.slice A3 l3.length c3,.int .i64 st] 27 (0,0))∧Kd.C k68 W A3 l3.length l3

set_option maxRecDepth 100000 in
set_option maxHeartbeats 4000000 in
theorem begins1 (n:Nat) (hn:1≤n) (A0:Option Addr) (c0 n0:Nat) (A1:Option Addr) (c1 n1:Nat) (A2:Option Addr) (c2 n2:Nat) (A3:Option Addr) (c3:Nat) (l3:List S68) (st:Int) (gb sb:Nat) (sort:Int) (hmax:l3.length≤120) (w:World) (hw:Boxed w sb 3 (.int .i64 sort)) :
  GivesCell Fence.wide n Tryz.prog 74 #[.pointer (some ⟨gb,0,none⟩),.pointer (some ⟨sb,0,none⟩)] encY sb 3 (ofSort (gr st l3) sort l3.length) (GG A0 c0 n0 A1 c1 n1 A2 c2 n2 A3 c3 l3 st gb) w:=by
 intro l J hJb hJG hY W hJ0 hB
 have hbW:Boxed W sb 3 (.int .i64 sort):=(hB.block sb hw.lt).trans hw
 clear hw hB
 have hu27:=Tryz.underlying27
 have hu25:=Tryz.underlying25
 have hu68:=Tryz.underlying68
 have hu77:=Tryz.underlying77
 have mixed:Tryz.prog.follows .mixedOrders=true:=by kernel_rfl
 refine callsIn_of_wp Tryz.func74 rfl trivial ?_ rfl
 simp only [Tryz.ntmps74,List.size_toArray,List.length_cons,List.length_nil,Nat.reduceAdd,Nat.reduceSub,Array.replicate_succ,Array.replicate_zero,List.push_toArray,List.append_toArray,List.nil_append,List.cons_append]
 have hG0:=(hJG _ _ hJ0).1
 have z3:W.cell? ⟨gb,3,none⟩=some (.slice A3 l3.length c3):=blk_cell hG0 3
 gi_wp2
 gi_loopw [8] (fun v8 wr=>∃ i:Nat,v8=.int .i64 i∧i≤l3.length∧Boxed wr sb 3 (.int .i64 sort)∧J (ofSort (gr st l3) sort i) wr) (fun v8 _=>l3.length - (intOf v8).toNat)
 case atStart=>exact ⟨0,rfl,Nat.zero_le _,hbW,hJ0⟩
 case round =>
  obtain ⟨i,rfl,hi,hbs,hJs⟩:=hrel
  by_cases hlt:i < l3.length
  ·have hltb:decide (i < l3.length)=true:=decide_eq_true hlt
   have hG:=hJG _ _ hJs
   have z3:wr.cell? ⟨gb,3,none⟩=some (.slice A3 l3.length c3):=blk_cell hG.1 3
   have b0:wr.cell? ⟨sb,0,none⟩=some (.int .i64 sort):=hbs.cell
   obtain ⟨ad,A4,c4,rfl,hx1,hx2,hx3,hx4,hcap,hr4⟩:=at_T68 hG.2 (i:Int) (by omega) (by omega)
   rw [Int.toNat_natCast] at hx1 hx2 hx3 hx4
   have hat:=gr_at st l3 (i:Int) (by omega) (by omega)
   rw [Int.toNat_natCast] at hat
   obtain ⟨srt,hsrt⟩:∃ x,(rd_T68 l3 i).f1=x:=⟨_,rfl⟩
   rw [hsrt] at hx2
   clear hx1 hx3 hx4 hr4 hcap
   by_cases hs:srt=sort
   ·have e1:(srt == sort)=true:=by simpa using hs
    have e2:decide (srt=sort)=true:=decide_eq_true hs
    have hat1:((gr st l3).ps.getD i (0,[])).1=sort:=by rw [hat];exact hsrt.trans hs
    have hJd:J (ofSort (gr st l3) sort i) wr.drew:=hJb _ _ _ hJs ⟨rfl,rfl,rfl,Nat.le_refl _,fun _ _ _=>rfl⟩
    have hbd:Boxed wr.drew sb 3 (.int .i64 sort):=hbs
    obtain ⟨fn,tmps,assign,body,hy,hR⟩:=hY _ ((i:Int),0) wr.drew _ hJd (ofSort_lt _ _ _ _ hlt hat1) hbd
    simp only [encY] at hy
    gi_wp2
    gi_region_with_o (refine hR.mono ?_;rintro e W3 ⟨rfl,hJ3,hb3⟩)
    all_goals gi_wp2
    all_goals go_roundw
    all_goals first
     | (refine ⟨i+1,rfl,by omega,hb3, ?_⟩;rw [ofSort_succ,if_pos hat1];exact hJ3)
     | (simp [intOf];omega)
   ·have e1:(srt == sort)=false:=by simpa using hs
    have e2:decide (srt=sort)=false:=decide_eq_false hs
    have hat1:¬ ((gr st l3).ps.getD i (0,[])).1=sort:=by rw [hat];exact fun h=>hs (hsrt.symm.trans h)
    gi_wp2
    refine wpIn_wide.2 ?_
    repeat (go_quiet (fail))
    gi_wp2
    go_roundw
    case rel =>
     refine ⟨i+1,rfl,by omega,hbs, ?_⟩
     rw [ofSort_succ,if_neg hat1,List.append_nil]
     exact hJb _ _ _ hJs ⟨rfl,rfl,rfl,Nat.le_refl _,fun _ _ _=>rfl⟩
    case measure=>simp [intOf];omega
  ·have hltb:decide (i < l3.length)=false:=decide_eq_false hlt
   have hil:i=l3.length:=by omega
   subst hil
   gi_wp2
   go_end0
   exact ⟨⟨_,rfl⟩,hJs⟩
end
theorem five5 {w:World} {g:Nat} {u0 u1 u2 u3 u4:Value} {t:TypeId} (h:w.heap[g]? = some (.cells #[u0,u1,u2,u3,u4] t (0,0))) :
  w.cell? ⟨g,0,none⟩=some u0∧w.cell? ⟨g,1,none⟩=some u1∧w.cell? ⟨g,2,none⟩=some u2∧w.cell? ⟨g,3,none⟩=some u3∧w.cell? ⟨g,4,none⟩=some u4 :=
 ⟨blk_cell h 0,blk_cell h 1,blk_cell h 2,blk_cell h 3,blk_cell h 4⟩
theorem below_grown {w W W':World} {row:Option Nat} (h:Below w.heap.size w W) (hg:W.grownBy W' row) (hB:∀ k,row=some k→w.heap.size≤k):Below w.heap.size w W' :=
 ⟨hg.os.trans h.os,hg.tape.trans h.tape,hg.output.trans h.output,Nat.le_trans h.size hg.size,fun k hk=>(hg.block k (Nat.lt_of_lt_of_le hk h.size) (fun e=>by have:=hB k e.symm;omega)).trans (h.block k hk)⟩
theorem stepL_len (g:Gr) (l:List Itm) (s:Int):(stepL g l s).length≤l.length:=List.length_filterMap_le _ _
def states_step.f (l0:List S65) (l1:List S73) (l2:List ByteArray) (l3:List S68) (st:Int) (l:List S77) (s:Int):Option (List S77) :=
 if validB l0 l1 l2 l3 st=true∧l.length≤1000000 then some ((risen (stepL (gr st l3) (l.map toI) s)).map ofI) else none

set_option maxHeartbeats 4000000 in
set_option maxRecDepth 100000 in
theorem states_step.calls (A0:Option Addr) (c0:Nat) (l0:List S65) (A1:Option Addr) (c1:Nat) (l1:List S73) (A2:Option Addr) (c2:Nat) (l2:List ByteArray) (A3:Option Addr) (c3:Nat) (l3:List S68) (st:Int) (A:Option Addr) (c:Nat) (l:List S77) (s:Int) (r:List S77) (w:World)
  (hr0:Kd.C k65 w A0 l0.length l0) (hc0:l0.length≤c0) (hr1:Kd.C k73 w A1 l1.length l1) (hc1:l1.length≤c1) (hr2:Kd.C Kd.string w A2 l2.length l2) (hc2:l2.length≤c2) (hr3:Kd.C k68 w A3 l3.length l3) (hc3:l3.length≤c3) (hr:Kd.C k77 w A l.length l) (hc:l.length≤c)
  (h:states_step.f l0 l1 l2 l3 st l s=some r) :
  Calls Tryz.prog 32 #[.agg #[.slice A0 l0.length c0,.slice A1 l1.length c1,.slice A2 l2.length c2,.slice A3 l3.length c3,.int .i64 st],.slice A l.length c,.int .i64 s] w fun e w'=>∃ v0_:Value,e=.returned (v0_)∧Kd.R k77 77 w' w.heap.size (fun _=>True) v0_ r∧Below w.heap.size w w':=by
 unfold states_step.f at h
 by_cases hv:validB l0 l1 l2 l3 st=true∧l.length≤1000000
 ·rw [if_pos hv] at h
  obtain rfl:=Option.some.inj h
  have hF:=fits_of hv.1
  have HR0:=jM hr0
  have HR1:=jM hr1
  have HR2:=jM hr2
  have HR3:=jM hr3
  have HR:=jM hr
  have HC0:=jM hc0
  have HC1:=jM hc1
  have HC2:=jM hc2
  have HC3:=jM hc3
  have HC:=jM hc
  have HV:=jM hv
  have HF:=jM hF
  clear h hr0 hr1 hr2 hr3 hr hc0 hc1 hc2 hc3 hc hv hF
  have hu27:=Tryz.underlying27
  have hu75:=Tryz.underlying75
  have hu77:=Tryz.underlying77
  go_enter Tryz.func32,Tryz.ntmps32
  go_upto_region 1 with fail
  have BG:=jM (blk_new w (Obj.cells #[.slice A0 l0.length c0,.slice A1 l1.length c1,.slice A2 l2.length c2,.slice A3 l3.length c3,.int .i64 st] 27))
  have HB:=jM (below_alloc (Below.refl w.heap.size w) (Obj.cells #[.slice A0 l0.length c0,.slice A1 l1.length c1,.slice A2 l2.length c2,.slice A3 l3.length c3,.int .i64 st] 27))
  generalize w.alloc (Obj.cells #[.slice A0 l0.length c0,.slice A1 l1.length c1,.slice A2 l2.length c2,.slice A3 l3.length c3,.int .i64 st] 27)=w1 at *
  go_wp2
  go_loopw [7,14] (fun v7 v14 wr=>∃ i:Nat,v14=.int .i64 i∧i≤l.length∧Aside0 (Below w.heap.size w wr)∧Aside0 (wr.heap[w.heap.size]? = some (.cells #[.slice A0 l0.length c0,.slice A1 l1.length c1,.slice A2 l2.length c2,.slice A3 l3.length c3,.int .i64 st] 27 (0,0)))∧Aside0 (Kd.R k77 77 wr w.heap.size (fun k=>w.heap.size < k) v7 ((stepL (gr st l3) ((l.take i).map toI) s).map ofI))) (fun _ v14 _=>l.length - (intOf v14).toNat)
  case atStart=>exact ⟨0,rfl,Nat.zero_le _,HB,BG,⟨Kd.R_nil _ _ _ _ _⟩⟩
  case round =>
   obtain ⟨i,rfl,hi,HBr,BGr,HO⟩:=hrel
   by_cases hlt:i < l.length
   ·have hltb:decide (i < l.length)=true:=decide_eq_true hlt
    have hmx:l.length≤1000000:=HV.out.2
    obtain ⟨ad,rfl,hx0,hx1⟩:=at_T77 (Kd.C_below HR.out HBr.out) (i:Int) (by omega) (by omega)
    rw [Int.toNat_natCast] at hx0 hx1
    obtain ⟨x,hx⟩:∃ x,rd_T77 l i=x:=⟨_,rfl⟩
    have hxi:l[i]=x:=by rw [← hx];unfold rd_T77;simp [List.getD,hlt]
    rw [hx] at hx0 hx1
    have HXI:=jM hxi
    have HSN:=jM (show stepL (gr st l3) ((l.take (i+1)).map toI) s=stepL (gr st l3) ((l.take i).map toI) s ++ (if behindL (gr st l3) (toI x)=some s then [(x.f0,x.f1+1)] else []) by
     rw [List.take_add_one,List.getElem?_eq_getElem hlt,List.map_append,hxi]
     exact stepL_snoc _ _ _ _)
    have hbeh:=behind_is (l0:=l0) (l1:=l1) HF.out x.f0 x.f1
    obtain ⟨z0,z1,z2,z3,z4⟩:=five5 BGr.out
    clear hx hxi
    go_upto_region 5 with fail
    have BX4:Aside0 ((wr.alloc (Obj.cells #[.int .i64 x.f0,.int .i64 x.f1] 77)).heap[wr.heap.size]? = some (.cells #[.int .i64 x.f0,.int .i64 x.f1] 77 (0,0))):=⟨blk_new _ _⟩
    have BG4:Aside0 ((wr.alloc (Obj.cells #[.int .i64 x.f0,.int .i64 x.f1] 77)).heap[w.heap.size]? = some (.cells #[.slice A0 l0.length c0,.slice A1 l1.length c1,.slice A2 l2.length c2,.slice A3 l3.length c3,.int .i64 st] 27 (0,0))):=⟨blk_alloc BGr.out _⟩
    have HB4:Aside0 (Below w.heap.size w (wr.alloc (Obj.cells #[.int .i64 x.f0,.int .i64 x.f1] 77))):=⟨below_alloc HBr.out _⟩
    have HO4:=jM (Kd.R_alloc HO.out (Obj.cells #[.int .i64 x.f0,.int .i64 x.f1] 77))
    generalize wr.alloc (Obj.cells #[.int .i64 x.f0,.int .i64 x.f1] 77)=w4 at *
    generalize wr.heap.size=gx at *
    clear z0 z1 z2 z3 z4 hx0 hx1 BGr HBr HO
    obtain ⟨z0,z1,z2,z3,z4⟩:=five5 BG4.out
    have y0:w4.cell? ⟨gx,0,none⟩=some (.int .i64 x.f0):=blk_cell BX4.out 0
    have y1:w4.cell? ⟨gx,1,none⟩=some (.int .i64 x.f1):=blk_cell BX4.out 1
    cases hb:behindL (gr st l3) (x.f0,x.f1) with
    | none =>
     rw [hb] at hbeh
     simp only at hbeh
     have HN:=jM hb
     clear hb
     go_wp2_with (go_at_call 57;refine (states_behind.calls _ _ l0 _ _ l1 _ _ l2 _ _ l3 st x.f0 x.f1 0 false _ (Kd.C_below HR0.out HB4.out) HC0.out (Kd.C_below HR1.out HB4.out) HC1.out (Kd.C_below HR2.out HB4.out) HC2.out (Kd.C_below HR3.out HB4.out) HC3.out hbeh).mono ?_;rintro e w5 ⟨rfl,hb⟩;have HB5:=jM (below_step HB4.out hb);have BG5:=jM (blk_below BG4.out hb);have HO5:=jM (Kd.R_below HO4.out hb);have BX5:=jM (blk_below BX4.out hb);clear hb)
     exact ⟨⟨i+1,rfl,by omega,HB5,BG5,⟨by rw [HSN.out,if_neg (by show ¬ behindL _ (x.f0,x.f1)=_;rw [HN.out];simp),List.append_nil];exact HO5.out⟩⟩,by simp [intOf];omega⟩
    | some t =>
     rw [hb] at hbeh
     simp only at hbeh
     have HN:=jM hb
     clear hb
     by_cases hts:t=s
     ·subst hts
      go_upto_region 7 with (go_at_call 57;refine (states_behind.calls _ _ l0 _ _ l1 _ _ l2 _ _ l3 st x.f0 x.f1 t true _ (Kd.C_below HR0.out HB4.out) HC0.out (Kd.C_below HR1.out HB4.out) HC1.out (Kd.C_below HR2.out HB4.out) HC2.out (Kd.C_below HR3.out HB4.out) HC3.out hbeh).mono ?_;rintro e w5 ⟨rfl,hb⟩;have HB5:=jM (below_step HB4.out hb);have BG5:=jM (blk_below BG4.out hb);have HO5:=jM (Kd.R_below HO4.out hb);have BX5:=jM (blk_below BX4.out hb);clear hb)
      have u0:w5.cell? ⟨gx,0,none⟩=some (.int .i64 x.f0):=blk_cell BX5.out 0
      have u1:w5.cell? ⟨gx,1,none⟩=some (.int .i64 x.f1):=blk_cell BX5.out 1
      have hsh:=behind_short HF.out HN.out
      have hw1:IntKind.i64.wrap (x.f1+1)=x.f1+1:=IntWalk.i64_in _ (by simp only at hsh;omega)
      have HLEN:=jM (show ((stepL (gr st l3) ((l.take i).map toI) t).map ofI).length≤1000000 by
       rw [List.length_map]
       refine Nat.le_trans (stepL_len _ _ _) ?_
       rw [List.length_map,List.length_take];omega)
      clear z0 z1 z2 z3 z4 y0 y1 hsh
      go_wp2_with (first | ((with_reducible refine gate_builtin (b:=.append) (xs:=#[.tmp 30,.tmp 37]) rfl ?_);at_builtin;refine Kd.R_append k77 (w0:=w) w.heap.size rfl (.tmp 30) (.tmp 37) 75 77 (.agg #[(.int .i64 0),(.int .i64 0)]) 16 rfl Tryz.underlying75 info77 rfl (by decide) (by omega) u7 _ (⟨x.f0,x.f1+1⟩:S77) [.int .i64 x.f0,.int .i64 (x.f1+1)] (fun k=>w.heap.size < k) (fun _=>False) rfl rfl ?aP (fun _ hk=>hk.elim) ?aF HO5.out HB5.out HB5.out.size ?aL ?_;(case aP=>exact k77_mkM _ _ _ (⟨x.f0,x.f1+1⟩:S77));(case aF=>exact (fun k hk=>Nat.lt_of_lt_of_le (blk_lt BG5.out) hk));(case aL=>have:=HLEN.out;omega);intro v6 w6 ho hb hg hat;have HO6:=jM ho;have HB6:=jM hb;have BG6:=jM (blk_grown BG5.out hg (Kd.R_away HO5.out (fun k hk=>Nat.ne_of_gt hk)));clear ho hb hg hat))
      exact ⟨⟨i+1,rfl,by omega,HB6,BG6,⟨by rw [HSN.out,if_pos (by exact HN.out),List.map_append];exact HO6.out⟩⟩,by simp [intOf];omega⟩
     ·have hf:(t == s)=false:=by simpa using hts
      have hf':decide (t=s)=false:=decide_eq_false hts
      go_wp2_with (go_at_call 57;refine (states_behind.calls _ _ l0 _ _ l1 _ _ l2 _ _ l3 st x.f0 x.f1 t true _ (Kd.C_below HR0.out HB4.out) HC0.out (Kd.C_below HR1.out HB4.out) HC1.out (Kd.C_below HR2.out HB4.out) HC2.out (Kd.C_below HR3.out HB4.out) HC3.out hbeh).mono ?_;rintro e w5 ⟨rfl,hb⟩;have HB5:=jM (below_step HB4.out hb);have BG5:=jM (blk_below BG4.out hb);have HO5:=jM (Kd.R_below HO4.out hb);have BX5:=jM (blk_below BX4.out hb);clear hb)
      exact ⟨⟨i+1,rfl,by omega,HB5,BG5,⟨by rw [HSN.out,if_neg (by show ¬ behindL _ (x.f0,x.f1)=_;rw [HN.out];simpa using hts),List.append_nil];exact HO5.out⟩⟩,by simp [intOf];omega⟩
   ·have hltb:decide (i < l.length)=false:=decide_eq_false hlt
    have hil:i=l.length:=by omega
    subst hil
    rw [List.take_length] at HO
    have HLEN:=jM (show ((stepL (gr st l3) (l.map toI) s).map ofI).length < 4611686018427387904 by
     have:=HV.out.2
     rw [List.length_map]
     refine Nat.lt_of_le_of_lt (stepL_len _ _ _) ?_
     rw [List.length_map];omega)
    have hrs:risenS ((stepL (gr st l3) (l.map toI) s).map ofI)=(risen (stepL (gr st l3) (l.map toI) s)).map ofI:=by unfold risenS;rw [map_toI_ofI]
    have HRS:=jM hrs
    clear hrs
    go_wp2_with (go_at_call 60;refine (rising_calls u7 _ w.heap.size _ wr HO.out HLEN.out).mono ?_;rintro e w6 ⟨v6,rfl,hR,hg,hat⟩;have HR6:=jM hR;have HB6:=jM (below_grown HBr.out hg (fun k hk=>Kd.R_base HO.out k hk));clear hR hg hat)
    go_ret
    exact ⟨_,rfl,by rw [← HRS.out];exact Kd.R_mono HR6.out (fun _ _=>trivial),HB6.out⟩
 ·rw [if_neg hv] at h;cases h
theorem wp_loop_num {P:Program} {Q:Exit→Act→World→Prop} {a:Act} {w:World} {c:Code} (I:Nat→Act→World→Prop) (n0:Nat) (h0:I n0 a w)
  (round:∀ n a w,I n a w→c.wp P (Exit.then (fun a' w'=>∃ m,m < n∧I m a' w') Q) a w):(Code.loop c).wp P Q a w:=by
 refine wp_loop (fun a w=>∃ n,I n a w) (fun a w=>leastOf fun n=>I n a w) ⟨n0,h0⟩ fun a w h=>?_
 obtain ⟨hl,hm⟩:=leastOf_spec h
 refine Code.wp_mono (fun e a' w' he=>?_) (round _ a w hl)
 cases e with
 | normal =>
  obtain ⟨m,hlt,hI⟩:=he
  exact ⟨⟨m,hI⟩,Nat.lt_of_le_of_lt ((leastOf_spec ⟨m,hI⟩).2 m hI) hlt⟩
 | _=>exact he

set_option maxHeartbeats 1000000 in
theorem clone_calls (A:Option Addr) (c:Nat) (xs:List S77) (w:World) (hr:Kd.C k77 w A xs.length xs) (hl:xs.length≤4000000000) :
  Calls Tryz.prog 58 #[.slice A xs.length c] w fun e w'=>∃ v,e=.returned v∧Kd.R k77 77 w' w.heap.size (fun k=>w.heap.size≤k) v xs∧Below w.heap.size w w':=by
 have hu75:=Tryz.underlying75
 have hu77:=Tryz.underlying77
 have heq:∀ W,(binOp .eql 75 (.slice A xs.length c) (.slice none 0 0)).run Tryz.prog W=.ok (.bool A.isNone) W:=fun W=>run_eql_slice_nil W 75 77 A xs.length c 0 0 Tryz.underlying75
 have HR:=jM hr
 have HL:=jM hl
 cases A with
 | none =>
  have hx:xs=[]:=by
   rcases List.eq_nil_or_concat xs with h | ⟨ys,y,h⟩
   ·exact h
   ·obtain ⟨ad,h',_⟩:=hr.2.2 (by rw [h];simp)
    cases h'
  subst hx
  simp only [Option.isNone_none,List.length_nil] at heq ⊢
  clear hr hl
  go_enter Tryz.func58,Tryz.ntmps58
  go_wp2
  go_ret
  exact ⟨_,rfl,Kd.R_nil _ _ _ _ _,Below.refl _ _⟩
 | some ad =>
  simp only [Option.isNone_some] at heq
  clear hr hl
  go_enter Tryz.func58,Tryz.ntmps58
  have hE:Kd.R k77 77 (w.alloc (.cells #[] 77)) w.heap.size (fun k=>w.heap.size≤k) (.slice (some ⟨w.heap.size,0,none⟩) 0 0) [] :=
   R_of_items (d:=#[]) (cap:=0) (Nat.le_refl _) (Nat.le_refl _) (blk_new w _) (Nat.le_refl _) (Nat.zero_le _) rfl (HI.of fun i hi=>absurd hi (Nat.not_lt_zero i))
  have HE:=jM hE
  clear hE
  go_wp2_with (first | ((with_reducible refine gate_builtin (b:=.append) (xs:=#[.tmp 5,.tmp 6]) rfl ?_);at_builtin;refine Kd.R_append_rows k77 (w0:=w) w.heap.size rfl (.tmp 5) (.tmp 6) 75 77 (.agg #[(.int .i64 0),(.int .i64 0)]) 16 rfl Tryz.underlying75 info77 rfl (by decide) (by omega) (.slice (some ⟨w.heap.size,0,none⟩) 0 0) [] xs (some ad) xs.length c (fun k=>w.heap.size≤k) (fun _=>False) rfl rfl HE.out (Kd.C_alloc HR.out _) ?aK (fun _ hk=>hk.elim) ?aF (below_alloc (Below.refl _ _) _) ?aS ?aL ?_;(case aK=>exact (fun x cs h=>by rw [k77_open h];exact k77_mkM _ _ _ x));(case aF=>exact (fun k hk=>Nat.le_trans (by simp) hk));(case aS=>simp);(case aL=>have:=HL.out;simp;omega);intro v1 w1 ho hb hg hat;have HO1:=jM ho;have HB1:=jM hb;clear ho hb hg hat))
  go_ret
  exact ⟨_,rfl,by simpa using HO1.out,HB1.out⟩

theorem begins_calls (G:Array Value) (hG:(Value.agg G).oneCell'=(Value.agg G).oneCell') (A0:Option Addr) (c0 n0:Nat) (A1:Option Addr) (c1 n1:Nat) (A2:Option Addr) (c2 n2:Nat) (A3:Option Addr) (c3 n3:Nat) (st sort:Int) (w:World) :
  Calls Tryz.prog 59 #[.agg #[.slice A0 n0 c0,.slice A1 n1 c1,.slice A2 n2 c2,.slice A3 n3 c3,.int .i64 st],.int .i64 sort] w fun e w'=>e=.returned (.func (.func 74) #[] #[.pointer (some ⟨w.heap.size,0,none⟩),.pointer (some ⟨w.heap.size+1,0,none⟩)])∧w'=(w.alloc (.cells #[.slice A0 n0 c0,.slice A1 n1 c1,.slice A2 n2 c2,.slice A3 n3 c3,.int .i64 st] 27)).alloc (.cells #[.int .i64 sort] 3):=by
 have hmf:∀ (fn:Fn) (first cap:Array Value) (w:World),(Instr.makeFunc fn first cap).run Tryz.prog w=.ok (.func fn first cap) w:=fun _ _ _ _=>rfl
 go_enter Tryz.func59,Tryz.ntmps59
 go_wp2
 go_ret
 exact ⟨by simp,rfl⟩
end Go.Proofs.YtclollnicbcooaaGreatDoor.P
namespace Go.Proofs.YtclollnicbcooaaGreatDoor.Base
open Go Go.Maps Go.RowKit
section
structure Mp (P:Program) (kt:TypeId) (w:World) (r:Nat) (l:List (Value × Value)):Prop where
 holds:∃ es clock,w.heap[r]? = some (.map es clock)∧es.toList.map (fun e=>(e.key,e.val))=l
 keys:∀ p ∈ l,∃ x,keyOf P kt p.1=some x

variable {P:Program} {kt et mty:TypeId} {w w':World} {r:Nat} {l:List (Value × Value)}

theorem Mp.same (h:Mp P kt w r l) (he:w'.heap[r]? = w.heap[r]?):Mp P kt w' r l where
 holds:=by rw [he];exact h.holds
 keys:=h.keys
theorem Mp.lt (h:Mp P kt w r l):r < w.heap.size:=by
 obtain ⟨es,c,hb, -⟩:=h.holds
 exact (Array.getElem?_eq_some_iff.1 hb).1
theorem Mp.new (P:Program) (kt:TypeId) (w:World):Mp P kt (w.alloc (.map #[] 0)) w.heap.size [] where
 holds:=⟨#[],0,(MapKept.heap_alloc w _).1,rfl⟩
 keys:=fun p hp=>by cases hp

theorem Mp.miss (hm:P.underlying mty=some (.map kt et)) (K:Keyed P kt) (h:Mp P kt w r l) {k:Value} {x:Lit} (hk:keyOf P kt k=some x) {z:Value} (hz:(zeroValue et).run P w=.ok z w) (hn:∀ p ∈ l,p.1≠k) (b:Bool) :
  (Instr.lookup mty (.map (some r)) k b).run P w=.ok (if b then .tuple #[z,.bool false] else z) w:=by
 obtain ⟨es,c,hb,rfl⟩:=h.holds
 have hks:∀ e ∈ es.toList,∃ l,keyOf P kt e.key=some l:=fun e he=>h.keys _ (List.mem_map.2 ⟨e,he,rfl⟩)
 rcases K.find w hk es.toList hks with ⟨h1, -⟩ | ⟨j,e, -,h2,h3⟩
 ·cases b <;> simp [Instr.lookup,run_underlying hm,MapKept.run_getObj_map hb,K.check w _ hk,h1,hz,Result.andThen]
 ·exact absurd h3 (hn _ (List.mem_map.2 ⟨e,List.mem_of_getElem? h2,rfl⟩))
theorem Mp.find (hm:P.underlying mty=some (.map kt et)) (K:Keyed P kt) (h:Mp P kt w r l) {k v:Value} {x:Lit} (hk:keyOf P kt k=some x) (hi:(k,v) ∈ l) (hu:∀ p ∈ l,p.1=k→p.2=v) (b:Bool) :
  (Instr.lookup mty (.map (some r)) k b).run P w=.ok (if b then .tuple #[v,.bool true] else v) w:=by
 obtain ⟨es,c,hb,rfl⟩:=h.holds
 have hks:∀ e ∈ es.toList,∃ l,keyOf P kt e.key=some l:=fun e he=>h.keys _ (List.mem_map.2 ⟨e,he,rfl⟩)
 obtain ⟨e0,he0,heq⟩:=List.mem_map.1 hi
 rcases K.find w hk es.toList hks with ⟨-,h2⟩ | ⟨j,e,h1,h2,h3⟩
 ·exact absurd (congrArg Prod.fst heq) (h2 e0 he0)
 ·have hv:e.val=v:=hu _ (List.mem_map.2 ⟨e,List.mem_of_getElem? h2,rfl⟩) h3
  cases b <;> simp [Instr.lookup,run_underlying hm,MapKept.run_getObj_map hb,K.check w _ hk,h1,hv,Result.andThen]

def Mp.put (w:World) (r:Nat) (k v:Value):World :=
 match w.heap[r]? with
 | some (.map es c)=>{ w with heap:=w.heap.setIfInBounds r (.map (es.push { key:=k,val:=v,born:=c }) (c+1)) }
 | _=>w
theorem Mp.store (hm:P.underlying mty=some (.map kt et)) (K:Keyed P kt) (h:Mp P kt w r l) {k:Value} {x:Lit} (hk:keyOf P kt k=some x) (hn:∀ p ∈ l,p.1≠k) (v:Value) :
  (Instr.mapUpdate mty (.map (some r)) k v).run P w=.ok () (Mp.put w r k v):=by
 obtain ⟨es,c,hb,rfl⟩:=h.holds
 have hks:∀ e ∈ es.toList,∃ l,keyOf P kt e.key=some l:=fun e he=>h.keys _ (List.mem_map.2 ⟨e,he,rfl⟩)
 rcases K.find w hk es.toList hks with ⟨h1, -⟩ | ⟨j,e, -,h2,h3⟩
 ·simp [Mp.put,hb,Instr.mapUpdate,run_underlying hm,MapKept.run_getObj_map hb,K.check w _ hk,h1,MapKept.run_setObj_map _ hb,Result.andThen]
 ·exact absurd h3 (hn _ (List.mem_map.2 ⟨e,List.mem_of_getElem? h2,rfl⟩))
theorem Mp.put_heap (w:World) (r:Nat) (k v:Value):(Mp.put w r k v).heap.size=w.heap.size∧∀ r',r'≠r→(Mp.put w r k v).heap[r']? = w.heap[r']?:=by
 unfold Mp.put
 split
 ·refine ⟨by simp,fun r' hne=>?_⟩
  exact (MapKept.heap_set (by assumption)).2 r' hne
 ·exact ⟨rfl,fun _ _=>rfl⟩
theorem Mp.put_is (h:Mp P kt w r l) {k:Value} {x:Lit} (hk:keyOf P kt k=some x) (v:Value):Mp P kt (Mp.put w r k v) r (l ++ [(k,v)]) where
 holds:=by
  obtain ⟨es,c,hb,rfl⟩:=h.holds
  refine ⟨es.push { key:=k,val:=v,born:=c },c+1, ?_,by simp⟩
  unfold Mp.put
  rw [hb]
  exact (MapKept.heap_set hb).1
 keys:=fun p hp=>by
  rcases List.mem_append.1 hp with e | e
  ·exact h.keys p e
  ·rw [List.mem_singleton] at e;subst e;exact ⟨x,hk⟩
end
end Go.Proofs.YtclollnicbcooaaGreatDoor.Base
namespace Go.Proofs.YtclollnicbcooaaGreatDoor.P
open Go.RowKit Go.Lib Go.Sort YtclollnicbcooaaGreatDoorW.PrintWords St Base
theorem keyed77:Maps.Keyed Tryz.prog 77 :=
 Maps.Keyed.of_law (deep_law_laid (by kernel_rfl) (m:=2) (by omega) (of_decide_eq_true (by kernel_rfl)) (by kernel_rfl) (by rw [Tryz.underlying77]))
def rngI (x:Itm):Prop:=(-9223372036854775808≤x.1∧x.1≤9223372036854775807)∧(-9223372036854775808≤x.2∧x.2≤9223372036854775807)
theorem wf_i64 {n:Int} (h:-9223372036854775808≤n∧n≤9223372036854775807):(Lit.int .i64 n).wf=true:=by
 simp [Lit.wf,IntKind.min,IntKind.max,IntKind.signed,IntKind.bits]
 omega
def keyV (x:Itm):Value:=.agg #[.int .i64 x.1,.int .i64 x.2]
theorem key_of (x:Itm) (h:rngI x):∃ k,keyOf Tryz.prog 77 (keyV x)=some k:=by
 have hk:Tryz.prog.keyType 77=true:=by kernel_rfl
 have hf:(keyV x).formed Tryz.prog 77=true:=by
  unfold keyV Value.formed
  rw [Tryz.underlying77]
  have hc:Tryz.prog.cellsOf 77=2:=by kernel_rfl
  simp [hc]
 have h3:∀ (d:Nat) (n:Int),(-9223372036854775808≤n∧n≤9223372036854775807)→Tryz.prog.keyLits (d+1) 3 [.int .i64 n]=some [.int .i64 n]:=fun d n hn=>by
  unfold Program.keyLits
  rw [Tryz.underlying3]
  simp [wf_i64 hn]
 have hl:Tryz.prog.keyLits (Tryz.prog.types.size+1) 77 [.int .i64 x.1,.int .i64 x.2]=some [.int .i64 x.1,.int .i64 x.2]:=by
  have hpos:0 < Tryz.prog.types.size:=of_decide_eq_true (by kernel_rfl)
  obtain ⟨d,hd⟩:∃ d,Tryz.prog.types.size=d+1:=⟨Tryz.prog.types.size - 1,by omega⟩
  rw [hd]
  unfold Program.keyLits
  rw [Tryz.underlying77]
  have hc:Tryz.prog.cellsOf 77=2:=by kernel_rfl
  have hc3:Tryz.prog.cellsOf 3=1:=by kernel_rfl
  simp [hc,hc3,h3 d x.1 h.1,h3 d x.2 h.2]
 unfold keyOf
 rw [Tryz.underlying77]
 simp only [hk,hf,Bool.and_self,if_true]
 have hcs:(keyV x).cells.toList=[.int .i64 x.1,.int .i64 x.2]:=rfl
 rw [hcs,hl]
 exact ⟨_,rfl⟩
theorem keyV_inj {x y:Itm} (h:keyV x=keyV y):x=y:=by
 unfold keyV at h
 injection h with h
 have h':[Value.int .i64 x.1,Value.int .i64 x.2]=[Value.int .i64 y.1,Value.int .i64 y.2]:=congrArg Array.toList h
 injection h' with h1 h2
 injection h2 with h2 _
 injection h1 with _ h1
 injection h2 with _ h2
 exact Prod.ext h1 h2

def seenL (out:List Itm):List (Value × Value):=out.map fun x=>(keyV x,.bool true)
theorem seen_has {w:World} {r:Nat} {out:List Itm} (h:Mp Tryz.prog 77 w r (seenL out)) {x:Itm} (hx:x ∈ out) (hr:rngI x):(Instr.lookup 106 (.map (some r)) (keyV x) false).run Tryz.prog w=.ok (.bool true) w:=by
 obtain ⟨k,hk⟩:=key_of x hr
 exact h.find (et:=4) Tryz.underlying106 keyed77 hk (List.mem_map.2 ⟨x,hx,rfl⟩) (fun p hp _=>by obtain ⟨y,_,rfl⟩:=List.mem_map.1 hp;rfl) false
theorem seen_not {w:World} {r:Nat} {out:List Itm} (h:Mp Tryz.prog 77 w r (seenL out)) {x:Itm} (hx:x ∉ out) (hr:rngI x):(Instr.lookup 106 (.map (some r)) (keyV x) false).run Tryz.prog w=.ok (.bool false) w:=by
 obtain ⟨k,hk⟩:=key_of x hr
 exact h.miss (et:=4) Tryz.underlying106 keyed77 hk (Tryz.zeroValue4 w) (fun p hp=>by
  obtain ⟨y,hy,rfl⟩:=List.mem_map.1 hp
  exact fun e=>hx (keyV_inj e ▸ hy)) false
theorem seen_put {w:World} {r:Nat} {out:List Itm} (h:Mp Tryz.prog 77 w r (seenL out)) {x:Itm} (hx:x ∉ out) (hr:rngI x) :
  (Instr.mapUpdate 106 (.map (some r)) (keyV x) (.bool true)).run Tryz.prog w=.ok () (Mp.put w r (keyV x) (.bool true))∧Mp Tryz.prog 77 (Mp.put w r (keyV x) (.bool true)) r (seenL (out ++ [x])):=by
 obtain ⟨k,hk⟩:=key_of x hr
 refine ⟨h.store (et:=4) Tryz.underlying106 keyed77 hk (fun p hp=>?_) _, ?_⟩
 ·obtain ⟨y,hy,rfl⟩:=List.mem_map.1 hp
  exact fun e=>hx (keyV_inj e ▸ hy)
 ·have:=h.put_is hk (.bool true)
  unfold seenL at *
  rw [List.map_append]
  exact this
end Go.Proofs.YtclollnicbcooaaGreatDoor.P
section
namespace Go.Proofs.YtclollnicbcooaaGreatDoor.St

def allI (g:Gr):List Itm:=(-1,0) :: (-1,1) :: (List.range g.ps.length).flatMap fun (p:Nat)=>(List.range ((g.ps.getD p (0,[])).2.length+1)).map fun (d:Nat)=>(((p:Nat):Int),(d:Int))
theorem allI_has (g:Gr) (x:Itm) (h:isI g x=true):x ∈ allI g:=by
 obtain ⟨p,d⟩:=x
 unfold isI rightL at h
 unfold allI
 by_cases h1:p=-1
 ·simp only [h1,if_true] at h
  have h:=of_decide_eq_true h
  simp only [List.length_singleton] at h
  have:d=0 ∨ d=1:=by omega
  rcases this with e | e
  ·subst e;subst h1;simp
  ·subst e;subst h1;simp
 ·simp only [if_neg h1] at h
  split at h
  ·rename_i r hr
   split at hr
   ·rename_i h2
    injection hr with hr
    have h:=of_decide_eq_true h
    rw [← hr] at h
    refine List.mem_cons.2 (.inr (List.mem_cons.2 (.inr (List.mem_flatMap.2 ⟨p.toNat,List.mem_range.2 (by omega),List.mem_map.2 ⟨d.toNat,List.mem_range.2 (by omega), ?_⟩⟩))))
    exact Prod.ext (by simp only;omega) (by simp only;omega)
   ·cases hr
  ·cases h

def baseL (g:Gr) (l:List Itm):List Itm:=addL (l.filter fun x=>isI g x) []
end Go.Proofs.YtclollnicbcooaaGreatDoor.St
end
namespace Go.Proofs.YtclollnicbcooaaGreatDoor.P
open Go.RowKit Go.Lib Go.Sort YtclollnicbcooaaGreatDoorW.PrintWords YtclollnicbcooaaGreatDoorW.PrintLast YtclollnicbcooaaGreatDoorW.PrintMore St Base
def Marks (b hi:Nat):List Deferred→World→Prop
 | [],_=>True
 | d :: ds,W=>(∃ D,d={ target:=.collected D,args:=#[] }∧b≤D∧D < hi∧W.heap[D]? = some (.deferred (some []))∧∀ d' ∈ ds,d'≠d)∧Marks b hi ds W
theorem Marks.keep {b hi:Nat} {W W':World} (hk:∀ D,b≤D→D < hi→W.heap[D]? = some (.deferred (some []))→W'.heap[D]? = some (.deferred (some []))):∀ ds,Marks b hi ds W→Marks b hi ds W'
 | [],_=>trivial
 | d :: ds,⟨⟨D,h1,h2,h3,h4,h5⟩,h⟩=>⟨⟨D,h1,h2,h3,hk D h2 h3 h4,h5⟩,Marks.keep hk ds h⟩
theorem Marks.wide {b hi hi':Nat} (h:hi≤hi') {W:World}:∀ ds,Marks b hi ds W→Marks b hi' ds W
 | [],_=>trivial
 | d :: ds,⟨⟨D,h1,h2,h3,h4,h5⟩,hh⟩=>⟨⟨D,h1,h2,Nat.lt_of_lt_of_le h3 h,h4,h5⟩,Marks.wide h ds hh⟩
theorem Marks.mem {b hi:Nat} {W:World}:∀ ds,Marks b hi ds W→∀ d ∈ ds,∃ D,d={ target:=.collected D,args:=#[] }∧D < hi
 | [],_,d,hd=>by cases hd
 | e :: ds,⟨⟨D,h1,h2,h3,h4,h5⟩,hh⟩,d,hd=>by
  rcases List.mem_cons.1 hd with rfl | hd
  ·exact ⟨D,h1,h3⟩
  ·exact Marks.mem ds hh d hd
theorem Marks.cons {b hi D:Nat} {ds:List Deferred} {W:World} (h:Marks b hi ds W) (hb:b≤D) (hD:hi≤D) (hW:W.heap[D]? = some (.deferred (some []))):Marks b (D+1) ({ target:=.collected D,args:=#[] } :: ds) W :=
 ⟨⟨D,rfl,hb,Nat.lt_succ_self _,hW,fun d' hd e=>by
  obtain ⟨D',h1,h2⟩:=Marks.mem ds h d' hd
  rw [e] at h1
  injection h1 with h1
  injection h1 with h1
  omega⟩,h.wide (by omega) ds⟩

theorem leaves_marks {fn:Func} {tmps:Array Value} {w:World} {v:Value} {xs:List S77} {n b hi:Nat} {ok:Nat→Prop} (hres:∀ W,(results fn tmps).run Tryz.prog W=.ok v W) (hb:w.heap.size≤b):∀ (ds:List Deferred) (W:World),Marks b hi ds W→Kd.R k77 77 W w.heap.size ok v xs→Below w.heap.size w W →
  LeavesInM Fence.wide n Tryz.prog fn tmps (fun e w'=>∃ v,e=.returned v∧Kd.R k77 77 w' w.heap.size ok v xs∧Below w.heap.size w w') ds .returning W
 | [],W,_,hR,hB=>⟨v,hres W,v,rfl,hR,hB⟩
 | d :: ds,W,⟨⟨D,h1,h2,h3,h4,h5⟩,hm⟩,hR,hB=>by
  subst h1
  refine ⟨by simp,.inl ⟨D,_,rfl,run_takeDeferred h4, ?_⟩⟩
  refine leaves_marks (hi:=hi) hres hb ds _ ?_ ?_ ?_
  ·clear hR hB hres
   induction ds with
   | nil=>trivial
   | cons e ds ih =>
    obtain ⟨⟨E,g1,g2,g3,g4,g5⟩,gm⟩:=hm
    refine ⟨⟨E,g1,g2,g3, ?_,g5⟩,ih gm (fun d' hd=>h5 d' (List.mem_cons_of_mem _ hd))⟩
    have hne:E≠D:=fun e'=>by
     subst e'
     exact h5 e (List.mem_cons_self ..) g1
    exact (World.putObj_heap_other (by omega)).trans g4
  ·have hR':=Kd.R_mono (Kd.R_step (w1:=W.putObj D (.deferred none)) (Kd.R_bound hR) (fun k hk hlt=>by
    refine World.putObj_heap_other (fun e=>?_)
    obtain ⟨-, -, -,q, -,cells,hc⟩:=hk
    rw [e,h4] at hc
    cases hc)) (fun k hk=>hk.1)
   exact hR'
  ·exact hB.trans (belowK_b (w:=w) (Nat.le_refl _) W D _ _ (by omega) h4 rfl rfl)

def flatC (l:List Itm):List Value:=l.flatMap encI
theorem flatC_len:∀ l:List Itm,(flatC l).length=l.length * 2
 | []=>rfl
 | x :: l=>by
  have:=flatC_len l
  unfold flatC at *
  rw [List.flatMap_cons,List.length_append,this,List.length_cons]
  show 2+l.length * 2=_
  omega
theorem flatC_snoc (l:List Itm) (x:Itm):flatC (l ++ [x])=flatC l ++ encI x:=by unfold flatC;rw [List.flatMap_append];simp
theorem own_of_R2 {W:World} {base:Nat} {ok:Nat→Prop} {v:Value} {l:List Itm} (h:Kd.R k77 77 W base ok v (l.map ofI)):W.ownsRow base 77 2 v l.length (flatC l):=by
 obtain ⟨-,inner,ho,hr⟩:=h
 rw [List.length_map] at ho
 have e:inner=flatC l:=by
  have h1:=hr.1
  have h2:=hr.2
  clear hr ho
  have hs2:k77.sz=2:=rfl
  rw [hs2,List.length_map] at h1
  rw [hs2] at h2
  induction l generalizing inner with
  | nil=>exact List.eq_nil_of_length_eq_zero (by simpa using h1)
  | cons x l ih =>
   have hx:=k77_openM (h2 0 (ofI x) (by simp))
   rw [Nat.zero_mul,List.drop_zero] at hx
   have ht:inner=encI x ++ inner.drop 2:=by
    conv=>lhs;rw [← List.take_append_drop 2 inner,hx]
    rfl
   have:=ih (inner.drop 2) (by rw [List.length_drop,h1,List.length_cons];omega) (fun j p hj=>by
    have:=h2 (j+1) p (by simpa using hj)
    rw [List.drop_drop]
    rwa [show 2+j * 2=(j+1) * 2 by omega])
   rw [ht,this]
   rfl
 rw [← e]
 exact ho
theorem R_of_own2 {W:World} {base:Nat} {ok:Nat→Prop} {v:Value} {l:List Itm} (h:W.ownsRow base 77 2 v l.length (flatC l)) (hok:∀ k,v.ownBlock=some k→ok k):Kd.R k77 77 W base ok v (l.map ofI):=by
 refine ⟨hok,flatC l,by rw [List.length_map];exact h, ?_, ?_⟩
 ·rw [flatC_len,List.length_map];rfl
 ·intro j p hp
  have hs2:k77.sz=2:=rfl
  rw [hs2]
  clear h hok
  induction l generalizing j with
  | nil=>simp at hp
  | cons x l ih =>
   have e:flatC (x :: l)=encI x ++ flatC l:=rfl
   rw [e]
   cases j with
   | zero =>
    simp only [List.map_cons,List.getElem?_cons_zero,Option.some.injEq] at hp
    subst hp
    exact k77_mkM _ _ _ (ofI x)
   | succ j =>
    rw [show (j+1) * 2=(encI x).length+j * 2 by show _=2+j * 2;omega,List.drop_length_add_append]
    exact ih j (by simpa using hp)

/-! ### The queue -/
theorem flat_le {α β:Type} (f:α→List β) (m:Nat):∀ l:List α,(∀ x ∈ l,(f x).length≤m)→(l.flatMap f).length≤l.length * m
 | [],_=>by simp
 | x :: l,h=>by
  have h1:=h x (by simp)
  have h2:=flat_le f m l (fun y hy=>h y (by simp [hy]))
  rw [List.flatMap_cons,List.length_append,List.length_cons,Nat.add_mul,Nat.one_mul];omega
theorem allI_len {l2:List ByteArray} {l3:List S68} {st:Int} (h:Fits l2 l3 st):(allI (gr st l3)).length≤1562:=by
 unfold allI
 rw [List.length_cons,List.length_cons]
 have:=flat_le (fun (p:Nat)=>(List.range (((gr st l3).ps.getD p (0,[])).2.length+1)).map fun (d:Nat)=>(((p:Nat):Int),(d:Int))) 13 (List.range (gr st l3).ps.length) (fun p hp=>by
  have hp:=List.mem_range.1 hp
  rw [gr_len] at hp
  have e:=gr_at st l3 (p:Int) (by omega) (by omega)
  rw [Int.toNat_natCast] at e
  rw [List.length_map,List.length_range,e]
  have:(rd_T68 l3 p).f2.length≤12:=h.short _ (by unfold rd_T68;rw [Int.toNat_natCast,List.getD_eq_getElem?_getD,List.getElem?_eq_getElem hp];exact List.getElem_mem hp)
  simp only;omega)
 rw [List.length_range,gr_len] at this
 rw [gr_len]
 have:=h.few
 omega
theorem ofSort_le (g:Gr) (s:Int) (n:Nat):(ofSort g s n).length≤n:=by
 unfold ofSort
 exact Nat.le_trans (List.length_filterMap_le _ _) (by simp)
theorem ofSort_rng (g:Gr) (s:Int) (n:Nat) (hn:n≤120):∀ x ∈ ofSort g s n,rngI x:=by
 intro x hx
 unfold ofSort at hx
 obtain ⟨p,hp,h⟩:=List.mem_filterMap.1 hx
 have hp:=List.mem_range.1 hp
 split at h
 ·injection h with h
  subst h
  unfold rngI
  simp only
  omega
 ·cases h
theorem nexts_ofSort (g:Gr) (x:Itm) (s:Int) (hb:behindL g x=some s) (hs:s < 0):nexts g x=ofSort g (-1 - s) g.ps.length:=by
 unfold nexts ofSort
 rw [hb]
 simp only [if_pos hs]
theorem nexts_none (g:Gr) (x:Itm) (h:∀ s,behindL g x=some s→¬ s < 0):nexts g x=[]:=by
 unfold nexts
 cases hb:behindL g x with
 | none=>rfl
 | some s=>simp only [if_neg (h s hb)]
def fuel (l:List Itm):Nat:=189003+l.length
def closedL (g:Gr) (l:List Itm):List Itm:=(clQ g (fuel l) [] l).getD []
theorem closedL_some {l2:List ByteArray} {l3:List S68} {st:Int} (h:Fits l2 l3 st) (l:List Itm):clQ (gr st l3) (fuel l) [] l=some (closedL (gr st l3) l):=by
 obtain ⟨r,hr⟩:=clQ_ends (gr st l3) (allI (gr st l3)) (allI_has (gr st l3)) _ [] l (fuel l) rfl (by
  have h1:((allI (gr st l3)).filter fun x=>decide (x ∉ ([]:List Itm))).length≤1562:=Nat.le_trans (List.length_filter_le _ _) (allI_len h)
  have h2:(gr st l3).ps.length+1≤121:=by rw [gr_len];have:=h.few;omega
  have h3:=Nat.mul_le_mul h1 h2
  unfold fuel
  omega)
 unfold closedL
 rw [hr];rfl
theorem closedL_is {l2:List ByteArray} {l3:List S68} {st:Int} (h:Fits l2 l3 st) (l:List Itm):∀ x,x ∈ closedL (gr st l3) l ↔ Cl (gr st l3) (· ∈ l) x :=
 (clQ_is (gr st l3) l _ [] l _ (fun _ h=>by cases h) (fun y hy hi=>.base y hy hi) (fun y hy _=>.inr hy) (fun _ h=>by cases h) List.nodup_nil (closedL_some h l)).2
theorem closedL_rise {l2:List ByteArray} {l3:List S68} {st:Int} (h:Fits l2 l3 st) (l:List Itm):Rising (risen (closedL (gr st l3) l)) (Cl (gr st l3) (· ∈ l)) :=
 ⟨(risen_is _).up,fun x=>((risen_is _).mem x).trans (closedL_is h l x)⟩
section
theorem add_none (ad:Addr):ad.add 0=ad:=by
 obtain ⟨b,o,s⟩:=ad
 unfold Addr.add
 cases s <;> simp
theorem add_block (ad:Addr) (n:Nat):(ad.add n).block=ad.block:=by unfold Addr.add;split <;> rfl
theorem cell_same {W W':World} {p:Addr} (h:W'.heap[p.block]? = W.heap[p.block]?):W'.cell? p=W.cell? p:=by
 unfold World.cell?
 rw [h]
theorem C37_same {W W':World} {A:Option Addr} {n:Nat} {xs:List S77} (h:Kd.C k77 W A n xs) (hh:0 < n→∀ ad,A=some ad→W'.heap[ad.block]? = W.heap[ad.block]?):Kd.C k77 W' A n xs:=by
 obtain ⟨h1,h2,h3⟩:=h
 refine ⟨h1,h2,fun hp=>?_⟩
 obtain ⟨ad,e,hr⟩:=h3 hp
 refine ⟨ad,e,fun i p hi=>?_⟩
 obtain ⟨c,hcl,hK,hc⟩:=hr i p hi
 exact ⟨c,hcl,by rw [k77_open hK];exact k77_mk _ _,fun j u hu=>(cell_same (by rw [add_block];exact hh hp ad e)).trans (hc j u hu)⟩

structure Lm (w:World) (G:Array Value) (hi:Nat) (om out q:List Itm) (u6:Value) (Aq:Option Addr) (cq:Nat) (ds:List Deferred) (W:World):Prop where
 hb:RowKit.Below w.heap.size w W
 bg:W.heap[w.heap.size]? = some (.cells G 27 (0,0))
 bl:W.heap[w.heap.size+1]? = some (.cells #[.slice Aq q.length cq] 75 (0,0))
 qc:q.length≤cq
 hq:Kd.C k77 W Aq q.length (q.map ofI)
 mp:Mp Tryz.prog 77 W (w.heap.size+1+1) (seenL om)
 ho:Kd.R k77 77 W (w.heap.size+3) (fun k=>w.heap.size+3≤k) u6 (out.map ofI)
 ne:q≠[]→∀ ad,Aq=some ad→ad.block < W.heap.size∧(ad.block < w.heap.size ∨ w.heap.size+3≤ad.block)∧some ad.block≠u6.ownBlock
 mks:Marks (w.heap.size+3) hi ds W
 hil:hi≤W.heap.size
 hi3:w.heap.size+3≤hi
section
variable {w:World} {G:Array Value} {hi:Nat} {om out q:List Itm} {u6:Value} {Aq:Option Addr} {cq:Nat} {ds:List Deferred} {W W1:World}
theorem q_ne (h:0 < q.length):q≠[]:=by intro e;rw [e] at h;exact absurd h (by simp)
theorem Lm.grown (h:Lm w G hi om out q u6 Aq cq ds W) {row:Option Nat} (hg:W.grownBy W1 row) (hr:∀ r,row=some r→hi≤r∧some r≠u6.ownBlock∧(q≠[]→∀ ad,Aq=some ad→r≠ad.block)):Lm w G hi om out q u6 Aq cq ds W1 where
 hb:=below_grown h.hb hg (fun k hk=>by have:=(hr k hk).1;have:=h.hi3;omega)
 bg:=(hg.block _ (blk_lt h.bg) (fun e=>by have:=(hr _ e.symm).1;have:=h.hi3;omega)).trans h.bg
 bl:=(hg.block _ (blk_lt h.bl) (fun e=>by have:=(hr _ e.symm).1;have:=h.hi3;omega)).trans h.bl
 qc:=h.qc
 hq:=C37_same h.hq (fun hp ad e=>hg.block _ (h.ne (q_ne hp) ad e).1 (fun e'=>(hr _ e'.symm).2.2 (q_ne hp) ad e rfl))
 mp:=h.mp.same (hg.block _ h.mp.lt (fun e=>by have:=(hr _ e.symm).1;have:=h.hi3;omega))
 ho:=Kd.R_mono (Kd.R_step (Kd.R_tight2 rfl h.ho) (fun k hk hlt=>hg.block k hlt (fun e=>(hr k e.symm).2.1 hk.1))) (fun k hk=>hk.2)
 ne:=fun hq ad e=>⟨Nat.lt_of_lt_of_le (h.ne hq ad e).1 hg.size,(h.ne hq ad e).2⟩
 mks:=Marks.keep (fun D h1 h2 h3=>(hg.block D (Nat.lt_of_lt_of_le h2 h.hil) (fun e=>by have:=(hr D e.symm).1;omega)).trans h3) ds h.mks
 hil:=Nat.le_trans h.hil hg.size
 hi3:=h.hi3
theorem Lm.below (h:Lm w G hi om out q u6 Aq cq ds W) (hb:RowKit.Below W.heap.size W W1):Lm w G hi om out q u6 Aq cq ds W1 :=
 h.grown (row:=none) ⟨hb.os,hb.tape,hb.output,hb.size,fun k hk _=>hb.block k hk⟩ (fun r e=>by cases e)
theorem Lm.turn (h:Lm w G hi om out q u6 Aq cq ds W) {q':List Itm} {T:Option Addr} {c':Nat} (hc:q'.length≤c') (hq':Kd.C k77 W T q'.length (q'.map ofI))
  (hne:q'≠[]→∀ ad,T=some ad→ad.block < W.heap.size∧(ad.block < w.heap.size ∨ w.heap.size+3≤ad.block)∧some ad.block≠u6.ownBlock) :
  Lm w G hi om out q' u6 T c' ds (W.setCell ⟨w.heap.size+1,0,none⟩ (.slice T q'.length c')) where
 hb:=below_set h.hb (Nat.le_succ _)
 bg:=blk_far h.bg (Nat.ne_of_lt (Nat.lt_succ_self _)) _
 bl:=blk_put h.bl 0 _ rfl
 qc:=hc
 hq:=C37_same hq' (fun hp ad e=>Below.heap_setCell W ⟨w.heap.size+1,0,none⟩ _ ad.block (by have:=(hne (q_ne hp) ad e).2.1;show ad.block≠w.heap.size+1;omega))
 mp:=h.mp.same (Below.heap_setCell W ⟨w.heap.size+1,0,none⟩ _ _ (by show w.heap.size+1+1≠w.heap.size+1;omega))
 ho:=Kd.R_far h.ho (fun k hk=>by show k≠w.heap.size+1;omega) _
 ne:=fun hq ad e=>by rw [World.size_setCell];exact hne hq ad e
 mks:=Marks.keep (fun D h1 h2 h3=>(Below.heap_setCell W ⟨w.heap.size+1,0,none⟩ _ D (by show D≠w.heap.size+1;omega)).trans h3) ds h.mks
 hil:=by rw [World.size_setCell];exact h.hil
 hi3:=h.hi3
theorem Lm.pop {x:Itm} {ad:Addr} (h:Lm w G hi om out (x :: q) u6 (some ad) cq ds W):Lm w G hi om out q u6 (if cq=1 then some ad else (some ad).map (·.add (1 * 2))) (cq - 1) ds (W.setCell ⟨w.heap.size+1,0,none⟩ (.slice (if cq=1 then some ad else (some ad).map (·.add (1 * 2))) q.length (cq - 1))):=by
 have hl:(x :: q).length=q.length+1:=rfl
 have hc:=h.qc
 have hd:=Kd.C_drop (m:=1) (c:=cq) (by have:=h.hq;rw [show (x :: q).length=((x :: q).map ofI).length by simp] at this;exact this) (by simp) (by simpa using h.qc)
 have e1:((x :: q).map ofI).drop 1=q.map ofI:=by simp
 rw [e1,List.length_map] at hd
 refine h.turn (by omega) hd (fun hq ad' e=>?_)
 have hh:=h.ne (by simp) ad rfl
 have hb:ad'.block=ad.block:=by
  split at e
  ·injection e with e;rw [← e]
  ·injection e with e;rw [← e];exact add_block ad _
 rw [hb]
 exact hh
theorem Lm.put (h:Lm w G hi om out q u6 Aq cq ds W) {om':List Itm} {k v:Value} (hm:Mp Tryz.prog 77 (Mp.put W (w.heap.size+1+1) k v) (w.heap.size+1+1) (seenL om')):Lm w G hi om' out q u6 Aq cq ds (Mp.put W (w.heap.size+1+1) k v):=by
 obtain ⟨hs,hk⟩:=Mp.put_heap W (w.heap.size+1+1) k v
 have hw:(Mp.put W (w.heap.size+1+1) k v).os=W.os∧(Mp.put W (w.heap.size+1+1) k v).tape=W.tape∧(Mp.put W (w.heap.size+1+1) k v).output=W.output:=by
  unfold Mp.put
  split <;> exact ⟨rfl,rfl,rfl⟩
 refine ⟨⟨hw.1.trans h.hb.os,hw.2.1.trans h.hb.tape,hw.2.2.trans h.hb.output,by rw [hs];exact h.hb.size,fun i hi=>(hk i (by omega)).trans (h.hb.block i hi)⟩,(hk _ (by omega)).trans h.bg,(hk _ (by omega)).trans h.bl,h.qc, ?_,hm, ?_, ?_, ?_,by rw [hs];exact h.hil,h.hi3⟩
 ·exact C37_same h.hq (fun hp ad e=>hk _ (by have:=(h.ne (q_ne hp) ad e).2.1;omega))
 ·exact Kd.R_step h.ho (fun i hi hlt=>hk i (by omega))
 ·exact fun hq ad e=>by rw [hs];exact h.ne hq ad e
 ·exact Marks.keep (fun D h1 h2 h3=>(hk D (by omega)).trans h3) ds h.mks
theorem Lm.app (h:Lm w G hi om out q u6 Aq cq ds W) {x:Itm} {v1:Value} (ho:Kd.R k77 77 W1 (w.heap.size+3) (fun k=>w.heap.size+3≤k) v1 (out.map ofI ++ [ofI x])) (hg:W.grownBy W1 u6.ownBlock) (hat:v1.ownBlock=u6.ownBlock ∨ ∃ b,v1.ownBlock=some b∧W.heap.size≤b) :
  Lm w G hi om (out ++ [x]) q v1 Aq cq ds W1 where
 hb:=below_grown h.hb hg (fun k hk=>by have:=Kd.R_base h.ho k hk;omega)
 bg:=(hg.block _ (blk_lt h.bg) (fun e=>by have:=Kd.R_base h.ho _ e.symm;omega)).trans h.bg
 bl:=(hg.block _ (blk_lt h.bl) (fun e=>by have:=Kd.R_base h.ho _ e.symm;omega)).trans h.bl
 qc:=h.qc
 hq:=C37_same h.hq (fun hp ad e=>hg.block _ (h.ne (q_ne hp) ad e).1 (h.ne (q_ne hp) ad e).2.2)
 mp:=h.mp.same (hg.block _ h.mp.lt (fun e=>by have:=Kd.R_base h.ho _ e.symm;omega))
 ho:=by rw [List.map_append];exact ho
 ne:=fun hq ad e=>by
  obtain ⟨a1,a2,a3⟩:=h.ne hq ad e
  refine ⟨Nat.lt_of_lt_of_le a1 hg.size,a2,fun e'=>?_⟩
  rcases hat with hh | ⟨b,hb,hle⟩
  ·exact a3 (e'.trans hh)
  ·rw [hb] at e'
   injection e' with e'
   omega
 mks:=Marks.keep (fun D h1 h2 h3=>(hg.block D (Nat.lt_of_lt_of_le h2 h.hil) (fun e=>by
  obtain ⟨cells,hcc⟩:=Kd.R_typed h.ho D e.symm
  rw [h3] at hcc;cases hcc)).trans h3) ds h.mks
 hil:=Nat.le_trans h.hil hg.size
 hi3:=h.hi3
end
end
structure Fx (g:Gr) (res:List Itm) (N0 Q0 n:Nat) (out q:List Itm):Prop where
 run:clQ g n out q=some res
 small:n+out.length≤N0
 qlen:q.length+120 * n≤Q0
 rng:∀ x ∈ q,rngI x
theorem Fx.skip {g:Gr} {res:List Itm} {N0 Q0 k:Nat} {out q:List Itm} {x:Itm} (h:Fx g res N0 Q0 (k+1) out (x :: q)) (hx:x ∈ out ∨ isI g x=false):Fx g res N0 Q0 k out q where
 run:=by have h:=h.run;rw [clQ,if_pos hx] at h;exact h
 small:=by have:=h.small;omega
 qlen:=by have:=h.qlen;rw [List.length_cons] at this;omega
 rng:=fun y hy=>h.rng y (List.mem_cons_of_mem _ hy)
theorem nexts_few (g:Gr) (hf:g.ps.length≤120) (x:Itm):(nexts g x).length≤120∧∀ y ∈ nexts g x,rngI y:=by
 cases hb:behindL g x with
 | none=>rw [nexts_none g x (fun s h=>by rw [hb] at h;cases h)];exact ⟨by simp,by simp⟩
 | some s =>
  by_cases hs:s < 0
  ·rw [nexts_ofSort g x s hb hs]
   exact ⟨Nat.le_trans (ofSort_le ..) hf,ofSort_rng _ _ _ hf⟩
  ·rw [nexts_none g x (fun s' h=>by rw [hb] at h;cases h;exact hs)];exact ⟨by simp,by simp⟩
theorem Fx.on {g:Gr} {res:List Itm} {N0 Q0 k:Nat} {out q:List Itm} {x:Itm} (hf:g.ps.length≤120) (h:Fx g res N0 Q0 (k+1) out (x :: q)) (hx:x ∉ out) (hi:isI g x=true):Fx g res N0 Q0 k (out ++ [x]) (q ++ nexts g x) where
 run:=by have h:=h.run;rw [clQ,if_neg (by rintro (h | h);exact hx h;rw [hi] at h;cases h)] at h;exact h
 small:=by have:=h.small;rw [List.length_append,List.length_singleton];omega
 qlen:=by
  have:=h.qlen
  have:=(nexts_few g hf x).1
  rw [List.length_cons] at *
  rw [List.length_append];omega
 rng:=fun y hy=>by
  rcases List.mem_append.1 hy with h1 | h1
  ·exact h.rng y (List.mem_cons_of_mem _ h1)
  ·exact (nexts_few g hf x).2 y h1
theorem Fx.start {l2:List ByteArray} {l3:List S68} {st:Int} (hF:Fits l2 l3 st) (l:List Itm) (hl:l.length≤1000000) (hr:∀ x ∈ l,rngI x) :
  Fx (gr st l3) (closedL (gr st l3) l) (fuel l) (1000000+120 * fuel l) (fuel l) [] l :=
 ⟨closedL_some hF l,by simp,by omega,hr⟩
theorem Lm.start {w:World} {G:Array Value} {A:Option Addr} {c:Nat} {l:List S77} (hr:Kd.C k77 w A l.length l) (hc:l.length≤c) :
  Lm w G (w.heap.size+3) [] [] (l.map toI) (.slice none 0 0) A c [] (((w.alloc (Obj.cells G 27)).alloc (Obj.cells #[.slice A l.length c] 75)).alloc (Obj.map #[] 0)):=by
 have hlm:(l.map toI).length=l.length:=List.length_map ..
 refine ⟨?_, ?_, ?_, ?_, ?_, ?_, ?_, ?_,trivial,by simp,Nat.le_refl _⟩
 ·exact below_alloc (below_alloc (below_alloc (RowKit.Below.refl _ _) _) _) _
 ·exact blk_alloc (blk_alloc (blk_new w _) _) _
 ·rw [hlm]
  refine blk_alloc ?_ _
  have h:=blk_new (w.alloc (Obj.cells G 27)) (Obj.cells #[.slice A l.length c] 75)
  rwa [World.size_alloc] at h
 ·rw [hlm];exact hc
 ·rw [hlm,map_ofI_toI]
  exact Kd.C_alloc (Kd.C_alloc (Kd.C_alloc hr _) _) _
 ·have h:=Mp.new Tryz.prog 77 ((w.alloc (Obj.cells G 27)).alloc (Obj.cells #[.slice A l.length c] 75))
  rw [World.size_alloc,World.size_alloc] at h
  exact h
 ·exact Kd.R_nil _ _ _ _ _
 ·intro hq ad had
  have hp:0 < l.length:=by
   rcases Nat.eq_zero_or_pos l.length with h | h
   ·exact absurd (by rw [List.eq_nil_of_length_eq_zero h];rfl) hq
   ·exact h
  obtain ⟨ad',e1,h0, -⟩:=at_T77 hr 0 (by omega) (by omega)
  rw [had] at e1
  injection e1 with e1
  subst e1
  have:=World.block_lt_of_cell? _ _ h0
  have hbk:(ad.add ((0:Int).toNat * 2)).block=ad.block:=by unfold Addr.add;split <;> rfl
  rw [hbk] at this
  exact ⟨by simp;omega,.inl this,by simp [Value.ownBlock]⟩

theorem behind_rng {l2:List ByteArray} {l3:List S68} {st:Int} (hF:Fits l2 l3 st) (hsy:∀ p ∈ l3,∀ s ∈ p.f2, -9223372036854775808≤s) {x:Itm} {s:Int} (hb:behindL (gr st l3) x=some s):-9223372036854775808≤s:=by
 unfold behindL at hb
 cases hr:rightL (gr st l3) x.1 with
 | none=>rw [hr] at hb;cases hb
 | some r =>
  rw [hr] at hb
  simp only at hb
  split at hb
  ·rename_i hx
   injection hb with hb
   have hlt:x.2.toNat < r.length:=by omega
   have hm:s ∈ r:=by
    rw [← hb,List.getD_eq_getElem?_getD,List.getElem?_eq_getElem hlt]
    exact List.getElem_mem hlt
   unfold rightL at hr
   rw [gr_len] at hr
   split at hr
   ·injection hr with hr
    rw [← hr] at hm
    have hm:=List.mem_singleton.1 hm
    have h1:=hF.hi;have h2:=hF.sorts
    have e:(gr st l3).start=st:=rfl
    rw [e] at hm
    omega
   ·split at hr
    ·rename_i h1 h2
     rw [gr_at st l3 x.1 h2.1 h2.2] at hr
     injection hr with hr
     rw [← hr] at hm
     refine hsy _ ?_ s hm
     unfold rd_T68
     have:x.1.toNat < l3.length:=by omega
     rw [List.getD_eq_getElem?_getD,List.getElem?_eq_getElem this]
     exact List.getElem_mem this
    ·cases hr
  ·cases hb

theorem Lm.swap {w:World} {G:Array Value} {hi:Nat} {om out q:List Itm} {u6:Value} {Aq:Option Addr} {cq:Nat} {ds:List Deferred} {W W1:World} (h:Lm w G hi om out q u6 Aq cq ds W) {row:Option Nat} (hg:W.grownBy W1 row) (hr:∀ r,row=some r→hi≤r∧some r≠u6.ownBlock) {q':List Itm} {T:Option Addr} {c':Nat} (hc:q'.length≤c') (hq':Kd.C k77 W1 T q'.length (q'.map ofI))
  (hne:q'≠[]→∀ ad,T=some ad→ad.block < W1.heap.size∧(ad.block < w.heap.size ∨ w.heap.size+3≤ad.block)∧some ad.block≠u6.ownBlock) :
  Lm w G hi om out q' u6 T c' ds (W1.setCell ⟨w.heap.size+1,0,none⟩ (.slice T q'.length c')) where
 hb:=below_set (below_grown h.hb hg (fun k hk=>by have:=(hr k hk).1;have:=h.hi3;omega)) (Nat.le_succ _)
 bg:=blk_far ((hg.block _ (blk_lt h.bg) (fun e=>by have:=(hr _ e.symm).1;have:=h.hi3;omega)).trans h.bg) (Nat.ne_of_lt (Nat.lt_succ_self _)) _
 bl:=blk_put ((hg.block _ (blk_lt h.bl) (fun e=>by have:=(hr _ e.symm).1;have:=h.hi3;omega)).trans h.bl) 0 _ rfl
 qc:=hc
 hq:=C37_same hq' (fun hp ad e=>Below.heap_setCell W1 ⟨w.heap.size+1,0,none⟩ _ ad.block (by have:=(hne (q_ne hp) ad e).2.1;show ad.block≠w.heap.size+1;omega))
 mp:=(h.mp.same (hg.block _ h.mp.lt (fun e=>by have:=(hr _ e.symm).1;have:=h.hi3;omega))).same (Below.heap_setCell W1 ⟨w.heap.size+1,0,none⟩ _ _ (by show w.heap.size+1+1≠w.heap.size+1;omega))
 ho:=Kd.R_far (Kd.R_mono (Kd.R_step (Kd.R_tight2 rfl h.ho) (fun k hk hlt=>hg.block k hlt (fun e=>(hr k e.symm).2 hk.1))) (fun k hk=>hk.2)) (fun k hk=>by show k≠w.heap.size+1;omega) _
 ne:=fun hq ad e=>by rw [World.size_setCell];exact hne hq ad e
 mks:=Marks.keep (fun D h1 h2 h3=>(Below.heap_setCell W1 ⟨w.heap.size+1,0,none⟩ _ D (by show D≠w.heap.size+1;omega)).trans ((hg.block D (Nat.lt_of_lt_of_le h2 h.hil) (fun e=>by have:=(hr D e.symm).1;omega)).trans h3)) ds h.mks
 hil:=by rw [World.size_setCell];exact Nat.le_trans h.hil hg.size
 hi3:=h.hi3

structure Has (w:World) (G:Array Value) (hi:Nat) (om out q:List Itm) (u6:Value) (ds:List Deferred) (Bc gb:Nat) (pre:List Itm) (W:World):Prop where
 ex:∃ A' c',Lm w G hi om out (q ++ pre) u6 A' c' ds W∧W.ownsRow Bc 77 2 (.slice A' (q ++ pre).length c') (q ++ pre).length (flatC (q ++ pre))∧(Value.slice A' (q ++ pre).length c').ownBlock≠some (gb+1)
 bx:W.heap[gb]? = some (.cells G 27 (0,0))
 hs:some (gb+1)≠u6.ownBlock
 hc:∀ k,u6.ownBlock=some k→k < Bc
 hhi:hi≤Bc
 hgb:Bc≤gb
 lt:gb+2≤W.heap.size
theorem has_bears {w:World} {G:Array Value} {hi:Nat} {om out q:List Itm} {u6:Value} {ds:List Deferred} {Bc gb B:Nat} (hB:gb+2≤B):Bears B (gb+1) (Has w G hi om out q u6 ds Bc gb):=by
 rintro pre W W' row ⟨⟨A',c',hL,hO,hx⟩,hbx,hs,hc,hhi,hgb,hlt⟩ hg hrow
 have hrr:∀ r,row=some r→hi≤r∧some r≠u6.ownBlock∧(Value.slice A' (q ++ pre).length c').ownBlock≠some r:=fun r e=>by
  rcases hrow r e with rfl | ⟨h1,o,ho,hcl⟩
  ·exact ⟨by omega,hs,hx⟩
  ·refine ⟨by omega,fun e'=>?_,fun e'=>?_⟩
   ·obtain ⟨cells,hcc⟩:=Kd.R_typed hL.ho r e'.symm
    rw [ho] at hcc;cases hcc;cases hcl
   ·obtain ⟨cells,hcc⟩:=own_typed hO r e'
    rw [ho] at hcc;cases hcc;cases hcl
 refine ⟨⟨A',c',hL.grown hg (fun r e=>⟨(hrr r e).1,(hrr r e).2.1,fun hq ad ea er=>(hrr r e).2.2 (by rw [ea,er];rfl)⟩),hO.kept hg ?_,hx⟩, ?_,hs,hc,hhi,hgb,Nat.le_trans hlt hg.size⟩
 ·by_cases hn:(Value.slice A' (q ++ pre).length c').ownBlock=none
  ·exact .inl hn
  ·exact .inr fun e=>by
    cases ho:(Value.slice A' (q ++ pre).length c').ownBlock with
    | none=>exact hn ho
    | some r=>exact (hrr r (e ▸ ho)).2.2 ho
 ·refine (hg.block _ (by omega) (fun e=>?_)).trans hbx
  rcases hrow _ e.symm with h1 | ⟨h1,o,ho,hcl⟩
  ·omega
  ·rw [hbx] at ho;cases ho;cases hcl
theorem cell_two_new (W:World) (a b:Value) (t:TypeId):∀ j u,[a,b][j]? = some u→(W.alloc (.cells #[a,b] t)).cell? ((⟨W.heap.size,0,none⟩:Addr).add j)=some u:=by
 intro j u h
 have e:(⟨W.heap.size,0,none⟩:Addr).add j=⟨W.heap.size,j,none⟩:=by simp [Addr.add];exact fun h=>h.symm
 rw [e,blk_cell (blk_new W _)]
 simpa using h
theorem Has.app {w:World} {G:Array Value} {hi:Nat} {om out q:List Itm} {u6:Value} {ds:List Deferred} {Bc gb:Nat} {pre:List Itm} {W w1:World} {A':Option Addr} {c':Nat} {qp:List Itm} (hqp:qp=q ++ pre)
  (hL:Lm w G hi om out qp u6 A' c' ds W) (hO:W.ownsRow Bc 77 2 (.slice A' qp.length c') qp.length (flatC qp)) (hbx:W.heap[gb]? = some (.cells G 27 (0,0))) (hs:some (gb+1)≠u6.ownBlock) (hc:∀ k,u6.ownBlock=some k→k < Bc) (hhi:hi≤Bc) (hgb:Bc≤gb) (hlt:gb+2≤W.heap.size) (hbo:∃ v,Boxed W (gb+1) 3 v)
  (y:Itm) {g' cap':Nat} {tmp:Obj} (hown:w1.ownsRow Bc 77 2 (.slice (some ⟨g',0,none⟩) (qp.length+1) cap') (qp.length+1) (flatC qp ++ encI y)) (hg:(W.alloc tmp).grownBy w1 (Value.slice A' qp.length c').ownBlock) :
  Has w G hi om out q u6 ds Bc gb (pre ++ [y]) (w1.setCell ⟨w.heap.size+1,0,none⟩ (.slice (some ⟨g',0,none⟩) (qp.length+1) cap'))∧(∀ B,KeepsFrom B W (w1.setCell ⟨w.heap.size+1,0,none⟩ (.slice (some ⟨g',0,none⟩) (qp.length+1) cap')))∧(∀ v,Boxed W (gb+1) 3 v→Boxed (w1.setCell ⟨w.heap.size+1,0,none⟩ (.slice (some ⟨g',0,none⟩) (qp.length+1) cap')) (gb+1) 3 v)∧Boxed w1 (w.heap.size+1) 75 (.slice A' qp.length c'):=by
 subst hqp
 have hbc:w.heap.size+3≤Bc:=Nat.le_trans hL.hi3 hhi
 have hty:∀ r,(Value.slice A' (q ++ pre).length c').ownBlock=some r→∃ cells,(W.alloc tmp).heap[r]? = some (.cells cells 77 (0,0)):=fun r e=>own_typed (hO.alloc _) r e
 have hgn:some gb≠(Value.slice A' (q ++ pre).length c').ownBlock:=fun e=>by
  obtain ⟨cells,hcc⟩:=hty _ e.symm
  rw [blk_alloc hbx _] at hcc
  cases hcc
 have hsn:some (gb+1)≠(Value.slice A' (q ++ pre).length c').ownBlock:=fun e=>by
  obtain ⟨cells,hcc⟩:=hty _ e.symm
  obtain ⟨v,hv⟩:=hbo
  rw [show (W.alloc tmp).heap[gb+1]? = _ from hv.alloc _] at hcc
  cases hcc
 have e1:q ++ (pre ++ [y])=(q ++ pre) ++ [y]:=(List.append_assoc ..).symm
 have e2:((q ++ pre) ++ [y]).length=(q ++ pre).length+1:=by rw [List.length_append,List.length_singleton]
 have hown2:w1.ownsRow Bc 77 2 (.slice (some ⟨g',0,none⟩) ((q ++ pre) ++ [y]).length cap') ((q ++ pre) ++ [y]).length (flatC ((q ++ pre) ++ [y])):=by
  rw [flatC_snoc,e2];exact hown
 have hR:=R_of_own2 (ok:=fun _=>True) hown2 (fun _ _=>trivial)
 have hrd:=Kd.R_reads' hR
 have hgB:Bc≤g':=own_base hown2 g' rfl
 have hgl:g' < w1.heap.size:=own_lt hown2 g' rfl
 have hv:Boxed W (w.heap.size+1) 75 (.slice A' (q ++ pre).length c'):=hL.bl
 obtain ⟨hv1,hv2,hr2,hk2,hb2⟩:=hv.appended (by decide) (own_weaken hO (show w.heap.size≤Bc by omega)) (by omega) (by omega) (own_weaken hown (show w.heap.size≤Bc by omega)) hg
 have hkb:∀ v,Boxed W (gb+1) 3 v→Boxed w1 (gb+1) 3 v:=fun v hv=>(hv.alloc _).kept hg hsn
 have hkb':∀ v,Boxed W (gb+1) 3 v→Boxed (w1.setCell ⟨w.heap.size+1,0,none⟩ (.slice (some ⟨g',0,none⟩) ((q ++ pre).length+1) cap')) (gb+1) 3 v:=fun v hv=>Boxed.other (hkb v hv) (by omega) _
 refine ⟨⟨⟨some ⟨g',0,none⟩,cap', ?_, ?_, ?_⟩, ?_,hs,hc,hhi,hgb, ?_⟩,fun B=>hk2.from B,hkb',hv1⟩
 ·rw [e1,← e2]
  refine Lm.swap (Lm.below hL (below_alloc (RowKit.Below.refl _ W) tmp)) hg (fun r e=>⟨Nat.le_trans hhi (own_base hO r e),fun e'=>?_⟩) hrd.2.1 (by have h:=hrd.2.2;rw [List.length_map] at h;exact h) (fun _ ad e=>?_)
  ·have:=hc r e'.symm;have:=own_base hO r e;omega
  ·injection e with e
   subst e
   refine ⟨hgl,.inr (by show w.heap.size+3≤g';omega),fun e'=>?_⟩
   have:=hc g' e'.symm
   omega
 ·rw [e1]
  have h2:=hown2.kept (grownBy_setCell' w1 (w.heap.size+1) (.slice (some ⟨g',0,none⟩) ((q ++ pre).length+1) cap')) (.inr (by show some g'≠some (w.heap.size+1);intro e;injection e with e;omega))
  exact h2
 ·obtain ⟨v,hv⟩:=hbo
  obtain ⟨cells,hcc⟩:=own_typed hown2 g' rfl
  intro e
  have e:g'=gb+1:=by injection e
  subst e
  rw [show w1.heap[gb+1]? = _ from hkb v hv] at hcc
  cases hcc
 ·refine blk_far ((hg.block _ (by rw [World.size_alloc];omega) hgn).trans (blk_alloc hbx _)) (by show gb≠w.heap.size+1;omega) _
 ·rw [World.size_setCell]
  exact Nat.le_trans (by rw [World.size_alloc];omega) hg.size
section
attribute [local go_sem] Oper.semAt_some

set_option maxHeartbeats 16000000 in
set_option maxRecDepth 100000 in
theorem closed_in (A0:Option Addr) (c0:Nat) (l0:List S65) (A1:Option Addr) (c1:Nat) (l1:List S73) (A2:Option Addr) (c2:Nat) (l2:List ByteArray) (A3:Option Addr) (c3:Nat) (l3:List S68) (st:Int) (A:Option Addr) (c:Nat) (l:List S77) (w:World)
  (hr0:Kd.C k65 w A0 l0.length l0) (hc0:l0.length≤c0) (hr1:Kd.C k73 w A1 l1.length l1) (hc1:l1.length≤c1) (hr2:Kd.C Kd.string w A2 l2.length l2) (hc2:l2.length≤c2) (hr3:Kd.C k68 w A3 l3.length l3) (hc3:l3.length≤c3) (hr:Kd.C k77 w A l.length l) (hc:l.length≤c)
  (hF:Fits l2 l3 st) (hsy:∀ p ∈ l3,∀ s ∈ p.f2, -9223372036854775808≤s) (hl:l.length≤1000000) (hrng:∀ x ∈ l,rngI (toI x)) :
  CallsIn Fence.wide 4 Tryz.prog 30 #[.agg #[.slice A0 l0.length c0,.slice A1 l1.length c1,.slice A2 l2.length c2,.slice A3 l3.length c3,.int .i64 st],.slice A l.length c] w fun e w'=>∃ v,e=.returned v∧Kd.R k77 77 w' w.heap.size (fun _=>True) v ((risen (closedL (gr st l3) (l.map toI))).map ofI)∧RowKit.Below w.heap.size w w':=by
 have HR0:=jM hr0
 have HR1:=jM hr1
 have HR2:=jM hr2
 have HR3:=jM hr3
 have HC0:=jM hc0
 have HC1:=jM hc1
 have HC2:=jM hc2
 have HC3:=jM hc3
 have HF:=jM hF
 have HL:=jM hl
 have HSY:=jM hsy
 have hfew:(gr st l3).ps.length≤120:=by rw [gr_len];exact hF.few
 have HFEW:=jM hfew
 clear hr0 hr1 hr2 hr3 hc0 hc1 hc2 hc3 hfew hsy
 have hu27:=Tryz.underlying27
 have hu75:=Tryz.underlying75
 have hu77:=Tryz.underlying77
 have hmm:=@run_makeMap Tryz.prog
 have hstart:=Fx.start hF (l.map toI) (by rw [List.length_map];exact hl) (fun x hx=>by
  obtain ⟨y,hy,rfl⟩:=List.mem_map.1 hx
  exact hrng y hy)
 have hmst:=Lm.start (G:=#[.slice A0 l0.length c0,.slice A1 l1.length c1,.slice A2 l2.length c2,.slice A3 l3.length c3,.int .i64 st]) hr hc
 have hN0':fuel (l.map toI)≤1189003:=by unfold fuel;rw [List.length_map];omega
 generalize hN0:fuel (l.map toI)=N0 at *
 generalize hres:closedL (gr st l3) (l.map toI)=res at *
 obtain ⟨Q0,hQ0⟩:∃ Q0,Q0=1000000+120 * N0:=⟨_,rfl⟩
 have hQ0':Q0≤144000000:=by omega
 rw [← hQ0] at hstart
 have HX:=jM hstart
 have HM:=jM hmst
 have HB:=jM (show N0≤1189003∧Q0≤144000000 from ⟨hN0',hQ0'⟩)
 clear hstart hmst hN0 hN0' hQ0 hQ0' hres hF hl hrng hr hc
 refine callsIn_of_wp_marks Tryz.func30 rfl trivial ?_ rfl
 simp only [Tryz.ntmps30,List.size_toArray,List.length_cons,List.length_nil,Nat.reduceAdd,Nat.reduceSub,Array.replicate_succ,Array.replicate_zero,List.push_toArray,List.append_toArray,List.nil_append,List.cons_append]
 refine wpIn_wide.2 ?_
 go_wp2
 refine wp_loop_num (fun n a W=>∃ (u6:Value) (out q:List Itm) (Aq:Option Addr) (cq:Nat) (ds:List Deferred) (hi:Nat) (u7 u8 u9 u10 u12 u13 u14 u15 u16 u17 u18 u19 u20 u21 u22 u23 u24 u25 u26 u27 u28 u29 u30 u31 u32 u33 u34 u35 u36 u37 u38 u39 u40 u41 u42 u43 u44 u45 u46 u47 u48 u49 u50 u51 u52 u53 u54 u55 u56:Value),a={ tmps:=#[.agg #[.slice A0 l0.length c0,.slice A1 l1.length c1,.slice A2 l2.length c2,.slice A3 l3.length c3,.int .i64 st],.slice A l.length c,.pointer (some ⟨w.heap.size,0,none⟩),.pointer (some ⟨w.heap.size+1,0,none⟩),.slice none 0 0,.map (some (w.heap.size+1+1)),u6,u7,u8,u9,u10,.map (some (w.heap.size+1+1)),u12,u13,u14,u15,u16,u17,u18,u19,u20,u21,u22,u23,u24,u25,u26,u27,u28,u29,u30,u31,u32,u33,u34,u35,u36,u37,u38,u39,u40,u41,u42,u43,u44,u45,u46,u47,u48,u49,u50,u51,u52,u53,u54,u55,u56,undef,undef],defers:=ds }∧Aside0 (Fx (gr st l3) res N0 Q0 n out q)∧Aside0 (Lm w #[.slice A0 l0.length c0,.slice A1 l1.length c1,.slice A2 l2.length c2,.slice A3 l3.length c3,.int .i64 st] hi out out q u6 Aq cq ds W)) N0 ⟨.slice none 0 0,[],l.map toI,A,c,[],w.heap.size+3,undef,undef,undef,undef,undef,undef,undef,undef,undef,undef,undef,undef,undef,undef,undef,undef,undef,undef,undef,undef,undef,undef,undef,undef,undef,undef,undef,undef,undef,undef,undef,undef,undef,undef,undef,undef,undef,undef,undef,undef,undef,undef,undef,undef,undef,undef,undef,undef,undef,by rfl,HX,HM⟩ ?_
 clear HX HM
 rintro n a W ⟨u6,out,q,Aq,cq,ds,hi,u7,u8,u9,u10,u12,u13,u14,u15,u16,u17,u18,u19,u20,u21,u22,u23,u24,u25,u26,u27,u28,u29,u30,u31,u32,u33,u34,u35,u36,u37,u38,u39,u40,u41,u42,u43,u44,u45,u46,u47,u48,u49,u50,u51,u52,u53,u54,u55,u56,rfl,HX,HI⟩
 have z1:=blk_cell HI.out.bl 0
 simp only [List.getElem?_toArray,List.getElem?_cons_zero] at z1
 obtain ⟨k,rfl⟩:∃ k,n=k+1:=by
  cases n with
  | zero=>exact absurd HX.out.run (by rw [clQ];simp)
  | succ k=>exact ⟨k,rfl⟩
 cases q with
 | nil =>
  have hro:out=res:=by
   have h:=HX.out.run
   rw [clQ] at h
   exact Option.some.inj h
  have hlen:(out.map ofI).length < 4611686018427387904:=by
   rw [List.length_map]
   have:=HX.out.small;have:=HB.out.1;omega
  have HRS:=jM (show risenS (out.map ofI)=(risen res).map ofI by unfold risenS;rw [map_toI_ofI,hro])
  clear hro
  simp only [List.length_nil] at z1
  go_wp2_with (go_at_call 60;refine (rising_calls u6 _ (w.heap.size+3) _ W HI.out.ho hlen).mono ?_;rintro e w6 ⟨v6,rfl,hR,hg,hat⟩)
  have hB6:=below_grown HI.out.hb hg (fun k hk=>by have:=Kd.R_base HI.out.ho k hk;omega)
  have hM6:Marks (w.heap.size+3) hi ds w6:=Marks.keep (fun D h1 h2 h3=>(hg.block D (Nat.lt_of_lt_of_le h2 HI.out.hil) (fun e=>by
   obtain ⟨cells,hcc⟩:=Kd.R_typed HI.out.ho D e.symm
   rw [h3] at hcc;cases hcc)).trans h3) ds HI.out.mks
  exact leaves_marks (v:=v6) (fun W=>by exact results_tmp (t:=4) rfl _ _ _) (by omega) ds w6 hM6 (Kd.R_lower (Kd.R_mono (HRS.out ▸ hR) (fun _ _=>trivial)) (by omega)) hB6
 | cons x q =>
  have hqq:=HI.out.hq
  have hxr:rngI x:=HX.out.rng x (List.mem_cons_self ..)
  obtain ⟨ad,rfl,hx0,hx1⟩:=at_T77 hqq 0 (by omega) (by simp only [List.length_cons];omega)
  have hrd:rd_T77 ((x :: q).map ofI) 0=ofI x:=rfl
  rw [hrd] at hx0 hx1
  have hx0':W.cell? ad=some (.int .i64 x.1):=by
   have e:ad.add ((0:Int).toNat * 2)=ad:=add_none ad
   rw [e] at hx0;exact hx0
  have hx1':W.cell? ⟨ad.block,ad.off+1,none⟩=some (.int .i64 x.2):=by
   have e:ad.add ((0:Int).toNat * 2)=ad:=add_none ad
   rw [e] at hx1;exact hx1
  clear hx0 hx1 hrd hqq
  obtain ⟨i37,hi37,hsz37⟩:=Option.map_eq_some_iff.1 info77
  have hsl:=cut_from (P:=Tryz.prog) 75 77 .i64 Tryz.underlying75 hi37 2 (congrArg (fun z=>z.2.1) hsz37) (some ad) (q.length+1) cq 1 (by omega) (by omega)
  rw [show (1:Int).toNat=1 from rfl,Nat.add_sub_cancel] at hsl
  have f1:=blk_frozen HI.out.bl 0
  simp only [List.length_cons] at z1
  clear hi37 hsz37
  have HIb:=jM (Lm.pop (Lm.below HI.out (below_alloc (RowKit.Below.refl _ W) (Obj.cells #[.int .i64 x.1,.int .i64 x.2] 77))))
  have BXb:=jM (blk_new W (Obj.cells #[.int .i64 x.1,.int .i64 x.2] 77))
  generalize hT:(if cq=1 then some ad else (some ad).map (·.add (1 * 2)))=T at *
  have hxo:some W.heap.size≠u6.ownBlock:=fun e=>by
   obtain ⟨cells,hcc⟩:=Kd.R_typed HI.out.ho _ e.symm
   exact absurd (blk_lt hcc) (Nat.lt_irrefl _)
  have hhi:hi≤W.heap.size∧w.heap.size+3≤W.heap.size:=⟨HI.out.hil,Nat.le_trans HI.out.hi3 HI.out.hil⟩
  have HH:=jM hhi
  have HXO:=jM hxo
  clear hhi hxo hT
  go_upto_region 5 with fail
  have HI1:=jM (Lm.below HI.out (below_alloc (RowKit.Below.refl _ W) (Obj.cells #[.int .i64 x.1,.int .i64 x.2] 77)))
  clear HI z1 f1 hx0' hx1'
  generalize W.alloc (Obj.cells #[.int .i64 x.1,.int .i64 x.2] 77)=W1 at *
  generalize W.heap.size=xb at *
  have z1:=blk_cell HI1.out.bl 0
  simp only [List.getElem?_toArray,List.getElem?_cons_zero,List.length_cons] at z1
  have f1:=blk_frozen HI1.out.bl 0
  go_upto_region 6 with fail
  have BX2:=jM (blk_far BXb.out (show xb≠(⟨w.heap.size+1,0,none⟩:Addr).block by have:=HH.out.2;show xb≠w.heap.size+1;omega) (.slice T q.length (cq - 1)))
  clear BXb HI1 z1 f1 hsl
  generalize W1.setCell ⟨w.heap.size+1,0,none⟩ (.slice T q.length (cq - 1))=W2 at *
  have x0:W2.cell? ⟨xb,0,none⟩=some (.int .i64 x.1):=blk_cell BX2.out 0
  have x1:W2.cell? ⟨xb,1,none⟩=some (.int .i64 x.2):=blk_cell BX2.out 1
  by_cases hseen:x ∈ out
  ·have hlk:=seen_has HIb.out.mp hseen hxr
   unfold keyV at hlk
   have HX2:=jM (Fx.skip HX.out (.inl hseen))
   clear hseen
   go_wp2
   exact ⟨k,Nat.lt_succ_self k,u6,out,q,T,cq - 1,ds,hi,_,_,_,_,_,_,_,_,_,_,_,_,_,_,_,_,_,_,_,_,_,_,_,_,_,_,_,_,_,_,_,_,_,_,_,_,_,_,_,_,_,_,_,_,_,_,_,_,_,rfl,HX2,HIb⟩
  ·have hlk:=seen_not HIb.out.mp hseen hxr
   unfold keyV at hlk
   obtain ⟨z0,z1,z2,z3,z4⟩:=five5 HIb.out.bg
   have his:=is_is (l0:=l0) (l1:=l1) HF.out x.1 x.2
   have HSEEN:=jM hseen
   have HXR:=jM hxr
   have cb (W':World) (hb:RowKit.Below W2.heap.size W2 W'):RowKit.Below w.heap.size w W':=below_step HIb.out.hb hb
   clear hseen hxr
   cases hI:isI (gr st l3) (x.1,x.2) with
   | false =>
    rw [hI] at his
    have HX2:=jM (Fx.skip HX.out (.inr hI))
    clear hI
    go_wp2_with (go_at_call 56;refine (states_is.calls _ _ l0 _ _ l1 _ _ l2 _ _ l3 st x.1 x.2 false _ (Kd.C_below HR0.out HIb.out.hb) HC0.out (Kd.C_below HR1.out HIb.out.hb) HC1.out (Kd.C_below HR2.out HIb.out.hb) HC2.out (Kd.C_below HR3.out HIb.out.hb) HC3.out his).mono ?_;rintro e w5 ⟨rfl,hb⟩;have HI5:=jM (Lm.below HIb.out hb);clear hb)
    exact ⟨k,Nat.lt_succ_self k,u6,out,q,T,cq - 1,ds,hi,_,_,_,_,_,_,_,_,_,_,_,_,_,_,_,_,_,_,_,_,_,_,_,_,_,_,_,_,_,_,_,_,_,_,_,_,_,_,_,_,_,_,_,_,_,_,_,_,_,rfl,HX2,HI5⟩
   | true =>
    rw [hI] at his
    have HIT:=jM hI
    clear hI
    go_upto_region 7 with (go_at_call 56;refine (states_is.calls _ _ l0 _ _ l1 _ _ l2 _ _ l3 st x.1 x.2 true _ (Kd.C_below HR0.out HIb.out.hb) HC0.out (Kd.C_below HR1.out HIb.out.hb) HC1.out (Kd.C_below HR2.out HIb.out.hb) HC2.out (Kd.C_below HR3.out HIb.out.hb) HC3.out his).mono ?_;rintro e w5 ⟨rfl,hb⟩;have HI5:=jM (Lm.below HIb.out hb);have BX5:=jM (blk_below BX2.out hb);clear hb)
    clear z0 z1 z2 z3 z4 x0 x1 HIb BX2 hlk cb his
    have x0:w5.cell? ⟨xb,0,none⟩=some (.int .i64 x.1):=blk_cell BX5.out 0
    have x1:w5.cell? ⟨xb,1,none⟩=some (.int .i64 x.2):=blk_cell BX5.out 1
    obtain ⟨hmu,hmp⟩:=seen_put HI5.out.mp HSEEN.out HXR.out
    have HI6:=jM (Lm.put HI5.out hmp)
    have BX6:=jM (((Mp.put_heap w5 (w.heap.size+1+1) (keyV x) (.bool true)).2 xb (by have:=HH.out.2;omega)).trans BX5.out)
    unfold keyV at hmu HI6 BX6
    clear hmp
    go_upto_region 8 with fail
    clear hmu x0 x1 HI5 BX5
    generalize Mp.put w5 (w.heap.size+1+1) (.agg #[.int .i64 x.1,.int .i64 x.2]) (.bool true)=W6 at *
    have x0:W6.cell? ⟨xb,0,none⟩=some (.int .i64 x.1):=blk_cell BX6.out 0
    have x1:W6.cell? ⟨xb,1,none⟩=some (.int .i64 x.2):=blk_cell BX6.out 1
    have HLEN:=jM (show (out.map ofI).length≤1189003 by rw [List.length_map];have:=HX.out.small;have:=HB.out.1;omega)
    have HXN:=jM (Fx.on HFEW.out HX.out HSEEN.out HIT.out)
    go_upto_region 9 with (first | ((with_reducible refine gate_builtin (b:=.append) (xs:=#[.tmp 31,.tmp 33]) rfl ?_);at_builtin;refine Kd.R_append k77 (w0:=W6) (w.heap.size+3) rfl (.tmp 31) (.tmp 33) 75 77 (.agg #[(.int .i64 0),(.int .i64 0)]) 16 rfl Tryz.underlying75 info77 rfl (by decide) (by omega) u6 _ (⟨x.1,x.2⟩:S77) [.int .i64 x.1,.int .i64 x.2] (fun k=>w.heap.size+3≤k) (fun _=>False) rfl rfl ?aP (fun _ hk=>hk.elim) ?aF HI6.out.ho (RowKit.Below.refl _ _) (Nat.le_trans HI6.out.hi3 HI6.out.hil) ?aL ?_;(case aP=>exact k77_mkM _ _ _ (⟨x.1,x.2⟩:S77));(case aF=>exact (fun k hk=>Nat.le_trans (Nat.le_trans HI6.out.hi3 HI6.out.hil) hk));(case aL=>have:=HLEN.out;omega);intro v7 w7 ho hb hg hat;have HI7:=jM (Lm.app (x:=x) HI6.out ho hg hat);have BX7:=jM ((hg.block xb (blk_lt BX6.out) HXO.out).trans BX6.out);clear ho hb hg hat))
    clear x0 x1 HI6 BX6 HXO HLEN
    have x0:w7.cell? ⟨xb,0,none⟩=some (.int .i64 x.1):=blk_cell BX7.out 0
    have x1:w7.cell? ⟨xb,1,none⟩=some (.int .i64 x.2):=blk_cell BX7.out 1
    obtain ⟨z0,z1,z2,z3,z4⟩:=five5 HI7.out.bg
    have hbeh:=behind_is (l0:=l0) (l1:=l1) HF.out x.1 x.2
    cases hb:behindL (gr st l3) (x.1,x.2) with
    | none =>
     rw [hb] at hbeh
     simp only at hbeh
     have hnx:q ++ nexts (gr st l3) x=q:=by rw [nexts_none _ x (fun s hs=>by rw [show x=(x.1,x.2) from rfl,hb] at hs;cases hs),List.append_nil]
     have HX8:=jM (hnx ▸ HXN.out)
     clear hb hnx HXN
     go_wp2_with (go_at_call 57;refine (states_behind.calls _ _ l0 _ _ l1 _ _ l2 _ _ l3 st x.1 x.2 0 false _ (Kd.C_below HR0.out HI7.out.hb) HC0.out (Kd.C_below HR1.out HI7.out.hb) HC1.out (Kd.C_below HR2.out HI7.out.hb) HC2.out (Kd.C_below HR3.out HI7.out.hb) HC3.out hbeh).mono ?_;rintro e w8 ⟨rfl,hb⟩;have HI8:=jM (Lm.below HI7.out hb);clear hb)
     exact ⟨k,Nat.lt_succ_self k,v7,out ++ [x],q,T,cq - 1,ds,hi,_,_,_,_,_,_,_,_,_,_,_,_,_,_,_,_,_,_,_,_,_,_,_,_,_,_,_,_,_,_,_,_,_,_,_,_,_,_,_,_,_,_,_,_,_,_,_,_,_,rfl,HX8,HI8⟩
    | some t =>
     rw [hb] at hbeh
     simp only at hbeh
     have hrg:=behind_rng HF.out HSY.out hb
     by_cases hts:t < 0
     ·have hnx:nexts (gr st l3) x=ofSort (gr st l3) (-1 - t) l3.length:=by rw [nexts_ofSort _ x t hb hts,gr_len]
      have HXN2:=jM (hnx ▸ HXN.out)
      have hltb:decide (t < 0)=true:=decide_eq_true hts
      have hw1:IntKind.i64.wrap ((-1) - t)=-1 - t:=IntWalk.i64_in _ (by omega)
      clear hb hnx HXN hrg
      go_upto_region 11 with (go_at_call 57;refine (states_behind.calls _ _ l0 _ _ l1 _ _ l2 _ _ l3 st x.1 x.2 t true _ (Kd.C_below HR0.out HI7.out.hb) HC0.out (Kd.C_below HR1.out HI7.out.hb) HC1.out (Kd.C_below HR2.out HI7.out.hb) HC2.out (Kd.C_below HR3.out HI7.out.hb) HC3.out hbeh).mono ?_;rintro e w8 ⟨rfl,hb⟩;have HI8:=jM (Lm.below HI7.out hb);clear hb)
      clear x0 x1 z0 z1 z2 z3 z4 hbeh HI7 BX7
      have hcl:=clone_calls T (cq - 1) (q.map ofI) w8 (by rw [List.length_map];exact HI8.out.hq) (by rw [List.length_map];have:=HXN2.out.qlen;have:=HB.out.2;rw [List.length_append] at *;omega)
      rw [List.length_map] at hcl
      have z1:=blk_cell HI8.out.bl 0
      simp only [List.getElem?_toArray,List.getElem?_cons_zero] at z1
      have f1:=blk_frozen HI8.out.bl 0
      go_upto_region 12 with (go_at_call 58;refine hcl.mono ?_;rintro e w9 ⟨v9,rfl,hR,hb⟩;have HB9:=jM hb;obtain ⟨A9,c9,e9⟩:=Kd.R_slice hR;rw [List.length_map] at e9;subst e9;have HR9:=jM hR;clear hR;have f1:=blk_frozen (blk_below HI8.out.bl hb) 0;have z9:w9.cell? ⟨w.heap.size+1,0,none⟩=some (.slice T q.length (cq - 1)):=blk_cell (blk_below HI8.out.bl hb) 0;clear hb)
      clear z1 f1 z9 hcl
      have hsz8:w.heap.size+3≤w8.heap.size:=Nat.le_trans HI8.out.hi3 HI8.out.hil
      have hrd:=Kd.R_reads' HR9.out
      have HI9:=jM (Lm.turn (Lm.below HI8.out HB9.out) (q':=q) (T:=A9) (c':=c9) hrd.2.1 (by have h:=hrd.2.2;rw [List.length_map] at h;exact h) (fun hq ad' e'=>by
       have hb1:(Value.slice A9 q.length c9).ownBlock=some ad'.block:=by rw [e'];rfl
       have h1:=Kd.R_base HR9.out _ hb1
       refine ⟨Kd.R_lt HR9.out _ hb1,.inr (by omega),fun e''=>?_⟩
       have h2:=Kd.R_lt HI8.out.ho _ e''.symm
       omega))
      have HO9:=jM (Kd.R_far HR9.out (p:=⟨w.heap.size+1,0,none⟩) (fun k hk=>by show k≠w.heap.size+1;omega) (.slice A9 q.length c9))
      have HS9:=jM (show w8.heap.size≤(w9.setCell ⟨w.heap.size+1,0,none⟩ (.slice A9 q.length c9)).heap.size by rw [World.size_setCell];exact HB9.out.size)
      have HV7:=jM (Kd.R_lt HI8.out.ho)
      have HI8s:=jM (And.intro HI8.out.hil hsz8)
      clear hrd hsz8 HR9 HB9 HI8
      generalize w9.setCell ⟨w.heap.size+1,0,none⟩ (.slice A9 q.length c9)=W9 at *
      generalize w8.heap.size=Bc at *
      obtain ⟨z0,z1,z2,z3,z4⟩:=five5 HI9.out.bg
      go_wp2_with (go_at_call 59;refine (begins_calls #[] rfl _ _ _ _ _ _ _ _ _ _ _ _ _ _ _).mono ?_;rintro e w10 ⟨rfl,rfl⟩)
      clear z0 z1 z2 z3 z4 f1
      have hsz0:((W9.alloc (Obj.cells #[.slice A0 l0.length c0,.slice A1 l1.length c1,.slice A2 l2.length c2,.slice A3 l3.length c3,.int .i64 st] 27)).alloc (Obj.cells #[.int .i64 (-1 - t)] 3)).heap.size=W9.heap.size+2:=by simp
      have bN:Boxed ((W9.alloc (Obj.cells #[.slice A0 l0.length c0,.slice A1 l1.length c1,.slice A2 l2.length c2,.slice A3 l3.length c3,.int .i64 st] 27)).alloc (Obj.cells #[.int .i64 (-1 - t)] 3)) (W9.heap.size+1) 3 (.int .i64 (-1 - t)):=by
       have h:=Boxed.new (W9.alloc (Obj.cells #[.slice A0 l0.length c0,.slice A1 l1.length c1,.slice A2 l2.length c2,.slice A3 l3.length c3,.int .i64 st] 27)) 3 (.int .i64 (-1 - t))
       rw [World.size_alloc] at h
       exact h
      have hlt7:∀ k,v7.ownBlock=some k→k < W9.heap.size+1:=fun k hk=>by have:=HV7.out k hk;have:=HS9.out;omega
      have hhas:Has w #[.slice A0 l0.length c0,.slice A1 l1.length c1,.slice A2 l2.length c2,.slice A3 l3.length c3,.int .i64 st] hi (out ++ [x]) (out ++ [x]) q v7 ds Bc W9.heap.size [] ((W9.alloc (Obj.cells #[.slice A0 l0.length c0,.slice A1 l1.length c1,.slice A2 l2.length c2,.slice A3 l3.length c3,.int .i64 st] 27)).alloc (Obj.cells #[.int .i64 (-1 - t)] 3)):=by
       refine ⟨⟨A9,c9, ?_, ?_, ?_⟩,blk_alloc (blk_new W9 _) _,fun e=>Nat.lt_irrefl _ (hlt7 _ e.symm),HV7.out,HI8s.out.1,HS9.out,Nat.le_of_eq hsz0.symm⟩
       ·rw [List.append_nil]
        exact Lm.below HI9.out (below_alloc (below_alloc (RowKit.Below.refl _ W9) _) _)
       ·rw [List.append_nil]
        exact own_of_R2 (Kd.R_alloc (Kd.R_alloc HO9.out _) _)
       ·rw [List.append_nil]
        exact fun e=>by have:=Kd.R_lt HO9.out _ e;omega
      refine (wpIn_wide (n:=4)).1 ?_
      obtain ⟨j37,hj37,hz0,hz1,hz2⟩:=info_parts info77
      refine range_box (F:=Fence.wide) (n:=4) rfl (by omega) (gf:=74) (lb:=#[.pointer (some ⟨W9.heap.size,0,none⟩),.pointer (some ⟨W9.heap.size+1,0,none⟩)]) rfl trivial (enters_of Tryz.func74 (by kernel_rfl) rfl)
       (b:=W9.heap.size+1) (t:=3) (by rw [hsz0];omega) (begins1 3 (by omega) A0 c0 l0.length A1 c1 l1.length A2 c2 l2.length A3 c3 l3 st W9.heap.size (W9.heap.size+1) (-1 - t) HF.out.few _ bN) (fun _=>rfl)
       (Has w #[.slice A0 l0.length c0,.slice A1 l1.length c1,.slice A2 l2.length c2,.slice A3 l3.length c3,.int .i64 st] hi (out ++ [x]) (out ++ [x]) q v7 ds Bc W9.heap.size) (has_bears (Nat.le_of_eq hsz0.symm)) (fun s W h=>?gg)
       hhas (fun y g=>{ tmps:=#[.agg #[.slice A0 l0.length c0,.slice A1 l1.length c1,.slice A2 l2.length c2,.slice A3 l3.length c3,.int .i64 st],.slice A l.length c,.pointer (some ⟨w.heap.size,0,none⟩),.pointer (some ⟨w.heap.size+1,0,none⟩),.slice none 0 0,.map (some (w.heap.size+1+1)),v7,.pointer (some ⟨xb,0,none⟩),.int .i64 t,.bool true,.pointer (some ⟨g,0,none⟩),.map (some (w.heap.size+1+1)),.slice (some ad) (q.length+1) cq,.int .i64 ((q.length:Int)+1),.bool true,.slice (some ad) (q.length+1) cq,.pointer (some ad),.agg #[.int .i64 x.1,.int .i64 x.2],.slice (some ad) (q.length+1) cq,.slice T q.length (cq - 1),.map (some (w.heap.size+1+1)),.agg #[.int .i64 x.1,.int .i64 x.2],.bool false,.bool false,.agg #[.slice A0 l0.length c0,.slice A1 l1.length c1,.slice A2 l2.length c2,.slice A3 l3.length c3,.int .i64 st],.agg #[.int .i64 x.1,.int .i64 x.2],.bool true,.bool false,.bool false,.map (some (w.heap.size+1+1)),.agg #[.int .i64 x.1,.int .i64 x.2],u6,.agg #[.int .i64 x.1,.int .i64 x.2],.slice (some ⟨W6.heap.size,0,none⟩) 1 1,v7,.tuple #[.int .i64 t,.bool true],.agg #[.slice A0 l0.length c0,.slice A1 l1.length c1,.slice A2 l2.length c2,.slice A3 l3.length c3,.int .i64 st],.agg #[.int .i64 x.1,.int .i64 x.2],.tuple #[.int .i64 t,.bool true],.int .i64 t,.bool true,.bool true,.bool true,.int .i64 t,.bool true,.bool true,.slice T q.length (cq - 1),.slice A9 q.length c9,.agg #[.slice A0 l0.length c0,.slice A1 l1.length c1,.slice A2 l2.length c2,.slice A3 l3.length c3,.int .i64 st],.int .i64 t,.int .i64 (-1 - t),.func (.func 74) #[] #[.pointer (some ⟨W9.heap.size,0,none⟩),.pointer (some ⟨W9.heap.size+1,0,none⟩)],.agg #[.int .i64 y.1,.int .i64 y.2],u53,u54,u55,u56,undef,undef],defers:=[] }) (fun y=>.cells #[.int .i64 y.1,.int .i64 y.2] 77) (fun _=>rfl) ?assign ?body ?done
      case gg =>
       obtain ⟨A',c',hL, -, -⟩:=h.ex
       exact ⟨h.bx,Kd.C_below HR3.out hL.hb⟩
      case assign =>
       intro l y W K hK
       simp only [encY]
       gi_wp2
       exact hK
      case body =>
       rintro l pre y W g ⟨⟨A',c',hL,hO,hx⟩,hbx,hs,hcc,hhi,hgb,hlt⟩ hgw hgy hlen hbo
       have hqpe:∃ qp,qp=q ++ pre:=⟨_,rfl⟩
       obtain ⟨qp,hqp⟩:=hqpe
       rw [← hqp] at hL hO hx
       have HQP:=jM hqp
       have zL:=blk_cell hL.bl 0
       simp only [List.getElem?_toArray,List.getElem?_cons_zero] at zL
       have fL:=blk_frozen hL.bl 0
       have y0:W.cell? ⟨g,0,none⟩=some (.int .i64 y.1):=blk_cell hgy 0
       have y1:W.cell? ⟨g,1,none⟩=some (.int .i64 y.2):=blk_cell hgy 1
       have hmax:qp.length≤144000000:=by
        have:=HXN2.out.qlen;have:=HB.out.2
        rw [hqp,List.length_append];rw [List.length_append] at *;omega
       clear hqp
       gi_wp2_with (gi_at_builtin;refine wpListIn_append_own _ rfl _ _ 75 rfl Bc 77 j37 (.agg #[(.int .i64 0),(.int .i64 0)]) 2 16 Tryz.underlying75 hj37 hz0 hz1 hz2 rfl (by decide) _ _ _ rfl (hO.alloc _) ⟨W.heap.size,0,none⟩ 1 1 [.int .i64 y.1,.int .i64 y.2] rfl rfl (cell_two_new _ _ _ _) (by simp [Value.oneCell']) (by unfold maxLen;omega) (by omega) (by rw [World.size_alloc];omega) ?_;intro v' w1 hown' hgrow _;obtain ⟨g',cap',rfl⟩:=ownsRow_succ hown';obtain ⟨hA1,hA2,hA3,hA4⟩:=Has.app HQP.out hL hO hbx hs hcc hhi hgb hlt hbo y hown' hgrow;have HA1:=jM hA1;have HA2:=jM hA2;have HA3:=jM hA3;have hc1:=hA4.cell;have hf1:=hA4.frozen;clear hA1 hA2 hA3)
       exact ⟨HA2.out _,HA3.out,HA1.out⟩
      case done =>
       rintro D W hD ⟨⟨A',c',hL,hO,hx⟩,hbx,hs,hcc,hhi,hgb,hlt⟩ hK
       rw [hsz0] at hD
       have h1:=HI8s.out;have h2:=HS9.out
       exact ⟨k,Nat.lt_succ_self k,v7,out ++ [x],_,A',c',_,D+1,_,_,_,_,_,_,_,_,_,_,_,_,_,_,_,_,_,_,_,_,_,_,_,_,_,_,_,_,_,_,_,_,_,_,_,_,_,_,_,_,_,_,_,_,_,_,_,_,_,rfl,HXN2,⟨⟨hL.hb,hL.bg,hL.bl,hL.qc,hL.hq,hL.mp,hL.ho,hL.ne,hL.mks.cons (by omega) (by omega) hK,blk_lt hK,by omega⟩⟩⟩
     ·have hnx:q ++ nexts (gr st l3) x=q:=by rw [nexts_none _ x (fun s hs=>by rw [show x=(x.1,x.2) from rfl,hb] at hs;cases hs;exact hts),List.append_nil]
      have HX8:=jM (hnx ▸ HXN.out)
      have hltb:decide (t < 0)=false:=decide_eq_false hts
      clear hb hnx HXN
      go_wp2_with (go_at_call 57;refine (states_behind.calls _ _ l0 _ _ l1 _ _ l2 _ _ l3 st x.1 x.2 t true _ (Kd.C_below HR0.out HI7.out.hb) HC0.out (Kd.C_below HR1.out HI7.out.hb) HC1.out (Kd.C_below HR2.out HI7.out.hb) HC2.out (Kd.C_below HR3.out HI7.out.hb) HC3.out hbeh).mono ?_;rintro e w8 ⟨rfl,hb⟩;have HI8:=jM (Lm.below HI7.out hb);clear hb)
      exact ⟨k,Nat.lt_succ_self k,v7,out ++ [x],q,T,cq - 1,ds,hi,_,_,_,_,_,_,_,_,_,_,_,_,_,_,_,_,_,_,_,_,_,_,_,_,_,_,_,_,_,_,_,_,_,_,_,_,_,_,_,_,_,_,_,_,_,_,_,_,_,rfl,HX8,HI8⟩

def okI (x:S77):Bool:=decide ((-9223372036854775808≤x.f0∧x.f0≤9223372036854775807)∧(-9223372036854775808≤x.f1∧x.f1≤9223372036854775807))
def okP (p:S68):Bool:=p.f2.all fun s=>decide (-9223372036854775808≤s)
def states_closed.f (l0:List S65) (l1:List S73) (l2:List ByteArray) (l3:List S68) (st:Int) (l:List S77):Option (List S77) :=
 if validB l0 l1 l2 l3 st=true∧l3.all okP=true∧l.length≤1000000∧l.all okI=true then some ((risen (closedL (gr st l3) (l.map toI))).map ofI) else none
theorem states_closed.calls (A0:Option Addr) (c0:Nat) (l0:List S65) (A1:Option Addr) (c1:Nat) (l1:List S73) (A2:Option Addr) (c2:Nat) (l2:List ByteArray) (A3:Option Addr) (c3:Nat) (l3:List S68) (st:Int) (A:Option Addr) (c:Nat) (l:List S77) (r:List S77) (w:World)
  (hr0:Kd.C k65 w A0 l0.length l0) (hc0:l0.length≤c0) (hr1:Kd.C k73 w A1 l1.length l1) (hc1:l1.length≤c1) (hr2:Kd.C Kd.string w A2 l2.length l2) (hc2:l2.length≤c2) (hr3:Kd.C k68 w A3 l3.length l3) (hc3:l3.length≤c3) (hr:Kd.C k77 w A l.length l) (hc:l.length≤c)
  (h:states_closed.f l0 l1 l2 l3 st l=some r) :
  Calls Tryz.prog 30 #[.agg #[.slice A0 l0.length c0,.slice A1 l1.length c1,.slice A2 l2.length c2,.slice A3 l3.length c3,.int .i64 st],.slice A l.length c] w fun e w'=>∃ v0_:Value,e=.returned (v0_)∧Kd.R k77 77 w' w.heap.size (fun _=>True) v0_ r∧Below w.heap.size w w':=by
 unfold states_closed.f at h
 split at h
 ·rename_i hv
  obtain ⟨hv,h3,hl,ho⟩:=hv
  obtain rfl:=Option.some.inj h
  refine callsIn_wide.1 (closed_in A0 c0 l0 A1 c1 l1 A2 c2 l2 A3 c3 l3 st A c l w hr0 hc0 hr1 hc1 hr2 hc2 hr3 hc3 hr hc (fits_of hv) (fun p hp s hs=>?_) hl (fun x hx=>?_))
  ·have h1:=List.all_eq_true.1 h3 p hp
   unfold okP at h1
   exact of_decide_eq_true (List.all_eq_true.1 h1 s hs)
  ·have h1:=List.all_eq_true.1 ho x hx
   unfold okI at h1
   have h2:=of_decide_eq_true h1
   exact h2
 ·cases h
end
end Go.Proofs.YtclollnicbcooaaGreatDoor.P
namespace Go.Proofs.YtclollnicbcooaaGreatDoor.P
open Go.RowKit YtclollnicbcooaaGreatDoorW.PrintWords YtclollnicbcooaaGreatDoorW.PrintLast YtclollnicbcooaaGreatDoorW.PrintMore
section
attribute [local go_sem] max2_int min2_int max_two min_two max_three min_three max_four min_four

/-! ### cmp_Or_int: function 93 -/
def cmp_Or_int.l0:Nat→Int→List Int→Int→Int→Option (Int)
 | 0,_,_,_,_=>none
 | k+1,x3,x6,x7,x8=>if x8 < x7 then (if 0≤x8 then (if x8 < (x6.length:Int) then (if (rd x6 x8)=x3 then (cmp_Or_int.l0 k x3 x6 x7 (wrap64 (x8+1))) else (some (rd x6 x8))) else (none)) else (none)) else (some x3)
def cmp_Or_int.f (k:Nat) (l0:List Int):Option (Int):=cmp_Or_int.l0 k 0 l0 (l0.length:Int) 0
/-! ### cmp_isNaN_int: function 109 -/
def cmp_isNaN_int.f (a0:Int):Option (Bool):=some (a0 != a0)
/-! ### cmp_Compare_int: function 94 -/
def cmp_Compare_int.f (a0:Int) (a1:Int):Option (Int):=(cmp_isNaN_int.f a0).bind fun t126=>((cmp_isNaN_int.f a1).bind fun t127=>(if t126=true then (if t127=true then (some 0) else (some (-1))) else (if t127=true then (some 1) else (if a0 < a1 then (some (-1)) else (if a0 > a1 then (some 1) else (some 0))))))
/-! ### states_Close: function 18 -/
def states_Close.f (l0_0:List (S65)) (l0_1:List (S73)) (l0_2:List ByteArray) (l0_3:List (S68)) (a0_4:Int) (l1:List (S77)):Option ((List (S77))):=(inst_Valid.f l0_0 l0_1 l0_2 l0_3 a0_4).bind fun t143=>(if t143=true then ((states_closed.f l0_0 l0_1 l0_2 l0_3 a0_4 l1).bind fun t144=>(some t144)) else (some ([]:List (S77))))
set_option maxHeartbeats 8000000 in
set_option maxRecDepth 100000 in
theorem states_Close.calls (A0_0:Option Addr) (c0_0:Nat) (l0_0:List (S65)) (A0_1:Option Addr) (c0_1:Nat) (l0_1:List (S73)) (A0_2:Option Addr) (c0_2:Nat) (l0_2:List ByteArray) (A0_3:Option Addr) (c0_3:Nat) (l0_3:List (S68)) (a0_4:Int) (A1:Option Addr) (c1:Nat) (l1:List (S77)) (r:List (S77)) (w:World) (hr0_0:Kd.C k65 w A0_0 l0_0.length l0_0) (hc0_0:l0_0.length≤c0_0) (hr0_1:Kd.C k73 w A0_1 l0_1.length l0_1) (hc0_1:l0_1.length≤c0_1) (hr0_2:Kd.C Kd.string w A0_2 l0_2.length l0_2) (hc0_2:l0_2.length≤c0_2) (hr0_3:Kd.C k68 w A0_3 l0_3.length l0_3) (hc0_3:l0_3.length≤c0_3) (hr1:Kd.C k77 w A1 l1.length l1) (hc1:l1.length≤c1) (h:states_Close.f l0_0 l0_1 l0_2 l0_3 a0_4 l1=some r) :
  Calls Tryz.prog 70 #[.agg #[.slice A0_0 l0_0.length c0_0,.slice A0_1 l0_1.length c0_1,.slice A0_2 l0_2.length c0_2,.slice A0_3 l0_3.length c0_3,.int .i64 a0_4],.slice A1 l1.length c1] w fun e w'=>∃ v0_:Value,e=.returned (v0_)∧Kd.R k77 77 w' w.heap.size (fun _=>True) v0_ r∧Below w.heap.size w w':=by
 have hu27:=Tryz.underlying27
 have HR0_0:=jM hr0_0
 have HC0_0:=jM hc0_0
 clear hr0_0 hc0_0
 have HR0_1:=jM hr0_1
 have HC0_1:=jM hc0_1
 clear hr0_1 hc0_1
 have HR0_2:=jM hr0_2
 have HC0_2:=jM hc0_2
 clear hr0_2 hc0_2
 have HR0_3:=jM hr0_3
 have HC0_3:=jM hc0_3
 clear hr0_3 hc0_3
 have HR1:=jM hr1
 have HC1:=jM hc1
 clear hr1 hc1
 have HB:=jM (Below.refl w.heap.size w)
 have H:((inst_Valid.f l0_0 l0_1 l0_2 l0_3 a0_4).bind fun t143=>(if t143=true then ((states_closed.f l0_0 l0_1 l0_2 l0_3 a0_4 l1).bind fun t144=>(some t144)) else (some ([]:List (S77)))))=some r:=h
 clear h
 replace H:=Option.bind_eq_some_iff.mp H
 obtain ⟨t143,A30,H⟩:=H
 replace H:(if t143=true then ((states_closed.f l0_0 l0_1 l0_2 l0_3 a0_4 l1).bind fun t144=>(some t144)) else (some ([]:List (S77))))=some r:=H
 have A3:=jM A30
 clear A30
 by_cases c4:t143=true
 ·subst c4
  have H1:((states_closed.f l0_0 l0_1 l0_2 l0_3 a0_4 l1).bind fun t144=>(some t144))=some r:=by rw [if_pos rfl] at H;exact H
  clear H
  have H:=H1
  clear H1
  replace H:=Option.bind_eq_some_iff.mp H
  obtain ⟨t144,A50,H⟩:=H
  replace H:(some t144)=some r:=H
  have A5:=jM A50
  clear A50
  obtain rfl:=Option.some.inj H
  go_enter Tryz.func70,Tryz.ntmps70
  go_wp2_with (first | ((with_reducible refine gate_dst (N:=2) rfl ?_);refine box_event ?hg (N:=2) ?hd (cs:=#[.slice A0_0 l0_0.length c0_0,.slice A0_1 l0_1.length c0_1,.slice A0_2 l0_2.length c0_2,.slice A0_3 l0_3.length c0_3,.int .i64 a0_4]) (t:=27) ?hr ?_;(case hd=>rfl);(case hg=>rfl);(case hr=>first | (go_simp;done) | (go_simp;rfl));intro gb142 hg w6 hbox hb;have n0_:=jM (jT (tB HB.out) hb);have n1_:=jM (hbox);have n2_:=jM ((by rw [hg];exact (below_size (tB HB.out)):w.heap.size≤gb142));have n3_:=jM ((by rw [hg];exact (below_size (tB HB.out)):w.heap.size≤gb142));clear HB;have HB:=n0_;have BK142:=n1_;have GW142:=n2_;have GE142:=n3_;clear n0_ n1_ n2_ n3_;clear hb hbox hg;obtain ⟨hcz7_0,hcz7_1,hcz7_2,hcz7_3,hcz7_4⟩:=jC5 BK142.out;have hfz7_0:=jF BK142.out 0;have hfz7_1:=jF BK142.out 1;have hfz7_2:=jF BK142.out 2;have hfz7_3:=jF BK142.out 3;have hfz7_4:=jF BK142.out 4) | ((with_reducible refine gate_callee (f:=27) rfl ?_);refine goesL_ (some 6) rfl rfl Tryz.func27 (by kernel_rfl) rfl #[.agg #[.slice A0_0 l0_0.length c0_0,.slice A0_1 l0_1.length c0_1,.slice A0_2 l0_2.length c0_2,.slice A0_3 l0_3.length c0_3,.int .i64 a0_4]] rfl tM ?_;(with_reducible refine (inst_Valid.calls _ _ l0_0 _ _ l0_1 _ _ l0_2 _ _ l0_3 a0_4 true _ ?side1 ?side2 ?side3 ?side4 ?side5 ?side6 ?side7 ?side8 A3.out).mono ?_);(case side1=>exact tC (jB HR0_0.out HB.out));(case side2=>exact HC0_0.out);(case side3=>exact tC (jB HR0_1.out HB.out));(case side4=>exact HC0_1.out);(case side5=>exact tC (jB HR0_2.out HB.out));(case side6=>exact HC0_2.out);(case side7=>exact tC (jB HR0_3.out HB.out));(case side8=>exact HC0_3.out);rintro e w8 ⟨rfl,hb⟩;refine ⟨_,rfl, ?_⟩;replace BK142:=jM (jW (g:=gb142) (o:=.cells #[.slice A0_0 l0_0.length c0_0,.slice A0_1 l0_1.length c0_1,.slice A0_2 l0_2.length c0_2,.slice A0_3 l0_3.length c0_3,.int .i64 a0_4] 27 (0,0)) (tK BK142.out) hb);replace HB:=jM (jT (tE HB.out) hb);(try clear hb);(try clear hb2);(try clear hk);(try clear hi);obtain ⟨hcz9_0,hcz9_1,hcz9_2,hcz9_3,hcz9_4⟩:=jC5 BK142.out;have hfz9_0:=jF BK142.out 0;have hfz9_1:=jF BK142.out 1;have hfz9_2:=jF BK142.out 2;have hfz9_3:=jF BK142.out 3;have hfz9_4:=jF BK142.out 4) | ((with_reducible refine gate_callee (f:=30) rfl ?_);refine goesL_ (some 10) rfl rfl Tryz.func30 (by kernel_rfl) rfl #[.agg #[.slice A0_0 l0_0.length c0_0,.slice A0_1 l0_1.length c0_1,.slice A0_2 l0_2.length c0_2,.slice A0_3 l0_3.length c0_3,.int .i64 a0_4],.slice A1 l1.length c1] rfl tM ?_;(with_reducible refine (states_closed.calls _ _ l0_0 _ _ l0_1 _ _ l0_2 _ _ l0_3 a0_4 _ _ l1 t144 _ ?side1 ?side2 ?side3 ?side4 ?side5 ?side6 ?side7 ?side8 ?side9 ?side10 A5.out).mono ?_);(case side1=>exact tC (jB HR0_0.out HB.out));(case side2=>exact HC0_0.out);(case side3=>exact tC (jB HR0_1.out HB.out));(case side4=>exact HC0_1.out);(case side5=>exact tC (jB HR0_2.out HB.out));(case side6=>exact HC0_2.out);(case side7=>exact tC (jB HR0_3.out HB.out));(case side8=>exact HC0_3.out);(case side9=>exact tC (jB HR1.out HB.out));(case side10=>exact HC1.out);rintro e w10 ⟨v145,rfl,ho0,hb⟩;refine ⟨_,rfl, ?_⟩;have HO146:=jM (Kd.R_lower ho0 (below_size (tE HB.out)));replace BK142:=jM (jW (g:=gb142) (o:=.cells #[.slice A0_0 l0_0.length c0_0,.slice A0_1 l0_1.length c0_1,.slice A0_2 l0_2.length c0_2,.slice A0_3 l0_3.length c0_3,.int .i64 a0_4] 27 (0,0)) (tK BK142.out) hb);replace HB:=jM (jT (tE HB.out) hb);(try clear hb);(try clear hb2);(try clear hk);(try clear hi);(try clear ho0)))
  go_ret
  exact ⟨_,by first | rfl | (simp [errW_none,errW_some] <;> rfl) | (simp [*,errW_none,errW_some] <;> rfl),tR HO146.out,tE HB.out⟩
 ·replace c4:=Bool.eq_false_iff.mpr c4
  subst c4
  have H1:(some ([]:List (S77)))=some r:=by rw [if_neg (show ¬ (false=true) by decide)] at H;exact H
  clear H
  have H:=H1
  clear H1
  obtain rfl:=Option.some.inj H
  go_enter Tryz.func70,Tryz.ntmps70
  go_wp2_with (first | ((with_reducible refine gate_dst (N:=2) rfl ?_);refine box_event ?hg (N:=2) ?hd (cs:=#[.slice A0_0 l0_0.length c0_0,.slice A0_1 l0_1.length c0_1,.slice A0_2 l0_2.length c0_2,.slice A0_3 l0_3.length c0_3,.int .i64 a0_4]) (t:=27) ?hr ?_;(case hd=>rfl);(case hg=>rfl);(case hr=>first | (go_simp;done) | (go_simp;rfl));intro gb142 hg w11 hbox hb;have n0_:=jM (jT (tB HB.out) hb);have n1_:=jM (hbox);have n2_:=jM ((by rw [hg];exact (below_size (tB HB.out)):w.heap.size≤gb142));have n3_:=jM ((by rw [hg];exact (below_size (tB HB.out)):w.heap.size≤gb142));clear HB;have HB:=n0_;have BK142:=n1_;have GW142:=n2_;have GE142:=n3_;clear n0_ n1_ n2_ n3_;clear hb hbox hg;obtain ⟨hcz12_0,hcz12_1,hcz12_2,hcz12_3,hcz12_4⟩:=jC5 BK142.out;have hfz12_0:=jF BK142.out 0;have hfz12_1:=jF BK142.out 1;have hfz12_2:=jF BK142.out 2;have hfz12_3:=jF BK142.out 3;have hfz12_4:=jF BK142.out 4) | ((with_reducible refine gate_callee (f:=27) rfl ?_);refine goesL_ (some 6) rfl rfl Tryz.func27 (by kernel_rfl) rfl #[.agg #[.slice A0_0 l0_0.length c0_0,.slice A0_1 l0_1.length c0_1,.slice A0_2 l0_2.length c0_2,.slice A0_3 l0_3.length c0_3,.int .i64 a0_4]] rfl tM ?_;(with_reducible refine (inst_Valid.calls _ _ l0_0 _ _ l0_1 _ _ l0_2 _ _ l0_3 a0_4 false _ ?side1 ?side2 ?side3 ?side4 ?side5 ?side6 ?side7 ?side8 A3.out).mono ?_);(case side1=>exact tC (jB HR0_0.out HB.out));(case side2=>exact HC0_0.out);(case side3=>exact tC (jB HR0_1.out HB.out));(case side4=>exact HC0_1.out);(case side5=>exact tC (jB HR0_2.out HB.out));(case side6=>exact HC0_2.out);(case side7=>exact tC (jB HR0_3.out HB.out));(case side8=>exact HC0_3.out);rintro e w13 ⟨rfl,hb⟩;refine ⟨_,rfl, ?_⟩;replace BK142:=jM (jW (g:=gb142) (o:=.cells #[.slice A0_0 l0_0.length c0_0,.slice A0_1 l0_1.length c0_1,.slice A0_2 l0_2.length c0_2,.slice A0_3 l0_3.length c0_3,.int .i64 a0_4] 27 (0,0)) (tK BK142.out) hb);replace HB:=jM (jT (tE HB.out) hb);(try clear hb);(try clear hb2);(try clear hk);(try clear hi)))
  go_ret
  exact ⟨_,by first | rfl | (simp [errW_none,errW_some] <;> rfl) | (simp [*,errW_none,errW_some] <;> rfl),by first | exact Kd.R_nil _ _ _ _ _ | exact Kd.N_nil _ _ _ _ _ | exact Kd.V_nil _ _ _ _ _ | exact Kd.Q_nil _ _ _ _ _ | exact Kd.S_nil _ _ _ _ _,tE HB.out⟩
end
section
attribute [local go_sem] max2_int min2_int max_two min_two max_three min_three max_four min_four

/-! ### states_Step: function 20 -/
/-! ### states_symbols: function 44 -/
mutual
def states_symbols.l0:Nat→List Int→Int→Int→List (S65)→List (S73)→List ByteArray→List (S68)→Int→Option (List Int)
 | 0,_,_,_,_,_,_,_,_=>none
 | k+1,x3,x8,x9,xA,xB,xC,xD,xE=>if x9 < x8 then (if x3.length < 17592186044416 then (states_symbols.l0 k (x3 ++ [x9]) x8 (wrap64 (x9+1)) xA xB xC xD xE) else (none)) else (states_symbols.l1 k x3 (xC.length:Int) 0)
def states_symbols.l1:Nat→List Int→Int→Int→Option (List Int)
 | 0,_,_,_=>none
 | k+1,x3,x19,x20=>if x20 < x19 then (if x3.length < 17592186044416 then (states_symbols.l1 k (x3 ++ [wrap64 ((-1) - x20)]) x19 (wrap64 (x20+1))) else (none)) else (some x3)
end
def states_symbols.f (k:Nat) (l0_0:List (S65)) (l0_1:List (S73)) (l0_2:List ByteArray) (l0_3:List (S68)) (a0_4:Int):Option (List Int):=states_symbols.l0 k ([]:List Int) (l0_0.length:Int) 0 l0_0 l0_1 l0_2 l0_3 a0_4
set_option maxHeartbeats 8000000 in
set_option maxRecDepth 100000 in
theorem states_symbols.calls (k:Nat) (A0_0:Option Addr) (c0_0:Nat) (l0_0:List (S65)) (A0_1:Option Addr) (c0_1:Nat) (l0_1:List (S73)) (A0_2:Option Addr) (c0_2:Nat) (l0_2:List ByteArray) (A0_3:Option Addr) (c0_3:Nat) (l0_3:List (S68)) (a0_4:Int) (r:List Int) (w:World) (hr0_0:Kd.C k65 w A0_0 l0_0.length l0_0) (hc0_0:l0_0.length≤c0_0) (hr0_1:Kd.C k73 w A0_1 l0_1.length l0_1) (hc0_1:l0_1.length≤c0_1) (hr0_2:Kd.C Kd.string w A0_2 l0_2.length l0_2) (hc0_2:l0_2.length≤c0_2) (hr0_3:Kd.C k68 w A0_3 l0_3.length l0_3) (hc0_3:l0_3.length≤c0_3) (h:states_symbols.f k l0_0 l0_1 l0_2 l0_3 a0_4=some r) :
  Calls Tryz.prog 31 #[.agg #[.slice A0_0 l0_0.length c0_0,.slice A0_1 l0_1.length c0_1,.slice A0_2 l0_2.length c0_2,.slice A0_3 l0_3.length c0_3,.int .i64 a0_4]] w fun e w'=>∃ v0_:Value,e=.returned (v0_)∧Kd.R (Kd.int .i64) 56 w' w.heap.size (fun _=>True) v0_ r∧Below w.heap.size w w':=by
 have hu27:=Tryz.underlying27
 have HR0_0:=jM hr0_0
 have HC0_0:=jM hc0_0
 clear hr0_0 hc0_0
 have HR0_1:=jM hr0_1
 have HC0_1:=jM hc0_1
 clear hr0_1 hc0_1
 have HR0_2:=jM hr0_2
 have HC0_2:=jM hc0_2
 clear hr0_2 hc0_2
 have HR0_3:=jM hr0_3
 have HC0_3:=jM hc0_3
 clear hr0_3 hc0_3
 have HB:=jM (Below.refl w.heap.size w)
 have H:(states_symbols.l0 k ([]:List Int) (l0_0.length:Int) 0 l0_0 l0_1 l0_2 l0_3 a0_4)=some r:=h
 clear h
 have H':=jM H
 clear H
 go_enter Tryz.func31,Tryz.ntmps31
 go_wp2_with (first | ((with_reducible refine gate_dst (N:=1) rfl ?_);refine box_event ?hg (N:=1) ?hd (cs:=#[.slice A0_0 l0_0.length c0_0,.slice A0_1 l0_1.length c0_1,.slice A0_2 l0_2.length c0_2,.slice A0_3 l0_3.length c0_3,.int .i64 a0_4]) (t:=27) ?hr ?_;(case hd=>rfl);(case hg=>rfl);(case hr=>first | (go_simp;done) | (go_simp;rfl));intro gb155 hg w2 hbox hb;have n0_:=jM (jT (tB HB.out) hb);have n1_:=jM (hbox);have n2_:=jM ((by rw [hg];exact (below_size (tB HB.out)):w.heap.size≤gb155));have n3_:=jM ((by rw [hg];exact (below_size (tB HB.out)):w.heap.size≤gb155));clear HB;have HB:=n0_;have BK155:=n1_;have GW155:=n2_;have GE155:=n3_;clear n0_ n1_ n2_ n3_;clear hb hbox hg;obtain ⟨hcz3_0,hcz3_1,hcz3_2,hcz3_3,hcz3_4⟩:=jC5 BK155.out;have hfz3_0:=jF BK155.out 0;have hfz3_1:=jF BK155.out 1;have hfz3_2:=jF BK155.out 2;have hfz3_3:=jF BK155.out 3;have hfz3_4:=jF BK155.out 4))
 go_loopg [3,9] k (fun kq v3 v9 w'=>∃ (x3_1:List Int) (x9_1:Int),v9=.int .i64 x9_1∧Aside0 (states_symbols.l0 kq x3_1 (l0_0.length:Int) x9_1 l0_0 l0_1 l0_2 l0_3 a0_4=some r)∧Aside0 (kq≤k)∧Aside0 (Kd.R (Kd.int .i64) 56 w' w.heap.size (fun _=>True) v3 x3_1)∧Aside0 (w'.heap[gb155]? = some (.cells #[(.slice A0_0 l0_0.length c0_0),(.slice A0_1 l0_1.length c0_1),(.slice A0_2 l0_2.length c0_2),(.slice A0_3 l0_3.length c0_3),.int .i64 a0_4] 27 (0,0)))∧Aside0 (Below w.heap.size w w'))
 case atStart=>exact ⟨(([]:List Int)),(0),tZ,H',⟨Nat.le_refl _⟩,⟨by first | exact Kd.R_nil _ _ _ _ _ | exact Kd.N_nil _ _ _ _ _ | exact Kd.V_nil _ _ _ _ _ | exact Kd.Q_nil _ _ _ _ _ | exact Kd.S_nil _ _ _ _ _⟩,⟨tK BK155.out⟩,⟨tE HB.out⟩⟩
 case round =>
  clear H'
  try clear p2
  try clear hcz3_0
  try clear hcz3_1
  try clear hcz3_2
  try clear hcz3_3
  try clear hcz3_4
  try clear hfz3_0
  try clear hfz3_1
  try clear hfz3_2
  try clear hfz3_3
  try clear hfz3_4
  obtain ⟨x3_1,x9_1,rfl,HA,HK1,HO_3,BK155,HB⟩:=hrel
  cases gk with
  | zero=>exact absurd HA.out (by simp [states_symbols.l0])
  | succ k1 =>
   have H:=HA.out
   clear HA
   simp only [states_symbols.l0] at H
   by_cases c4:x9_1 < (l0_0.length:Int)
   ·rw [if_pos c4] at H
    have c4b0:decide (x9_1 < (l0_0.length:Int))=true:=decide_eq_true c4
    clear c4
    by_cases c5:x3_1.length < 17592186044416
    ·rw [if_pos c5] at H
     have LMc5:=jM c5
     clear c5
     obtain ⟨y156,hy156⟩:∃ y_:List Int,y_=(x3_1 ++ [x9_1]):=⟨_,rfl⟩
     replace H:(states_symbols.l0 k1 y156 (l0_0.length:Int) (wrap64 (x9_1+1)) l0_0 l0_1 l0_2 l0_3 a0_4)=some r:=by first | (rw [hy156];with_reducible exact H) | (have H2_:=(Option.bind_some _ _).symm.trans H;rw [hy156];with_reducible exact H2_) | (have H2_:=(Option.bind_some _ _).symm.trans H;with_reducible exact H2_) | with_reducible exact H | (rw [hy156];exact H) | exact H
     have Ny156:=jM hy156
     clear hy156
     have H':=jM H
     clear H
     go_wp2_with (first | ((with_reducible refine gate_builtin (b:=.append) (xs:=#[.tmp 12,.tmp 14]) rfl ?_);at_builtin;refine Kd.R_append (Kd.int .i64) (w0:=w) w.heap.size rfl (.tmp 12) (.tmp 14) 66 56 (.int .i64 0) 8 rfl Tryz.underlying66 info56 rfl (by decide) (by omega) u3 x3_1 x9_1 [.int .i64 x9_1] (fun _=>True) (fun _=>False) rfl rfl ?aP (fun _ hk=>hk.elim) ?aF ?aO ?aB ?aS ?aL ?_;(case aP=>exact rfl);(case aB=>exact (tE HB.out));(case aF=>exact (fun _ _=>trivial));(case aO=>exact (tR HO_3.out));(case aS=>exact (below_size (tE HB.out)));(case aL=>have:=LMc5.out;omega);intro v157 w6 ho hb hg hat;rw [← Ny156.out] at ho;replace BK155:=jM (blk_grown (g:=gb155) (o:=.cells #[.slice A0_0 l0_0.length c0_0,.slice A0_1 l0_1.length c0_1,.slice A0_2 l0_2.length c0_2,.slice A0_3 l0_3.length c0_3,.int .i64 a0_4] 27 (0,0)) (tK BK155.out) hg (Kd.R_ne HO_3.out BK155.out (by decide)));replace HB:=jM (hb);have HO158:=jM (ho);clear HO_3 ho hb hg hat))
     go_roundg k1
     case measure=>have:=HK1.out;omega
     case rel=>exact ⟨(y156),(wrap64 (x9_1+1)),tZ,H',⟨by have:=HK1.out;omega⟩,⟨tR HO158.out⟩,⟨tK BK155.out⟩,⟨tE HB.out⟩⟩
    ·rw [if_neg c5] at H
     exact absurd H (by simp)
   ·rw [if_neg c4] at H
    have c4b0:decide (x9_1 < (l0_0.length:Int))=false:=decide_eq_false c4
    clear c4
    have H':=jM H
    clear H
    have hcz7_0:wr.cell? ⟨gb155,0,none⟩=some (.slice A0_0 l0_0.length c0_0):=(jC BK155.out 0).trans rfl
    have hcz7_1:wr.cell? ⟨gb155,1,none⟩=some (.slice A0_1 l0_1.length c0_1):=(jC BK155.out 1).trans rfl
    have hcz7_2:wr.cell? ⟨gb155,2,none⟩=some (.slice A0_2 l0_2.length c0_2):=(jC BK155.out 2).trans rfl
    have hcz7_3:wr.cell? ⟨gb155,3,none⟩=some (.slice A0_3 l0_3.length c0_3):=(jC BK155.out 3).trans rfl
    have hcz7_4:wr.cell? ⟨gb155,4,none⟩=some (.int .i64 a0_4):=(jC BK155.out 4).trans rfl
    have hfz7_0:=jF BK155.out 0
    have hfz7_1:=jF BK155.out 1
    have hfz7_2:=jF BK155.out 2
    have hfz7_3:=jF BK155.out 3
    have hfz7_4:=jF BK155.out 4
    go_wp2
    go_loopg [3,20] k1 (fun kq v3 v20 w'=>∃ (x3_2:List Int) (x20_2:Int),v20=.int .i64 x20_2∧Aside0 (states_symbols.l1 kq x3_2 (l0_2.length:Int) x20_2=some r)∧Aside0 (kq≤k1)∧Aside0 (Kd.R (Kd.int .i64) 56 w' w.heap.size (fun _=>True) v3 x3_2)∧Aside0 (w'.heap[gb155]? = some (.cells #[(.slice A0_0 l0_0.length c0_0),(.slice A0_1 l0_1.length c0_1),(.slice A0_2 l0_2.length c0_2),(.slice A0_3 l0_3.length c0_3),.int .i64 a0_4] 27 (0,0)))∧Aside0 (Below w.heap.size w w'))
    case atStart=>exact ⟨(x3_1),(0),tZ,H',⟨Nat.le_refl _⟩,⟨tR HO_3.out⟩,⟨tK BK155.out⟩,⟨tE HB.out⟩⟩
    case round =>
     clear H'
     try clear p2
     try clear c4
     try clear c4b0
     try clear c5
     try clear p6
     try clear hcz3_0
     try clear hcz3_1
     try clear hcz3_2
     try clear hcz3_3
     try clear hcz3_4
     try clear hcz7_0
     try clear hcz7_1
     try clear hcz7_2
     try clear hcz7_3
     try clear hcz7_4
     try clear hfz3_0
     try clear hfz3_1
     try clear hfz3_2
     try clear hfz3_3
     try clear hfz3_4
     try clear hfz7_0
     try clear hfz7_1
     try clear hfz7_2
     try clear hfz7_3
     try clear hfz7_4
     try clear p2
     obtain ⟨x3_2,x20_2,rfl,HA,HK2,HO_3,BK155,HB⟩:=hrel
     cases gk with
     | zero=>exact absurd HA.out (by simp [states_symbols.l1])
     | succ k2 =>
      have H:=HA.out
      clear HA
      simp only [states_symbols.l1] at H
      by_cases c8:x20_2 < (l0_2.length:Int)
      ·rw [if_pos c8] at H
       have c8b0:decide (x20_2 < (l0_2.length:Int))=true:=decide_eq_true c8
       clear c8
       by_cases c9:x3_2.length < 17592186044416
       ·rw [if_pos c9] at H
        have LMc9:=jM c9
        clear c9
        obtain ⟨y159,hy159⟩:∃ y_:List Int,y_=(x3_2 ++ [wrap64 ((-1) - x20_2)]):=⟨_,rfl⟩
        replace H:(states_symbols.l1 k2 y159 (l0_2.length:Int) (wrap64 (x20_2+1)))=some r:=by first | (rw [hy159];with_reducible exact H) | (have H2_:=(Option.bind_some _ _).symm.trans H;rw [hy159];with_reducible exact H2_) | (have H2_:=(Option.bind_some _ _).symm.trans H;with_reducible exact H2_) | with_reducible exact H | (rw [hy159];exact H) | exact H
        have Ny159:=jM hy159
        clear hy159
        have H':=jM H
        clear H
        go_wp2_with (first | ((with_reducible refine gate_builtin (b:=.append) (xs:=#[.tmp 23,.tmp 26]) rfl ?_);at_builtin;refine Kd.R_append (Kd.int .i64) (w0:=w) w.heap.size rfl (.tmp 23) (.tmp 26) 66 56 (.int .i64 0) 8 rfl Tryz.underlying66 info56 rfl (by decide) (by omega) u3 x3_2 (wrap64 ((-1) - x20_2)) [.int .i64 (wrap64 ((-1) - x20_2))] (fun _=>True) (fun _=>False) rfl rfl ?aP (fun _ hk=>hk.elim) ?aF ?aO ?aB ?aS ?aL ?_;(case aP=>exact rfl);(case aB=>exact (tE HB.out));(case aF=>exact (fun _ _=>trivial));(case aO=>exact (tR HO_3.out));(case aS=>exact (below_size (tE HB.out)));(case aL=>have:=LMc9.out;omega);intro v160 w10 ho hb hg hat;rw [← Ny159.out] at ho;replace BK155:=jM (blk_grown (g:=gb155) (o:=.cells #[.slice A0_0 l0_0.length c0_0,.slice A0_1 l0_1.length c0_1,.slice A0_2 l0_2.length c0_2,.slice A0_3 l0_3.length c0_3,.int .i64 a0_4] 27 (0,0)) (tK BK155.out) hg (Kd.R_ne HO_3.out BK155.out (by decide)));replace HB:=jM (hb);have HO161:=jM (ho);clear HO_3 ho hb hg hat))
        go_roundg k2
        case measure=>have:=HK1.out;have:=HK2.out;omega
        case rel=>exact ⟨(y159),(wrap64 (x20_2+1)),tZ,H',⟨by have:=HK1.out;have:=HK2.out;omega⟩,⟨tR HO161.out⟩,⟨tK BK155.out⟩,⟨tE HB.out⟩⟩
       ·rw [if_neg c9] at H
        exact absurd H (by simp)
      ·rw [if_neg c8] at H
       have c8b0:decide (x20_2 < (l0_2.length:Int))=false:=decide_eq_false c8
       clear c8
       obtain rfl:=Option.some.inj H
       go_wp2
       go_ret
       exact ⟨_,by first | rfl | (simp [errW_none,errW_some] <;> rfl) | (simp [*,errW_none,errW_some] <;> rfl),tR HO_3.out,tE HB.out⟩
end
end Go.Proofs.YtclollnicbcooaaGreatDoor.P
namespace Go.Proofs.YtclollnicbcooaaGreatDoor.P
open Go.RowKit Go.Lib Go.Sort YtclollnicbcooaaGreatDoorW.PrintWords YtclollnicbcooaaGreatDoorW.PrintLast YtclollnicbcooaaGreatDoorW.PrintMore St Base
def GTab (w : World) : Prop := Lib.TabIs Tryz.prog w "internal/strconv.uint64pow10" .u64 Lib.pow10Tab
theorem GTab.below {w w1:World} (h:GTab w) (hb:RowKit.Below w.heap.size w w1):GTab w1:=Lib.tabBelow_of_tabIs h w1 hb
theorem itoa_calls (n:Int) (h0:-9223372036854775808≤n) (h1:n≤9223372036854775807) (w:World) (hG:GTab w) :
  Calls Tryz.prog 29 #[.int .i64 n] w fun e w'=>e=.returned (.string ⟨(itoa n).toArray⟩)∧RowKit.Below w.heap.size w w':=by
 refine (Any.strconv_Itoa Tryz.itoaL n h0 h1 w hG).mono ?_
 rintro e w' ⟨rfl,k,os,rfl⟩
 exact ⟨rfl,below_grow w.heap.size w (Nat.le_refl _) k os⟩

def keyS (l:List Itm):ByteArray:=⟨(keyL l).toArray⟩
theorem keyS_inj {l m:List Itm} (h:keyS l=keyS m):l=m:=by
 unfold keyS at h
 injection h with h
 exact keyL_inj l m (by have:=congrArg Array.toList h;simpa using this)
theorem bytes_app (a b:Array UInt8):(⟨a⟩ ++ ⟨b⟩:ByteArray)=⟨a ++ b⟩:=by
 apply ByteArray.ext
 simp
theorem keyS_snoc (l:List Itm) (x:Itm):keyS l ++ ((((⟨(itoa x.1).toArray⟩ ++ ⟨#[46]⟩:ByteArray) ++ ⟨(itoa x.2).toArray⟩:ByteArray) ++ ⟨#[32]⟩:ByteArray))=keyS (l ++ [x]):=by
 unfold keyS
 rw [keyL_app,bytes_app,bytes_app,bytes_app,bytes_app]
 simp [keyL,pieceL]
section
theorem info75:(Tryz.prog.info? 75).map (fun i=>(i.zero,i.size,i.bytes))=some (some (.slice none 0 0),1,24):=by kernel_rfl
theorem keyed9:Maps.Keyed Tryz.prog 9:=Maps.string_keyed Tryz.underlying9
theorem key9 (s:ByteArray) (h:s.size≤maxLen):∃ x,keyOf Tryz.prog 9 (.string s)=some x:=by
 unfold keyOf
 rw [Tryz.underlying9]
 simp only [mapKey,Tryz.underlying9]
 rw [if_pos h]
 exact ⟨_,rfl⟩
theorem dec_len:∀ (k u:Nat),u < 10 ^ (k+1)→(decDigits u).length≤k+1
 | 0,u,h=>by rw [dec_small u (by omega)];simp
 | k+1,u,h=>by
  by_cases hu:u < 10
  ·rw [dec_small u hu];simp
  ·rw [dec_step u hu,List.length_append,List.length_singleton]
   have:=dec_len k (u / 10) (by rw [Nat.pow_succ] at h;omega)
   omega
theorem itoa_len (n:Int) (h:-9223372036854775808≤n∧n≤9223372036854775807):(itoa n).length≤20:=by
 unfold itoa
 split
 ·have:=dec_len 18 n.natAbs (by omega)
  simp only [List.length_cons];omega
 ·have:=dec_len 18 n.toNat (by omega)
  omega
theorem keyL_len:∀ l:List Itm,(∀ x ∈ l,rngI x)→(keyL l).length≤l.length * 42
 | [],_=>by simp [keyL]
 | x :: l,h=>by
  have h1:=keyL_len l (fun y hy=>h y (List.mem_cons_of_mem _ hy))
  have h2:=h x (List.mem_cons_self ..)
  have h3:=itoa_len x.1 h2.1
  have h4:=itoa_len x.2 h2.2
  unfold keyL pieceL
  simp only [List.length_append,List.length_cons,List.length_nil]
  omega
theorem keyS_size {l:List Itm} (h:∀ x ∈ l,rngI x) (hs:l.length≤1000000):(keyS l).size≤maxLen:=by
 have:=keyL_len l h
 show (keyL l).toArray.size≤maxLen
 rw [List.size_toArray]
 unfold maxLen
 omega
def numK (K:List (List Itm)):List (Value × Value):=K.zipIdx.map fun p=>(.string (keyS p.1),.int .i64 (p.2:Int))
theorem numK_snoc (K:List (List Itm)) (l:List Itm):numK (K ++ [l])=numK K ++ [(.string (keyS l),.int .i64 (K.length:Int))]:=by
 unfold numK
 rw [List.zipIdx_append]
 simp
theorem numK_mem {K:List (List Itm)} {p:Value × Value} (h:p ∈ numK K):∃ (i:Nat) (l:List Itm),K[i]? = some l∧p=(.string (keyS l),.int .i64 (i:Int)):=by
 unfold numK at h
 obtain ⟨⟨l,i⟩,hm,rfl⟩:=List.mem_map.1 h
 have:=List.mem_zipIdx hm
 simp only [Nat.zero_add,Nat.sub_zero] at this
 obtain ⟨_,h2,h3⟩:=this
 exact ⟨i,l,(List.getElem?_eq_getElem h2).trans (congrArg some h3.symm),rfl⟩
theorem numK_has {K:List (List Itm)} {i:Nat} {l:List Itm} (h:K[i]? = some l):((.string (keyS l),.int .i64 (i:Int)):Value × Value) ∈ numK K:=by
 unfold numK
 exact List.mem_map.2 ⟨(l,i),List.mem_of_getElem? (by rw [List.getElem?_zipIdx,h,Nat.zero_add];rfl),rfl⟩
theorem look_has {W:World} {r i:Nat} {K:List (List Itm)} {l:List Itm} (hz:(keyS l).size≤maxLen) (h:Mp Tryz.prog 9 W r (numK K)) (hd:K.Nodup) (hi:K[i]? = some l):(Instr.lookup 74 (.map (some r)) (.string (keyS l)) true).run Tryz.prog W=.ok (.tuple #[.int .i64 (i:Int),.bool true]) W:=by
 refine h.find (et:=3) Tryz.underlying74 keyed9 (key9 _ hz).choose_spec (numK_has hi) (fun p hp he=>?_) true
 obtain ⟨j,m,hj,rfl⟩:=numK_mem hp
 injection he with he
 obtain rfl:=keyS_inj he
 obtain ⟨h1,h2⟩:=List.getElem?_eq_some_iff.1 hi
 obtain ⟨h3,h4⟩:=List.getElem?_eq_some_iff.1 hj
 have:i=j:=(List.getElem_inj hd).1 (h2.trans h4.symm)
 rw [this]
theorem look_not {W:World} {r:Nat} {K:List (List Itm)} {l:List Itm} (hz:(keyS l).size≤maxLen) (h:Mp Tryz.prog 9 W r (numK K)) (hn:l ∉ K):(Instr.lookup 74 (.map (some r)) (.string (keyS l)) true).run Tryz.prog W=.ok (.tuple #[.int .i64 0,.bool false]) W:=by
 refine h.miss (et:=3) Tryz.underlying74 keyed9 (key9 _ hz).choose_spec (Tryz.zeroValue3 W) (fun p hp he=>?_) true
 obtain ⟨j,m,hj,rfl⟩:=numK_mem hp
 injection he with he
 obtain rfl:=keyS_inj he
 exact hn (List.mem_of_getElem? hj)
theorem look_put {W:World} {r:Nat} {K:List (List Itm)} {l:List Itm} (hz:(keyS l).size≤maxLen) (h:Mp Tryz.prog 9 W r (numK K)) (hn:l ∉ K) :
  (Instr.mapUpdate 74 (.map (some r)) (.string (keyS l)) (.int .i64 (K.length:Int))).run Tryz.prog W=.ok () (Mp.put W r (.string (keyS l)) (.int .i64 (K.length:Int)))∧Mp Tryz.prog 9 (Mp.put W r (.string (keyS l)) (.int .i64 (K.length:Int))) r (numK (K ++ [l])):=by
 refine ⟨h.store (et:=3) Tryz.underlying74 keyed9 (key9 _ hz).choose_spec (fun p hp he=>?_) _, ?_⟩
 ·obtain ⟨j,m,hj,rfl⟩:=numK_mem hp
  injection he with he
  obtain rfl:=keyS_inj he
  exact hn (List.mem_of_getElem? hj)
 ·rw [numK_snoc]
  exact h.put_is (key9 _ hz).choose_spec _

theorem numb_cases (K:List (List Itm)) (l:List Itm) (hn:l≠[]):(∃ j:Nat,K[j]? = some l∧numb K l=((j:Int),K)) ∨ (l ∉ K∧numb K l=((K.length:Int),K ++ [l])):=by
 unfold numb
 rw [if_neg hn]
 split
 ·rename_i j hf
  obtain ⟨hj,hp,_⟩:=List.findIdx?_eq_some_iff_getElem.1 hf
  exact .inl ⟨j,by rw [List.getElem?_eq_getElem hj];exact congrArg some (of_decide_eq_true hp),rfl⟩
 ·rename_i hf
  have hh:=List.findIdx?_eq_none_iff.1 hf
  exact .inr ⟨fun hm=>by have:=hh l hm;simp at this,rfl⟩
structure Bd (w:World) (B:Nat) (G:Array Value) (Km K:List (List Itm)) (N:List (List Int)) (vK vN:Value) (okK okN:Nat→Prop) (W:World):Prop where
 hb:RowKit.Below w.heap.size w W
 bg:W.heap[w.heap.size]? = some (.cells G 27 (0,0))
 br:W.heap[w.heap.size+1]? = some (.cells #[.slice none 0 0,.slice none 0 0] 44 (0,0))
 ba:W.heap[B]? = some (.cells #[vK,vN] 44 (0,0))
 mp:Mp Tryz.prog 9 W (B+1) (numK Km)
 bn:W.heap[B+2]? = some (.cells #[.map (some (B+1))] 74 (0,0))
 ks:Kd.S (Kd.slice 77 k77) 75 W (B+3) (fun k=>B+3≤k∧okK k) vK (K.map (·.map ofI))
 ns:Kd.S (Kd.slice 3 (Kd.int .i64)) 50 W (B+3) (fun k=>B+3≤k∧okN k) vN N
 nd:Km.Nodup
 hB:w.heap.size+2≤B
section
variable {w:World} {B:Nat} {G:Array Value} {Km K:List (List Itm)} {N:List (List Int)} {vK vN:Value} {okK okN:Nat→Prop} {W W1:World}
theorem Bd.size (h:Bd w B G Km K N vK vN okK okN W):B+3≤W.heap.size:=blk_lt h.bn
theorem Bd.below (h:Bd w B G Km K N vK vN okK okN W) (hb:RowKit.Below W.heap.size W W1):Bd w B G Km K N vK vN okK okN W1 where
 hb:=below_step h.hb hb
 bg:=blk_below h.bg hb
 br:=blk_below h.br hb
 ba:=blk_below h.ba hb
 mp:=h.mp.same (hb.block _ h.mp.lt)
 bn:=blk_below h.bn hb
 ks:=Kd.S_below h.ks hb
 ns:=Kd.S_below h.ns hb
 nd:=h.nd
 hB:=h.hB
theorem Bd.any (h:Bd w B G Km K N vK vN okK okN W) {ok' okN':Nat→Prop} (hk:∀ k,okK k→ok' k) (hn:∀ k,okN k→okN' k):Bd w B G Km K N vK vN ok' okN' W :=
 ⟨h.hb,h.bg,h.br,h.ba,h.mp,h.bn,Kd.S_mono h.ks (fun k hk'=>⟨hk'.1,hk k hk'.2⟩),Kd.S_mono h.ns (fun k hk'=>⟨hk'.1,hn k hk'.2⟩),h.nd,h.hB⟩
theorem Bd.put (h:Bd w B G Km K N vK vN okK okN W) {Km':List (List Itm)} {k v:Value} (hm:Mp Tryz.prog 9 (Mp.put W (B+1) k v) (B+1) (numK Km')) (hd:Km'.Nodup):Bd w B G Km' K N vK vN okK okN (Mp.put W (B+1) k v):=by
 obtain ⟨hs,hk⟩:=Mp.put_heap W (B+1) k v
 have hB:=h.hB
 have hw:(Mp.put W (B+1) k v).os=W.os∧(Mp.put W (B+1) k v).tape=W.tape∧(Mp.put W (B+1) k v).output=W.output:=by
  unfold Mp.put
  split <;> exact ⟨rfl,rfl,rfl⟩
 refine ⟨⟨hw.1.trans h.hb.os,hw.2.1.trans h.hb.tape,hw.2.2.trans h.hb.output,by rw [hs];exact h.hb.size,fun i hi=>(hk i (by omega)).trans (h.hb.block i hi)⟩,(hk _ (by omega)).trans h.bg,(hk _ (by omega)).trans h.br,(hk _ (by omega)).trans h.ba,hm,(hk _ (by omega)).trans h.bn, ?_, ?_,hd,hB⟩
 ·exact Kd.S_step h.ks (fun i hi hlt=>hk i (by omega))
 ·exact Kd.S_step h.ns (fun i hi hlt=>hk i (by omega))
theorem Bd.app (h:Bd w B G Km K N vK vN okK okN W) {K':List (List Itm)} {v1:Value} (hs:Kd.S (Kd.slice 77 k77) 75 W1 (B+3) (fun k=>B+3≤k) v1 (K'.map (·.map ofI))) (hg:W.grownBy W1 vK.ownBlock):Bd w B G Km K' N v1 vN (fun _=>True) okN (W1.setCell ⟨B,0,none⟩ v1):=by
 have hbase:=Kd.S_base h.ks
 have hB:=h.hB
 have hkeep:∀ k,k < B+3→k < W.heap.size→W1.heap[k]? = W.heap[k]?:=fun k h1 h2=>hg.block k h2 (fun e=>by have:=hbase k e.symm;omega)
 have hsz:=h.size
 have hfar:∀ k,k≠B→(W1.setCell ⟨B,0,none⟩ v1).heap[k]? = W1.heap[k]?:=fun k hk=>Below.heap_setCell W1 ⟨B,0,none⟩ v1 k hk
 refine ⟨below_set (below_grown h.hb hg (fun k hk=>by have:=hbase k hk;omega)) (by show w.heap.size≤B;omega), ?_, ?_, ?_, ?_, ?_, ?_, ?_,h.nd,hB⟩
 ·exact ((hfar _ (by omega)).trans (hkeep _ (by omega) (by omega))).trans h.bg
 ·exact ((hfar _ (by omega)).trans (hkeep _ (by omega) (by omega))).trans h.br
 ·exact blk_put ((hkeep _ (by omega) (by omega)).trans h.ba) 0 _ rfl
 ·exact h.mp.same ((hfar _ (by omega)).trans (hkeep _ (by omega) (by omega)))
 ·exact ((hfar _ (by omega)).trans (hkeep _ (by omega) (by omega))).trans h.bn
 ·exact Kd.S_mono (Kd.S_far hs (fun k hk=>by show k≠B;omega) _) (fun k hk=>⟨hk,trivial⟩)
 ·exact Kd.S_far (Kd.S_over' h.ns (Kd.S_typed h.ks) (by decide) hg) (fun k hk=>by show k≠B;omega) _
end

set_option maxHeartbeats 8000000 in
set_option maxRecDepth 100000 in
theorem number_calls {w W:World} {B:Nat} {G:Array Value} {K:List (List Itm)} {N:List (List Int)} {vK vN vl:Value} {l:List Itm} {okN:Nat→Prop} (hG:GTab w) (h:Bd w B G K K N vK vN (fun k=>some k≠vl.ownBlock) okN W)
  (hl:Kd.R k77 77 W (B+3) (fun k=>B+3≤k) vl (l.map ofI)) (hr:∀ x ∈ l,rngI x) (hs:l.length≤1000000) (hK:K.length≤3000) :
  Calls Tryz.prog 28 #[vl,.pointer (some ⟨B+2,0,none⟩),.pointer (some ⟨B,0,none⟩)] W fun e w'=>e=.returned (.int .i64 (numb K l).1)∧∃ vK',Bd w B G (numb K l).2 (numb K l).2 N vK' vN (fun _=>True) okN w'∧W.heap.size≤w'.heap.size∧∀ k,k < W.heap.size→B+3≤k→some k≠vK.ownBlock→w'.heap[k]? = W.heap[k]?:=by
 obtain ⟨A,c,e⟩:=Kd.R_slice hl
 subst e
 rw [List.length_map] at *
 have hrd:=Kd.R_reads' hl
 rw [List.length_map] at hrd
 have HL:=jM hl
 have HRD:=jM hrd.2.2
 have H:=jM h
 have HG:=jM hG
 have HRG:=jM hr
 have HK:=jM hK
 clear hl hrd h hG hr hK
 have hu75:=Tryz.underlying75
 have hu77:=Tryz.underlying77
 by_cases hnil:l=[]
 ·subst hnil
  have hnb:numb K []=(-1,K):=by unfold numb;rw [if_pos rfl]
  have HNB:=jM hnb
  clear hnb
  simp only [List.length_nil] at *
  go_enter Tryz.func28,Tryz.ntmps28
  go_wp2
  go_ret
  rw [HNB.out]
  refine ⟨rfl,vK,H.out.any (fun _ _=>trivial) (fun _ h=>h),Nat.le_refl _,fun _ _ _ _=>rfl⟩
 ·have hlen0:(l.length:Int)≠0:=by
   intro e
   exact hnil (List.eq_nil_of_length_eq_zero (by omega))
  have hlen:((l.length:Int) == 0)=false:=by simpa using hlen0
  have hlen2:decide ((l.length:Int)=0)=false:=decide_eq_false hlen0
  have HNIL:=jM hnil
  clear hnil
  go_enter Tryz.func28,Tryz.ntmps28
  go_wp2
  go_loopw [5,15] (fun v5 v15 wr=>∃ i:Nat,v15=.int .i64 i∧i≤l.length∧v5=.string (keyS (l.take i))∧Aside0 (RowKit.Below W.heap.size W wr)) (fun _ v15 _=>l.length - (intOf v15).toNat)
  case atStart=>exact ⟨0,rfl,Nat.zero_le _,rfl,⟨RowKit.Below.refl _ _⟩⟩
  case round =>
   obtain ⟨i,rfl,hi,rfl,HB⟩:=hrel
   by_cases hlt:i < l.length
   ·have hltb:decide (i < l.length)=true:=decide_eq_true hlt
    obtain ⟨ad,rfl,hx0,hx1⟩:=at_T77 (Kd.C_below HRD.out HB.out) (i:Int) (by omega) (by omega)
    rw [Int.toNat_natCast] at hx0 hx1
    obtain ⟨x,hx⟩:∃ x,l[i]=x:=⟨_,rfl⟩
    have hxe:rd_T77 (l.map ofI) i=ofI x:=by rw [← hx];unfold rd_T77;simp [List.getD,hlt]
    rw [hxe] at hx0 hx1
    have hxr:rngI x:=by rw [← hx];exact HRG.out _ (List.getElem_mem hlt)
    have HSN:=jM (show keyS (l.take (i+1))=keyS (l.take i ++ [x]) by rw [List.take_add_one,List.getElem?_eq_getElem hlt,hx];rfl)
    unfold rngI at hxr
    have HXR:=jM hxr
    replace hx0:wr.cell? (ad.add (i * 2))=some (.int .i64 x.1):=hx0
    replace hx1:wr.cell? ⟨(ad.add (i * 2)).block,(ad.add (i * 2)).off+1,none⟩=some (.int .i64 x.2):=hx1
    clear hxr hxe hx
    go_upto_region 7 with fail
    have BX:=jM (blk_new wr (Obj.cells #[.int .i64 x.1,.int .i64 x.2] 77))
    have HB1:=jM (below_alloc HB.out (Obj.cells #[.int .i64 x.1,.int .i64 x.2] 77))
    clear hx0 hx1 HB
    generalize wr.alloc (Obj.cells #[.int .i64 x.1,.int .i64 x.2] 77)=w1 at *
    generalize wr.heap.size=xb at *
    have y0:w1.cell? ⟨xb,0,none⟩=some (.int .i64 x.1):=blk_cell BX.out 0
    have y1:w1.cell? ⟨xb,1,none⟩=some (.int .i64 x.2):=blk_cell BX.out 1
    obtain ⟨sa,hsa⟩:∃ s:ByteArray,s=⟨(itoa x.1).toArray⟩:=⟨_,rfl⟩
    obtain ⟨sb,hsb⟩:∃ s:ByteArray,s=⟨(itoa x.2).toArray⟩:=⟨_,rfl⟩
    obtain ⟨sk,hsk⟩:∃ s:ByteArray,s=keyS (l.take i):=⟨_,rfl⟩
    have hza:sa.size≤20:=by rw [hsa];show (itoa x.1).toArray.size≤20;rw [List.size_toArray];exact itoa_len _ HXR.out.1
    have hzb:sb.size≤20:=by rw [hsb];show (itoa x.2).toArray.size≤20;rw [List.size_toArray];exact itoa_len _ HXR.out.2
    have hzk:sk.size≤42000000:=by
     rw [hsk]
     have h1:=keyL_len (l.take i) (fun y hy=>HRG.out y (List.mem_of_mem_take hy))
     show (keyL (l.take i)).toArray.size≤_
     rw [List.size_toArray]
     have:(l.take i).length≤1000000:=by rw [List.length_take];omega
     omega
    obtain ⟨s1,hs1⟩:∃ s:ByteArray,s=sa ++ ⟨#[46]⟩:=⟨_,rfl⟩
    have hz1:s1.size≤21:=by rw [hs1,ByteArray.size_append];show sa.size+1≤21;omega
    obtain ⟨s2,hs2⟩:∃ s:ByteArray,s=s1 ++ sb:=⟨_,rfl⟩
    have hz2:s2.size≤41:=by rw [hs2,ByteArray.size_append];omega
    obtain ⟨s3,hs3⟩:∃ s:ByteArray,s=s2 ++ ⟨#[32]⟩:=⟨_,rfl⟩
    have hz3:s3.size≤42:=by rw [hs3,ByteArray.size_append];show s2.size+1≤42;omega
    obtain ⟨s4,hs4⟩:∃ s:ByteArray,s=sk ++ s3:=⟨_,rfl⟩
    have e1:∀ W,(Op.stringOp .add sa ⟨#[46]⟩).run Tryz.prog W=.ok (.string s1) W:=fun W=>by rw [hs1];exact run_string_add_sum _ _ _ (by show sa.size+1≤_;omega)
    have e2:∀ W,(Op.stringOp .add s1 sb).run Tryz.prog W=.ok (.string s2) W:=fun W=>by rw [hs2];exact run_string_add_sum _ _ _ (by omega)
    have e3:∀ W,(Op.stringOp .add s2 ⟨#[32]⟩).run Tryz.prog W=.ok (.string s3) W:=fun W=>by rw [hs3];exact run_string_add_sum _ _ _ (by show s2.size+1≤_;omega)
    have e4:∀ W,(Op.stringOp .add sk s3).run Tryz.prog W=.ok (.string s4) W:=fun W=>by rw [hs4];exact run_string_add_sum _ _ _ (by omega)
    have HS4:=jM (show s4=keyS (l.take (i+1)) by rw [hs4,hs3,hs2,hs1,hsa,hsb,hsk,HSN.out];exact keyS_snoc _ _)
    have hI1:=itoa_calls x.1 HXR.out.1.1 HXR.out.1.2
    have hI2:=itoa_calls x.2 HXR.out.2.1 HXR.out.2.2
    rw [← hsa] at hI1
    rw [← hsb] at hI2
    rw [← hsk]
    have HI1:=jM hI1
    have HI2:=jM hI2
    clear hI1 hI2 hza hzb hzk hz1 hz2 hz3 hsa hsb hsk hs1 hs2 hs3 hs4
    go_region_with (first
     | (go_at_call 29;(with_reducible refine (HI1.out _ ?g1).mono ?_);(case g1=>exact GTab.below HG.out (below_step H.out.hb (by repeat (first | exact HB1.out | apply below_drew1 | apply pw_below_drewN))));rintro e W1 ⟨rfl,hb⟩;have HB2:=jM (below_step (by repeat (first | exact HB1.out | apply below_drew1 | apply pw_below_drewN)) hb);have BX2:=jM (blk_below (g:=xb) (o:=.cells #[.int .i64 x.1,.int .i64 x.2] 77 (0,0)) (by repeat (first | exact BX.out | refine blk_drew ?_ | refine blk_drewN ?_ _)) hb);have t0:=blk_cell BX2.out 0;have t1:=blk_cell BX2.out 1;clear hb)
     | (go_at_call 29;(with_reducible refine (HI2.out _ ?g1).mono ?_);(case g1=>exact GTab.below HG.out (below_step H.out.hb (by repeat (first | exact HB2.out | apply below_drew1 | apply pw_below_drewN))));rintro e W2 ⟨rfl,hb⟩;have HB3:=jM (below_step (by repeat (first | exact HB2.out | apply below_drew1 | apply pw_below_drewN)) hb);clear hb))
    all_goals go_wp2_with fail
    all_goals go_roundw
    all_goals first
     | exact ⟨i+1,rfl,by omega,congrArg Value.string HS4.out,HB3⟩
     | (simp [intOf];omega)
   ·have hltb:decide (i < l.length)=false:=decide_eq_false hlt
    have hil:i=l.length:=by omega
    subst hil
    rw [List.take_length]
    have hz:=keyS_size HRG.out hs
    have H2:=jM (H.out.below HB.out)
    have HL2:=jM (Kd.R_below HL.out HB.out)
    have b0:wr.cell? ⟨B+2,0,none⟩=some (.map (some (B+1))):=blk_cell H2.out.bn 0
    rcases numb_cases K l HNIL.out with ⟨j,hkj,hnb⟩ | ⟨hnin,hnb⟩
    ·have hlk:=look_has hz H2.out.mp H2.out.nd hkj
     have HNB:=jM hnb
     clear hnb hkj hz
     go_wp2
     go_ret
     rw [HNB.out]
     exact ⟨rfl,vK,H2.out.any (fun _ _=>trivial) (fun _ h=>h),HB.out.size,fun k h1 _ _=>HB.out.block k h1⟩
    ·have hlk:=look_not hz H2.out.mp hnin
     obtain ⟨hmu,hmp⟩:=look_put hz H2.out.mp hnin
     obtain ⟨AK,cK,eK⟩:=Kd.S_slice H2.out.ks
     subst eK
     rw [List.length_map] at *
     have a0:wr.cell? ⟨B,0,none⟩=some (.slice AK K.length cK):=blk_cell H2.out.ba 0
     have HNB:=jM hnb
     have HNIN:=jM hnin
     have HMP:=jM hmp
     clear hnb hnin hmp hz
     go_upto_region 13 with fail
     have hnd:(K ++ [l]).Nodup:=by
      rw [List.nodup_append]
      refine ⟨H2.out.nd,by simp,fun a ha b hb e=>?_⟩
      rw [List.mem_singleton] at hb
      subst hb;subst e
      exact HNIN.out ha
     have H5:=jM (H2.out.put HMP.out hnd)
     have hph:=Mp.put_heap wr (B+1) (.string (keyS l)) (.int .i64 (K.length:Int))
     have HL5:=jM (Kd.R_step HL2.out (fun k hk hlt=>hph.2 k (by omega)))
     have HP5:=jM hph
     clear hnd hph hlk hmu a0 b0
     generalize Mp.put wr (B+1) (.string (keyS l)) (.int .i64 (K.length:Int))=W5 at *
     have a0:W5.cell? ⟨B,0,none⟩=some (.slice AK K.length cK):=blk_cell H5.out.ba 0
     have f0:=blk_frozen H5.out.ba 0
     have hown:∀ k,some k=(Value.slice A l.length c).ownBlock→some k≠(Value.slice AK K.length cK).ownBlock:=fun k e e'=>by
      obtain ⟨c1,h1⟩:=Kd.R_typed HL5.out k e.symm
      obtain ⟨c2,h2⟩:=Kd.S_typed H5.out.ks k e'.symm
      rw [h1] at h2
      cases h2
     have HOW:=jM hown
     clear hown
     go_wp2_with (first | ((with_reducible refine gate_builtin (b:=.append) (xs:=#[.tmp 46,.tmp 48]) rfl ?_);at_builtin;refine Kd.S_append (Kd.slice 77 k77) (w0:=W5) (B+3) rfl (.tmp 46) (.tmp 48) 42 75 (.slice none 0 0) 24 rfl Tryz.underlying42 info75 rfl (by decide) (by omega) (.slice AK K.length cK) (K.map (·.map ofI)) (l.map ofI) [.slice A l.length c] (fun k=>B+3≤k) (fun k=>some k=(Value.slice A l.length c).ownBlock∧B+3≤k) rfl rfl ⟨_,rfl,Kd.R_tight2 rfl HL5.out⟩ (fun k hk=>⟨hk.2,HOW.out k hk.1⟩) (fun k hk=>Nat.le_trans H5.out.size hk) (Kd.S_mono H5.out.ks (fun k hk=>⟨hk.1,fun h2=>hk.2 h2.1⟩)) (RowKit.Below.refl _ _) H5.out.size ?aL ?_;(case aL=>have:=HK.out;rw [List.length_map];omega);intro v6 w6 ho hb hg hat;obtain ⟨A6,n6,e6⟩:=Kd.S_slice ho;have e7:(K.map (·.map ofI) ++ [l.map ofI]).length=K.length+1:=(by simp);rw [e7] at e6;subst e6;clear e7;have HS6:=jM ho;have HG6:=jM hg;have c6:w6.cell? ⟨B,0,none⟩=some (.slice AK K.length cK):=blk_cell ((hg.block _ (blk_lt H5.out.ba) (fun e=>by have:=Kd.S_base H5.out.ks _ e.symm;omega)).trans H5.out.ba) 0;have f6:=blk_frozen ((hg.block _ (blk_lt H5.out.ba) (fun e=>by have:=Kd.S_base H5.out.ks _ e.symm;omega)).trans H5.out.ba) 0;clear ho hb hg hat))
     go_ret
     rw [HNB.out]
     refine ⟨rfl,_,Bd.app H5.out (by rw [List.map_append];exact HS6.out) HG6.out, ?_,fun k h1 h2 h3=>?_⟩
     ·rw [World.size_setCell]
      exact Nat.le_trans HB.out.size (Nat.le_trans (Nat.le_of_eq HP5.out.1.symm) HG6.out.size)
     ·refine (Below.heap_setCell w6 ⟨B,0,none⟩ _ k (by show k≠B;omega)).trans ?_
      have h4:k < wr.heap.size:=Nat.lt_of_lt_of_le h1 HB.out.size
      exact ((HG6.out.block k (by rw [HP5.out.1];exact h4) (fun e=>h3 (e.trans (by cases AK <;> rfl)))).trans (HP5.out.2 k (by omega))).trans (HB.out.block k h1)
end
theorem nodup_len:∀ (l m:List Itm),l.Nodup→(∀ x ∈ l,x ∈ m)→l.length≤m.length
 | [],m,_,_=>Nat.zero_le _
 | x :: l,m,hd,h=>by
  rw [List.nodup_cons] at hd
  have hx:=h x (List.mem_cons_self ..)
  have h1:=nodup_len l (m.erase x) hd.2 (fun y hy=>by
   have hne:y≠x:=fun e=>hd.1 (e ▸ hy)
   exact (List.mem_erase_of_ne hne).2 (h y (List.mem_cons_of_mem _ hy)))
  have h2:=List.length_erase_of_mem hx
  have h3:0 < m.length:=List.length_pos_of_mem hx
  rw [List.length_cons];omega
theorem risen_nodup (l:List Itm):(risen l).Nodup:=List.Pairwise.imp (fun h e=>by rw [e] at h;exact lt_irr _ h) (risen_is l).up

def Sg (g:Gr) (c:List Itm) (s:Int):List Itm:=risen (stepL g (risen (closedL g c)) s)
theorem isI_rng {l2:List ByteArray} {l3:List S68} {st:Int} (h:Fits l2 l3 st) {x:Itm} (hx:isI (gr st l3) x=true):-1≤x.1∧x.1 < 120∧0≤x.2∧x.2≤12:=by
 have hA:=allI_has (gr st l3) x hx
 unfold isI at hx
 cases hr:rightL (gr st l3) x.1 with
 | none=>rw [hr] at hx;cases hx
 | some r =>
  rw [hr] at hx
  simp only [decide_eq_true_eq] at hx
  have hf:=h.few
  unfold rightL at hr
  rw [gr_len] at hr
  split at hr
  ·injection hr with hr
   rw [← hr] at hx
   simp only [List.length_cons,List.length_nil] at hx
   omega
  ·split at hr
   ·rename_i h1 h2
    rw [gr_at st l3 x.1 h2.1 h2.2] at hr
    injection hr with hr
    have:(rd_T68 l3 x.1).f2.length≤12:=h.short _ (by unfold rd_T68;rw [List.getD_eq_getElem?_getD,List.getElem?_eq_getElem (by omega)];exact List.getElem_mem (by omega))
    rw [← hr] at hx
    simp only at hx
    omega
   ·cases hr
theorem closed_small {l2:List ByteArray} {l3:List S68} {st:Int} (h:Fits l2 l3 st) (c:List Itm):(risen (closedL (gr st l3) c)).length≤1562 :=
 Nat.le_trans (nodup_len _ _ (risen_nodup _) (fun x hx=>allI_has _ x (cl_is _ _ _ ((closedL_rise h c).mem x |>.1 hx)))) (allI_len h)
theorem Sg_small {l2:List ByteArray} {l3:List S68} {st:Int} (h:Fits l2 l3 st) (c:List Itm) (s:Int):(Sg (gr st l3) c s).length≤1562∧∀ x ∈ Sg (gr st l3) c s,rngI x:=by
 have hm:∀ x ∈ Sg (gr st l3) c s,∃ y ∈ risen (closedL (gr st l3) c),x=(y.1,y.2+1):=fun x hx=>by
  obtain ⟨y,h1,h2,h3⟩:=(stepL_mem _ _ _ _).1 (((risen_is _).mem x).1 hx)
  exact ⟨y,h1,h3⟩
 refine ⟨?_,fun x hx=>?_⟩
 ·have h1:((Sg (gr st l3) c s).map fun x=>((x.1,x.2 - 1):Itm)).Nodup:=by
   refine List.Pairwise.map _ (fun x y hne e=>hne ?_) (risen_nodup _)
   have e1:=congrArg Prod.fst e
   have e2:=congrArg Prod.snd e
   exact Prod.ext e1 (by simp only at e2;omega)
  have h2:=nodup_len _ _ h1 (fun x hx=>by
   obtain ⟨y,hy,rfl⟩:=List.mem_map.1 hx
   obtain ⟨z,hz,rfl⟩:=hm y hy
   have:(((z.1,z.2+1):Itm).1,((z.1,z.2+1):Itm).2 - 1)=z:=Prod.ext rfl (by show z.2+1 - 1=z.2;omega)
   rw [this];exact hz)
  rw [List.length_map] at h2
  exact Nat.le_trans h2 (closed_small h c)
 ·obtain ⟨y,hy,rfl⟩:=hm x hx
  have:=isI_rng h (cl_is _ _ _ ((closedL_rise h c).mem y |>.1 hy))
  unfold rngI
  simp only
  omega

def symsL (T S:Nat):List Int:=(List.range T).map (fun (i:Nat)=>(i:Int)) ++ (List.range S).map (fun (i:Nat)=>-1 - (i:Int))
theorem symsL_len (T S:Nat):(symsL T S).length=T+S:=by unfold symsL;simp
theorem sy1:∀ (d k S j:Nat) (x:List Int),S - j≤d→j≤S→d < k→S≤1000→x.length+d < 10000→states_symbols.l1 k x (S:Int) (j:Int)=some (x ++ ((List.range S).drop j).map (fun (i:Nat)=>-1 - (i:Int))):=by
 intro d
 induction d with
 | zero =>
  intro k S j x h1 h2 h3 h4 h5
  obtain ⟨k,rfl⟩:∃ m,k=m+1:=⟨k - 1,by omega⟩
  rw [states_symbols.l1,if_neg (by omega)]
  rw [List.drop_eq_nil_of_le (by simp;omega)]
  simp
 | succ d ih =>
  intro k S j x h1 h2 h3 h4 h5
  obtain ⟨k,rfl⟩:∃ m,k=m+1:=⟨k - 1,by omega⟩
  rw [states_symbols.l1]
  by_cases hj:(j:Int) < (S:Int)
  ·rw [if_pos hj,if_pos (by omega),IntWalk.wrap64_in _ (by omega),IntWalk.wrap64_in _ (by omega)]
   have:=ih k S (j+1) (x ++ [-1 - (j:Int)]) (by omega) (by omega) (by omega) h4 (by rw [List.length_append,List.length_singleton];omega)
   rw [show ((j:Int)+1)=((j+1:Nat):Int) by omega,this]
   rw [List.drop_eq_getElem_cons (i:=j) (l:=List.range S) (by simp;omega)]
   simp
  ·rw [if_neg hj]
   rw [List.drop_eq_nil_of_le (by simp;omega)]
   simp
theorem sy0 (l0:List S65) (l1:List S73) (l2:List ByteArray) (l3:List S68) (st:Int) (hT:l0.length≤1000) (hS:l2.length≤1000):∀ (d k j:Nat) (x:List Int),l0.length - j≤d→j≤l0.length→d+l2.length+1 < k→x.length+d < 5000→states_symbols.l0 k x (l0.length:Int) (j:Int) l0 l1 l2 l3 st=some (x ++ ((List.range l0.length).drop j).map (fun (i:Nat)=>(i:Int)) ++ (List.range l2.length).map (fun (i:Nat)=>-1 - (i:Int))):=by
 intro d
 induction d with
 | zero =>
  intro k j x h1 h2 h3 h5
  obtain ⟨k,rfl⟩:∃ m,k=m+1:=⟨k - 1,by omega⟩
  rw [states_symbols.l0,if_neg (by omega)]
  rw [List.drop_eq_nil_of_le (by simp;omega)]
  have:=sy1 l2.length k l2.length 0 x (by omega) (by omega) (by omega) hS (by omega)
  simpa using this
 | succ d ih =>
  intro k j x h1 h2 h3 h5
  obtain ⟨k,rfl⟩:∃ m,k=m+1:=⟨k - 1,by omega⟩
  rw [states_symbols.l0]
  by_cases hj:(j:Int) < (l0.length:Int)
  ·rw [if_pos hj,if_pos (by omega),IntWalk.wrap64_in _ (by omega)]
   have:=ih k (j+1) (x ++ [(j:Int)]) (by omega) (by omega) (by omega) (by rw [List.length_append,List.length_singleton];omega)
   rw [show ((j:Int)+1)=((j+1:Nat):Int) by omega,this]
   rw [List.drop_eq_getElem_cons (i:=j) (l:=List.range l0.length) (by simp;omega)]
   simp
  ·rw [if_neg hj]
   rw [List.drop_eq_nil_of_le (by simp;omega)]
   have:=sy1 l2.length k l2.length 0 x (by omega) (by omega) (by omega) hS (by omega)
   simpa using this
theorem symbols_is (l0:List S65) (l1:List S73) (l2:List ByteArray) (l3:List S68) (st:Int) (hT:l0.length≤60) (hS:l2.length≤60):states_symbols.f 300 l0 l1 l2 l3 st=some (symsL l0.length l2.length):=by
 unfold states_symbols.f symsL
 have:=sy0 l0 l1 l2 l3 st (by omega) (by omega) l0.length 300 0 [] (by omega) (by omega) (by omega) (by simp;omega)
 simpa using this
end Go.Proofs.YtclollnicbcooaaGreatDoor.P
